/- Walk of the document's Bounded. Conditions: the program lies in memory. -/
import Derived.Test.YtcaefdfdngecdaaBnd
import Derived.Test.YtcaefdfdngecdaaSame3
set_option linter.unusedVariables false
set_option linter.unusedSimpArgs false
namespace Go.Proofs.Ytcaefdfdngecdaa
open Go.RowKit

theorem boundF_iff (f : FuncD) : boundF f = true ↔ f.params ≤ 4 ∧ f.locals.length ≤ 16 ∧ f.code.length ≤ 256 := by unfold boundF; rw [decide_eq_true_eq]
set_option maxRecDepth 100000 in
set_option maxHeartbeats 1000000 in
theorem refbounded_any (fsv : Value) (fs : List FuncD) (w : World) (B : Nat) (hp : FuncsAt w B fsv fs) (hB : B ≤ w.heap.size) :
    Calls Try.prog 12 #[.agg #[fsv]] w fun e w' => e = .returned (.bool (boundP fs)) ∧ Below w.heap.size w w' := by
  obtain ⟨A, n, c, css, rfl, hc1, hc2, hl, hcl, hr, hcs⟩ := hp
  have h5 := css_five hl hcl hcs
  unfold maxLen at hc2
  have hb0 : Below w.heap.size w (w.alloc (.cells #[.slice A n c] 26)) := (Below.refl _ _).alloc (Nat.le_refl _) _
  have HL := Lib.hid hl
  have HC := Lib.hid hcl
  have HCS := Lib.hid hcs
  have HR := Lib.hid hr
  clear hr hcs hcl hl
  obtain ⟨b0, hb00⟩ : ∃ b, b = decide ((n : Int) ≤ 16) := ⟨_, rfl⟩
  have hb01 : decide ((n : Int) ≤ 16) = b0 := hb00.symm
  clear hb00
  go_enter Try.func12, Try.ntmps12
  go_wp2_with fail
  have Hb01 := Lib.hid hb01
  have Hb0 := Lib.hid hb0
  clear hb0 hb01
  go_loopw [3, 13] (fun o i wr => ∃ j : Nat, ∃ b : Bool, j ≤ n ∧ i = .int .i64 j ∧ o = .bool b ∧ Below w.heap.size w wr ∧ Hid (b = (b0 && (fs.take j).all boundF))) (fun _ i _ => n - (intOf i).toNat)
  case atStart => exact ⟨0, b0, by omega, rfl, rfl, Hb0.out, by show _ = _; simp⟩
  case round =>
    obtain ⟨j, b, hj, rfl, rfl, hbw, hoks⟩ := hrel
    by_cases hlt : j < n
    · have hrw := (HR.out.below (hbw.mono hB))
      obtain ⟨ad, hA, _, _⟩ := HR.out.2 (by omega)
      subst hA
      obtain ⟨f, hfk⟩ : ∃ f, fs[j]? = some f := ⟨_, List.getElem?_eq_getElem (by have := HL.out; omega)⟩
      obtain ⟨cs, hck, lv, cv, rfl, hlv, hcv⟩ := HCS.out j f hfk
      obtain ⟨LA, ln, lc, rfl, hl1, hl2, hl3, _⟩ := hlv
      obtain ⟨CA, cn, cc, rfl, hm1, hm2, hm3, _⟩ := hcv
      obtain ⟨g0, g1, g2, g3, g4⟩ := func_cells hrw HC.out h5 j f _ _ hck
      have hbf := boundF_iff f
      rw [hl3, hm3] at hbf
      have hbx := hbw.alloc hbw.size (.cells #[.int .i64 f.params, .slice LA ln lc, .bool f.result, .int .i64 f.keep, .slice CA cn cc] 45)
      have hstep : ∀ b', b' = (b && boundF f) → b' = (b0 && (fs.take (j + 1)).all boundF) := by
        intro b' h
        rw [h, hoks.out, List.take_add_one, hfk, Option.toList, List.all_append, Bool.and_assoc]
        simp
      have Hbf := Lib.hid hbf
      have Hbx := Lib.hid hbx
      have Hstep := Lib.hid hstep
      clear hstep hbx hbf
      clear hrw hck hfk hl3 hm3 hbw
      cases b
      · go_wp2_with fail
        exact ⟨⟨j + 1, false, by omega, by go_num, rfl, Hbx.out, Hstep.out _ (by simp)⟩, by simp [intOf]; omega⟩
      · by_cases e1 : f.params ≤ 4
        · have d1 : decide (f.params ≤ (4 : Int)) = true := by simpa using e1
          by_cases e2 : (ln : Int) ≤ 16
          · have d2 : decide ((ln : Int) ≤ 16) = true := by simpa using e2
            by_cases e3 : (cn : Int) ≤ 256
            · have d3 : decide ((cn : Int) ≤ 256) = true := by simpa using e3
              go_wp2_with fail
              exact ⟨⟨j + 1, true, by omega, by go_num, rfl, Hbx.out, Hstep.out _ (by rw [(Hbf.out).2 ⟨e1, by omega, by omega⟩]; rfl)⟩, by simp [intOf]; omega⟩
            · have d3 : decide ((cn : Int) ≤ 256) = false := by simpa using e3
              go_wp2_with fail
              exact ⟨⟨j + 1, false, by omega, by go_num, rfl, Hbx.out, Hstep.out _ (by rw [show boundF f = false from Bool.eq_false_iff.2 (fun h => by have := (Hbf.out).1 h; omega)]; rfl)⟩, by simp [intOf]; omega⟩
          · have d2 : decide ((ln : Int) ≤ 16) = false := by simpa using e2
            go_wp2_with fail
            exact ⟨⟨j + 1, false, by omega, by go_num, rfl, Hbx.out, Hstep.out _ (by rw [show boundF f = false from Bool.eq_false_iff.2 (fun h => by have := (Hbf.out).1 h; omega)]; rfl)⟩, by simp [intOf]; omega⟩
        · have d1 : decide (f.params ≤ (4 : Int)) = false := by simpa using e1
          go_wp2_with fail
          exact ⟨⟨j + 1, false, by omega, by go_num, rfl, Hbx.out, Hstep.out _ (by rw [show boundF f = false from Bool.eq_false_iff.2 (fun h => by have := (Hbf.out).1 h; omega)]; rfl)⟩, by simp [intOf]; omega⟩
    · obtain rfl : n = j := by omega
      have Hbw := Lib.hid hbw
      clear hbw
      go_wp2_with fail
      go_ret
      refine ⟨ret_b ?_, Hbw.out⟩
      rw [hoks.out, List.take_of_length_le (by rw [HL.out]; omega), boundP, HL.out, Bool.and_comm, ← Hb01.out]
      congr 1
      apply decide_eq_decide.2
      omega
end Go.Proofs.Ytcaefdfdngecdaa
