/- Walk of Bounded. Conditions: the program lies in memory. -/
import Derived.Test.YtcaefdfdngecdaaEnc4
set_option linter.unusedVariables false
set_option linter.unusedSimpArgs false
namespace Go.Proofs.Ytcaefdfdngecdaa
open Go.RowKit

def boundF (f : FuncD) : Bool := decide (f.params ≤ 4 ∧ f.locals.length ≤ 16 ∧ f.code.length ≤ 256)
def boundP (fs : List FuncD) : Bool := fs.all boundF && decide (fs.length ≤ 16)
set_option maxRecDepth 100000 in
set_option maxHeartbeats 1000000 in
theorem bounded_any (fsv : Value) (fs : List FuncD) (w : World) (B : Nat) (hp : FuncsAt w B fsv fs) (hB : B ≤ w.heap.size) :
    Calls Try.prog 17 #[.agg #[fsv]] w fun e w' => e = .returned (.bool (boundP fs)) ∧ Below w.heap.size w w' := by
  obtain ⟨A, n, c, css, rfl, hc1, hc2, hl, hcl, hr, hcs⟩ := hp
  have h5 := css_five hl hcl hcs
  unfold maxLen at hc2
  have k0 : (w.alloc (.cells #[.slice A n c] 26)).cell? ⟨w.heap.size, 0, none⟩ = some (.slice A n c) := (Blk.new w 26 #[.slice A n c]).cell 0
  have hb0 : Below w.heap.size w (w.alloc (.cells #[.slice A n c] 26)) := (Below.refl _ _).alloc (Nat.le_refl _) _
  have hk0 : Blk (w.alloc (.cells #[.slice A n c] 26)) w.heap.size 26 #[.slice A n c] := Blk.new w _ _
  have HK := Lib.hid hk0
  have HL := Lib.hid hl
  have HC := Lib.hid hcl
  have HCS := Lib.hid hcs
  have HR := Lib.hid hr
  clear hl hcl hcs hk0 hr
  go_enter Try.func17, Try.ntmps17
  go_wp2_with fail
  clear k0
  go_loopw [8] (fun i wr => ∃ j : Nat, j ≤ n ∧ i = .int .i64 j ∧ Below w.heap.size w wr ∧ Blk wr w.heap.size 26 #[.slice A n c] ∧ Hid (∀ x ∈ fs.take j, boundF x = true)) (fun i _ => n - (intOf i).toNat)
  case atStart => exact ⟨0, by omega, rfl, hb0, HK.out, by intro x hx; simp at hx⟩
  case round =>
    obtain ⟨j, hj, rfl, hbw, hk, hoks⟩ := hrel
    clear hb0
    have hklt := hk.lt
    by_cases hlt : j < n
    · have hrw := (HR.out.below (hbw.mono hB))
      obtain ⟨ad, hA, _, _⟩ := HR.out.2 (by omega)
      subst hA
      obtain ⟨f, hfk⟩ : ∃ f, fs[j]? = some f := ⟨_, List.getElem?_eq_getElem (by have := HL.out; omega)⟩
      obtain ⟨cs, hck, lv, cv, rfl, hlv, hcv⟩ := HCS.out j f hfk
      obtain ⟨LA, ln, lc, rfl, hl1, hl2, hl3, _⟩ := hlv
      obtain ⟨CA, cn, cc, rfl, hm1, hm2, hm3, _⟩ := hcv
      obtain ⟨g0, g1, g2, g3, g4⟩ := func_cells hrw HC.out h5 j f _ _ hck
      have HX := Lib.hid hfk
      have hk2 := hk.alloc (.cells #[.int .i64 f.params, .slice LA ln lc, .bool f.result, .int .i64 f.keep, .slice CA cn cc] 45)
      have HK2 := Lib.hid hk2
      have HL3 := Lib.hid hl3
      have HM3 := Lib.hid hm3
      unfold maxLen at hl2 hm2
      have hbx := hbw.alloc (by omega) (.cells #[.int .i64 f.params, .slice LA ln lc, .bool f.result, .int .i64 f.keep, .slice CA cn cc] 45)
      have HBX := Lib.hid hbx
      clear hrw hck hfk hk hk2 hl3 hm3 hbx
      have hno : Hid (boundF f = false → boundP fs = false) := by
        intro h
        have : fs.all boundF = false := by rw [List.all_eq_false]; exact ⟨f, List.mem_of_getElem? HX.out, by simp [h]⟩
        unfold boundP
        rw [this, Bool.false_and]
      by_cases e1 : (4 : Int) < f.params
      · have d1 : decide ((4 : Int) < f.params) = true := by simpa using e1
        go_wp2_with fail
        go_ret
        refine ⟨?_, HBX.out⟩
        rw [hno.out (by unfold boundF; rw [decide_eq_false_iff_not]; omega)]
        rfl
      · have d1 : decide ((4 : Int) < f.params) = false := by simpa using e1
        by_cases e2 : (16 : Int) < ln
        · have d2 : decide ((16 : Int) < ln) = true := by simpa using e2
          go_wp2_with fail
          go_ret
          refine ⟨?_, HBX.out⟩
          rw [hno.out (by unfold boundF; rw [decide_eq_false_iff_not]; have := HL3.out; omega)]
          rfl
        · have d2 : decide ((16 : Int) < ln) = false := by simpa using e2
          by_cases e3 : (256 : Int) < cn
          · have d3 : decide ((256 : Int) < cn) = true := by simpa using e3
            go_wp2_with fail
            go_ret
            refine ⟨?_, HBX.out⟩
            rw [hno.out (by unfold boundF; rw [decide_eq_false_iff_not]; have := HM3.out; omega)]
            rfl
          · have d3 : decide ((256 : Int) < cn) = false := by simpa using e3
            go_wp2_with fail
            refine ⟨⟨j + 1, by omega, by go_num, HBX.out, HK2.out, ?_⟩, by simp [intOf]; omega⟩
            show ∀ y ∈ _, boundF y = true
            rw [List.take_add_one, HX.out]
            intro y hy
            rcases List.mem_append.1 hy with h | h
            · exact hoks.out y h
            · simp at h; rw [h]; unfold boundF; rw [decide_eq_true_eq]; have := HL3.out; have := HM3.out; omega
    · have hjn : j = n := by omega
      have k0 := hk.cell 0
      simp only [List.getElem?_toArray, List.getElem?_cons_zero] at k0
      have hall : fs.all boundF = true := by
        rw [List.all_eq_true]
        intro y hy
        exact hoks.out y (by rw [List.take_of_length_le (by have := HL.out; omega)]; exact hy)
      have hP : Hid (boundP fs = decide ((n : Int) ≤ 16)) := by
        show _ = _
        unfold boundP
        rw [hall, Bool.true_and, HL.out]
        apply decide_eq_decide.2
        omega
      have HBW := Lib.hid hbw
      clear hall hk hbw
      go_wp2_with fail
      go_ret
      exact ⟨by rw [hP.out]; rfl, HBW.out⟩
end Go.Proofs.Ytcaefdfdngecdaa
