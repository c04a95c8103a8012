/- Walk of code.Same. Conditions: both programs lie in memory. -/
import Derived.Test.YtcaefdfdngecdaaSame2
set_option linter.unusedVariables false
set_option linter.unusedSimpArgs false
namespace Go.Proofs.Ytcaefdfdngecdaa
open Go.RowKit

set_option maxRecDepth 100000 in
set_option maxHeartbeats 1000000 in
theorem eqfunc_any (v1 v2 : Value) (fs gs : List FuncD) (w : World) (B : Nat) (hB : B ≤ w.heap.size) (h1 : FuncsAt w B v1 fs) (h2 : FuncsAt w B v2 gs) :
    Calls Try.prog 27 #[v1, v2, .func (.func 28) #[] #[]] w fun e w' => e = .returned (.bool (eqP fs gs)) ∧ Below w.heap.size w w' := by
  obtain ⟨A, n, c, css, rfl, hc1, hc2, hl, hcl, hr, hcs⟩ := id h1
  obtain ⟨A', m, c', css', rfl, hc1', hc2', hl', hcl', hr', hcs'⟩ := id h2
  have h5 := css_five hl hcl hcs
  have h5' := css_five hl' hcl' hcs'
  unfold maxLen at hc2 hc2'
  by_cases hnm : n = m
  · subst hnm
    have Hl := Lib.hid hl
    have Hl' := Lib.hid hl'
    have Hcl := Lib.hid hcl
    have Hcl' := Lib.hid hcl'
    have Hr := Lib.hid hr
    have Hr' := Lib.hid hr'
    have Hcs := Lib.hid hcs
    have Hcs' := Lib.hid hcs'
    clear hcs' hcs hr' hr hcl' hcl hl' hl
    clear h1 h2
    go_enter Try.func27, Try.ntmps27
    go_wp2_with fail
    go_loopw [17] (fun i wr => ∃ j : Nat, j ≤ n ∧ i = .int .i64 j ∧ Below w.heap.size w wr ∧ Hid (fs.take j = gs.take j)) (fun i _ => n - (intOf i).toNat)
    case atStart => exact ⟨0, by omega, rfl, Below.refl _ _, by show _ = _; simp⟩
    case round =>
      obtain ⟨j, hj, rfl, hbw, ht⟩ := hrel
      by_cases hlt : j < n
      · have hrw := Hr.out.below (hbw.mono hB)
        obtain ⟨ad, hA, _, _⟩ := Hr.out.2 (by omega)
        subst hA
        obtain ⟨ad', hA', _, _⟩ := Hr'.out.2 (by omega)
        subst hA'
        obtain ⟨f, hfk⟩ : ∃ f, fs[j]? = some f := ⟨_, List.getElem?_eq_getElem (by have := Hl.out; omega)⟩
        obtain ⟨g, hgk⟩ : ∃ g, gs[j]? = some g := ⟨_, List.getElem?_eq_getElem (by have := Hl'.out; omega)⟩
        obtain ⟨cs, hck, lv, cv, rfl, hlv, hcv⟩ := Hcs.out j f hfk
        obtain ⟨cs', hck', lv', cv', rfl, hlv', hcv'⟩ := Hcs'.out j g hgk
        obtain ⟨⟨LA, ln, lc, rfl⟩, ⟨CA, cn, cc, rfl⟩⟩ : (∃ A n c, lv = .slice A n c) ∧ (∃ A n c, cv = .slice A n c) := by
          obtain ⟨a1, a2, a3, e1, _⟩ := hlv
          obtain ⟨b1, b2, b3, e2, _⟩ := hcv
          exact ⟨⟨a1, a2, a3, e1⟩, ⟨b1, b2, b3, e2⟩⟩
        obtain ⟨⟨LA', ln', lc', rfl⟩, ⟨CA', cn', cc', rfl⟩⟩ : (∃ A n c, lv' = .slice A n c) ∧ (∃ A n c, cv' = .slice A n c) := by
          obtain ⟨a1, a2, a3, e1, _⟩ := hlv'
          obtain ⟨b1, b2, b3, e2, _⟩ := hcv'
          exact ⟨⟨a1, a2, a3, e1⟩, ⟨b1, b2, b3, e2⟩⟩
        obtain ⟨g0, g1, g2, g3, g4⟩ := func_cells hrw Hcl.out h5 j f _ _ hck
        have hrw' := (Hr'.out.below (hbw.mono hB)).alloc (by have := hbw.size; omega) (.cells #[.int .i64 f.params, .slice LA ln lc, .bool f.result, .int .i64 f.keep, .slice CA cn cc] 45)
        obtain ⟨k0, k1, k2, k3, k4⟩ := func_cells hrw' Hcl'.out h5' j g _ _ hck'
        have i0 : (0 : Int) ≤ (j : Int) := by omega
        have i1 : (j : Int) < (n : Int) := by omega
        have hbx : Below w.heap.size w ((wr.alloc (.cells #[.int .i64 f.params, .slice LA ln lc, .bool f.result, .int .i64 f.keep, .slice CA cn cc] 45)).alloc (.cells #[.int .i64 g.params, .slice LA' ln' lc', .bool g.result, .int .i64 g.keep, .slice CA' cn' cc'] 45)) := (hbw.alloc hbw.size _).alloc (by have := hbw.size; simp; omega) _
        have s1 := hlv.below (hbx.mono hB)
        have s2 := hcv.below (hbx.mono hB)
        have s3 := hlv'.below (hbx.mono hB)
        have s4 := hcv'.below (hbx.mono hB)
        have hsz := hbw.size
        have HX := Lib.hid hfk
        have HY := Lib.hid hgk
        have Hbx := Lib.hid hbx
        have Hs1 := Lib.hid s1
        have Hs2 := Lib.hid s2
        have Hs3 := Lib.hid s3
        have Hs4 := Lib.hid s4
        clear s4 s3 s2 s1 hbx hgk hfk
        clear hrw hrw' hlv hcv hlv' hcv' hck hck' hbw
        go_wp2_with fail
        refine (same1_any f g _ _ _ _ _ B (by simp; omega) Hs1.out Hs2.out Hs3.out Hs4.out).mono ?_
        rintro e w2 ⟨rfl, hb2⟩
        have hb3 := Hbx.out.trans (hb2.mono (by simp; omega))
        have Hb3 := Lib.hid hb3
        clear hb3
        clear hb2 g0 g1 g2 g3 g4 k0 k1 k2 k3 k4
        by_cases hfg : f = g
        · have he := (eqF_iff f g).2 hfg
          have Hfg := Lib.hid hfg
          clear hfg
          rw [he]
          clear he
          go_wp2_with fail
          exact ⟨⟨j + 1, by omega, by go_num, Hb3.out, take_snoc_eq ht.out (by rw [HX.out, HY.out, Hfg.out])⟩, by simp [intOf]; omega⟩
        · have he := eqF_not hfg
          have Hfg := Lib.hid hfg
          clear hfg
          rw [he]
          clear he
          go_wp2_with fail
          go_ret
          exact ⟨ret_b (eqP_not (ne_of_at (j := j) (by rw [HX.out, HY.out]; simpa using Hfg.out))).symm, Hb3.out⟩
      · obtain rfl : n = j := by omega
        have Hbw := Lib.hid hbw
        clear hbw
        go_wp2_with fail
        go_ret
        refine ⟨ret_b ((eqP_iff _ _).2 ?_).symm, Hbw.out⟩
        have := ht.out
        rwa [List.take_of_length_le (by rw [Hl.out]; omega), List.take_of_length_le (by rw [Hl'.out]; omega)] at this
  · have hb : ((n : Int) != (m : Int)) = true := by rw [bne_iff_ne]; omega
    have Hl := Lib.hid hl
    have Hl' := Lib.hid hl'
    have Hnm := Lib.hid hnm
    clear hnm hl' hl
    clear h1 h2 hcl hcl' hr hr' hcs hcs'
    go_enter Try.func27, Try.ntmps27
    go_wp2_with fail
    go_ret
    exact ⟨ret_b (eqP_not (fun h => Hnm.out (by rw [← Hl.out, ← Hl'.out, h]))).symm, Below.refl _ _⟩
set_option maxRecDepth 100000 in
set_option maxHeartbeats 1000000 in
theorem same_any (v1 v2 : Value) (fs gs : List FuncD) (w : World) (B : Nat) (hB : B ≤ w.heap.size) (h1 : FuncsAt w B v1 fs) (h2 : FuncsAt w B v2 gs) :
    Calls Try.prog 18 #[.agg #[v1], .agg #[v2]] w fun e w' => e = .returned (.bool (eqP fs gs)) ∧ Below w.heap.size w w' := by
  obtain ⟨⟨A, n, c, rfl⟩, ⟨A', n', c', rfl⟩⟩ : (∃ A n c, v1 = .slice A n c) ∧ (∃ A n c, v2 = .slice A n c) := by
    obtain ⟨a1, a2, a3, _, e1, _⟩ := h1
    obtain ⟨b1, b2, b3, _, e2, _⟩ := h2
    exact ⟨⟨a1, a2, a3, e1⟩, ⟨b1, b2, b3, e2⟩⟩
  have hbb : Below w.heap.size w ((w.alloc (.cells #[.slice A n c] 26)).alloc (.cells #[.slice A' n' c'] 26)) := ((Below.refl _ _).alloc (Nat.le_refl _) _).alloc (by simp) _
  have H1 := Lib.hid h1
  have H2 := Lib.hid h2
  have Hbb := Lib.hid hbb
  clear hbb h2 h1
  go_enter Try.func18, Try.ntmps18
  go_wp2_with fail
  refine (eqfunc_any _ _ fs gs _ B (by simp; omega) (H1.out.below (Hbb.out.mono hB)) (H2.out.below (Hbb.out.mono hB))).mono ?_
  rintro e w2 ⟨rfl, hb2⟩
  have hb3 := Hbb.out.trans (hb2.mono (by simp; omega))
  have Hb3 := Lib.hid hb3
  clear hb3
  clear hb2
  go_wp2_with fail
  go_ret
  exact ⟨rfl, Hb3.out⟩
end Go.Proofs.Ytcaefdfdngecdaa
