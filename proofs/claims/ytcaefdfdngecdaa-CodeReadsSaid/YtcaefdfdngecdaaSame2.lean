/- Walks of code.Same and what it hands to slices.EqualFunc. Conditions: both programs lie in memory. -/
import Derived.Test.YtcaefdfdngecdaaSame1
import Derived.Test.YtcaefdfdngecdaaEnc4
set_option linter.unusedVariables false
set_option linter.unusedSimpArgs false
namespace Go.Proofs.Ytcaefdfdngecdaa
open Go.RowKit

def eqF (f g : FuncD) : Bool := f.params == g.params && f.locals == g.locals && f.result == g.result && f.keep == g.keep && eqIs f.code g.code
theorem eqF_iff (f g : FuncD) : eqF f g = true ↔ f = g := by
  obtain ⟨a, b, c, d, e⟩ := f
  obtain ⟨a', b', c', d', e'⟩ := g
  simp only [eqF, Bool.and_eq_true, beq_iff_eq, eqIs_iff, FuncD.mk.injEq]
  constructor
  · rintro ⟨⟨⟨⟨h1, h2⟩, h3⟩, h4⟩, h5⟩; exact ⟨h1, h2, h3, h4, h5⟩
  · rintro ⟨h1, h2, h3, h4, h5⟩; exact ⟨⟨⟨⟨h1, h2⟩, h3⟩, h4⟩, h5⟩
theorem eqF_not {f g : FuncD} (h : f ≠ g) : eqF f g = false := by
  cases he : eqF f g with
  | false => rfl
  | true => exact absurd ((eqF_iff _ _).1 he) h
/-- are two programs the same? -/
def eqP : List FuncD → List FuncD → Bool
  | [], [] => true
  | f :: fs, g :: gs => eqF f g && eqP fs gs
  | _, _ => false
theorem eqP_iff : ∀ (fs gs : List FuncD), eqP fs gs = true ↔ fs = gs
  | [], [] => by simp [eqP]
  | [], _ :: _ => by simp [eqP]
  | _ :: _, [] => by simp [eqP]
  | f :: fs, g :: gs => by simp [eqP, eqF_iff, eqP_iff fs gs]
theorem eqP_not {fs gs : List FuncD} (h : fs ≠ gs) : eqP fs gs = false := by
  cases he : eqP fs gs with
  | false => rfl
  | true => exact absurd ((eqP_iff _ _).1 he) h
theorem KindsAt.drewN {w : World} {B : Nat} {v : Value} {ks : List Int} (h : KindsAt w B v ks) (k : Nat) : KindsAt (w.drewN k) B v ks := h
theorem CodeAt.drewN {w : World} {B : Nat} {v : Value} {is : List InstrD} (h : CodeAt w B v is) (k : Nat) : CodeAt (w.drewN k) B v is := h
set_option maxRecDepth 100000 in
set_option maxHeartbeats 1000000 in
theorem same1_any (f g : FuncD) (lv cv lv' cv' : Value) (w : World) (B : Nat) (hB : B ≤ w.heap.size) (h1 : KindsAt w B lv f.locals) (h2 : CodeAt w B cv f.code) (h3 : KindsAt w B lv' g.locals) (h4 : CodeAt w B cv' g.code) :
    Calls Try.prog 28 #[.agg (fcells f lv cv).toArray, .agg (fcells g lv' cv').toArray] w fun e w' => e = .returned (.bool (eqF f g)) ∧ Below w.heap.size w w' := by
  obtain ⟨⟨LA, ln, lc, rfl⟩, ⟨CA, cn, cc, rfl⟩⟩ : (∃ A n c, lv = .slice A n c) ∧ (∃ A n c, cv = .slice A n c) := by
    obtain ⟨a1, a2, a3, e1, _⟩ := h1
    obtain ⟨b1, b2, b3, e2, _⟩ := h2
    exact ⟨⟨a1, a2, a3, e1⟩, ⟨b1, b2, b3, e2⟩⟩
  obtain ⟨⟨LA', ln', lc', rfl⟩, ⟨CA', cn', cc', rfl⟩⟩ : (∃ A n c, lv' = .slice A n c) ∧ (∃ A n c, cv' = .slice A n c) := by
    obtain ⟨a1, a2, a3, e1, _⟩ := h3
    obtain ⟨b1, b2, b3, e2, _⟩ := h4
    exact ⟨⟨a1, a2, a3, e1⟩, ⟨b1, b2, b3, e2⟩⟩
  obtain ⟨p, ks, r, k, is⟩ := f
  obtain ⟨p', ks', r', k', is'⟩ := g
  simp only [fcells] at *
  have hbb : Below w.heap.size w ((w.alloc (.cells #[.int .i64 p, .slice LA ln lc, .bool r, .int .i64 k, .slice CA cn cc] 45)).alloc (.cells #[.int .i64 p', .slice LA' ln' lc', .bool r', .int .i64 k', .slice CA' cn' cc'] 45)) := ((Below.refl _ _).alloc (Nat.le_refl _) _).alloc (by simp) _
  have g1 := h1.below (hbb.mono hB)
  have g2 := h2.below (hbb.mono hB)
  have g3 := h3.below (hbb.mono hB)
  have g4 := h4.below (hbb.mono hB)
  have Hbb := Lib.hid hbb
  have Hg1 := Lib.hid g1
  have Hg2 := Lib.hid g2
  have Hg3 := Lib.hid g3
  have Hg4 := Lib.hid g4
  clear g4 g3 g2 g1 hbb
  clear h1 h2 h3 h4
  by_cases e1 : p = p'
  · by_cases e2 : r = r'
    · by_cases e3 : k = k'
      · subst e1 e2 e3
        have b1 : (p == p) = true := by simp
        have b2 : (r == r) = true := by simp
        have b3 : (k == k) = true := by simp
        by_cases e4 : ks = ks'
        · have d4 := decide_eq_true e4
          have E4 := Lib.hid e4
          clear e4
          go_enter Try.func28, Try.ntmps28
          go_wp2_with fail
          refine (eqKinds_any _ _ _ _ _ _ _ Hg1.out Hg3.out).mono ?_
          rintro e w1 ⟨rfl, q, rfl⟩
          rw [d4]
          go_wp2_with fail
          refine (eqInstrs_any _ _ _ _ _ _ _ (Hg2.out.drewN q) (Hg4.out.drewN q)).mono ?_
          rintro e w1 ⟨rfl, q', rfl⟩
          go_wp2_with fail
          go_ret
          refine ⟨ret_b ?_, below_drewN Hbb.out _⟩
          by_cases e5 : is = is'
          · rw [(eqIs_iff _ _).2 e5, (eqF_iff _ _).2 (by rw [E4.out, e5])]
          · rw [eqIs_not e5, eqF_not (by intro h; injection h with _ _ _ _ h; exact e5 h)]
        · have d4 := decide_eq_false e4
          have E4 := Lib.hid e4
          clear e4
          go_enter Try.func28, Try.ntmps28
          go_wp2_with fail
          refine (eqKinds_any _ _ _ _ _ _ _ Hg1.out Hg3.out).mono ?_
          rintro e w1 ⟨rfl, q, rfl⟩
          rw [d4]
          go_wp2_with fail
          go_ret
          exact ⟨ret_b (eqF_not (by intro h; injection h with _ h; exact E4.out h)).symm, below_drewN Hbb.out _⟩
      · have b3 : (k == k') = false := by simpa using e3
        have E3 := Lib.hid e3
        subst e1 e2
        have b1 : (p == p) = true := by simp
        have b2 : (r == r) = true := by simp
        clear e3
        go_enter Try.func28, Try.ntmps28
        go_wp2_with fail
        go_ret
        exact ⟨ret_b (eqF_not (by intro h; injection h with _ _ _ h; exact E3.out h)).symm, Hbb.out⟩
    · have b2 : (r == r') = false := by simpa using e2
      have E2 := Lib.hid e2
      subst e1
      have b1 : (p == p) = true := by simp
      clear e2
      go_enter Try.func28, Try.ntmps28
      go_wp2_with fail
      go_ret
      exact ⟨ret_b (eqF_not (by intro h; injection h with _ _ h; exact E2.out h)).symm, Hbb.out⟩
  · have b1 : (p == p') = false := by simpa using e1
    have E1 := Lib.hid e1
    clear e1
    go_enter Try.func28, Try.ntmps28
    go_wp2_with fail
    go_ret
    exact ⟨ret_b (eqF_not (by intro h; injection h with h; exact E1.out h)).symm, Hbb.out⟩
end Go.Proofs.Ytcaefdfdngecdaa
