/- Walk of the document's uses: which fields an operation has. No condition. -/
import Derived.Test.YtnnlhhokljjghaaPlainM
set_option linter.unusedVariables false
set_option linter.unusedSimpArgs false
namespace Go.Proofs.Ytnnlhhokljjghaa
open Go.RowKit

def letterOf (f : Nat) : Int := ([68, 65, 66, 73] : List Int).getD f 0
set_option maxRecDepth 100000 in
set_option maxHeartbeats 8000000 in
theorem uses_any (op : Int) (cs : List Int) (h : lettersOf op = some cs) (f : Nat) (hf : f < 4) (w : World) :
    Calls Try.prog 32 #[.int .u8 op, .int .i64 f] w fun e w' => e = .returned (.bool (useK cs (letterOf f))) ∧ Below w.heap.size w w' := by
  by_cases h1 : op = 1 ∨ op = 2 ∨ op = 3 ∨ op = 4 ∨ op = 5 ∨ op = 6 ∨ op = 7 ∨ op = 8 ∨ op = 9 ∨ op = 10 ∨ op = 11 ∨ op = 12 ∨ op = 13
  · rcases h1 with rfl | rfl | rfl | rfl | rfl | rfl | rfl | rfl | rfl | rfl | rfl | rfl | rfl
    all_goals
      simp only [lettersOf] at h
      simp at h
      subst h
      rcases (show f = 0 ∨ f = 1 ∨ f = 2 ∨ f = 3 by omega) with rfl | rfl | rfl | rfl
      all_goals
        go_enter Try.func32, Try.ntmps32
        go_wp2_with fail
        go_ret
        exact ⟨by rfl, (Below.refl _ _).alloc (Nat.le_refl _) _⟩
  · have h2 : 39 ≤ op ∧ op ≤ 52 ∧ cs = [68, 65, 66] := by
      unfold lettersOf at h
      rw [if_neg (by omega), if_neg (by omega), if_neg (by omega), if_neg (by omega), if_neg (by omega), if_neg (by omega), if_neg (by omega), if_neg (by omega)] at h
      by_cases h3 : 39 ≤ op ∧ op ≤ 52
      · rw [if_pos h3] at h
        injection h with h
        exact ⟨h3.1, h3.2, h.symm⟩
      · rw [if_neg h3] at h; cases h
    obtain ⟨g1, g2, rfl⟩ := h2
    have g3 : (32 : Int) ≤ op := by omega
    clear h h1
    rcases (show f = 0 ∨ f = 1 ∨ f = 2 ∨ f = 3 by omega) with rfl | rfl | rfl | rfl
    all_goals
      go_enter Try.func32, Try.ntmps32
      go_wp2_with fail
      go_ret
      exact ⟨by rfl, Below.refl _ _⟩
end Go.Proofs.Ytnnlhhokljjghaa
