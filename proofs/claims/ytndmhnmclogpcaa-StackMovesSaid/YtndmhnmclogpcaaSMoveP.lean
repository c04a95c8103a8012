/- What the document's Move makes of words, plain: step by step. No condition. -/
import Derived.Test.YtndmhnmclogpcaaMoveP
set_option linter.unusedVariables false
set_option linter.unusedSimpArgs false
namespace Go.Proofs.Ytndmhnmclogpcaa
open Go.RowKit

/-- one more place is looked at -/
theorem mvW_more {base E y a v : Int} {S : List Int} {b : Int} : mvW base E y (S ++ [b]) a v = if b = a ∧ base ≤ v ∧ v < E then IntKind.u64.wrap (v + y) else mvW base E y S a v := by
  unfold mvW
  by_cases h1 : base ≤ v ∧ v < E
  · by_cases h2 : b = a
    · subst h2
      rw [if_pos ⟨by simp, h1⟩, if_pos ⟨rfl, h1⟩]
    · rw [if_neg (fun h : b = a ∧ _ => h2 h.1)]
      have e : (a ∈ S ++ [b]) ↔ a ∈ S := by
        simp only [List.mem_append, List.mem_singleton]
        constructor
        · rintro (h | h)
          · exact h
          · exact absurd h.symm h2
        · exact Or.inl
      simp only [e]
  · rw [if_neg (fun h : _ ∧ base ≤ v ∧ v < E => h1 h.2), if_neg (fun h : _ ∧ base ≤ v ∧ v < E => h1 h.2), if_neg (fun h : _ ∧ base ≤ v ∧ v < E => h1 h.2)]
theorem moved_word (v E T y : Int) (hy : y = IntKind.u64.wrap (T - E)) : IntKind.u64.wrap (IntKind.u64.wrap (v - E) + IntKind.u64.wrap T) = IntKind.u64.wrap (v + y) := by
  rw [hy, IntKind.wrap_u64, IntKind.wrap_u64, IntKind.wrap_u64, IntKind.wrap_u64, IntKind.wrap_u64]
  omega
/-- one more word lies in the new memory -/
theorem fresh_step {z U i : Nat} {t : List Int} {v : Int} (hi : i < U) (ht : t[i]? = some v) : (List.replicate z 0 ++ (t.take i ++ List.replicate (U - i) 0)).set (z + i) v = List.replicate z 0 ++ (t.take (i + 1) ++ List.replicate (U - (i + 1)) 0) := by
  have hl : i < t.length := (List.getElem?_eq_some_iff.1 ht).1
  rw [List.set_append_right _ _ (by simp), List.length_replicate, show z + i - z = i by omega, List.set_append_right _ _ (by simp; omega), List.length_take, show i - min i t.length = 0 by omega, show U - i = (U - (i + 1)) + 1 by omega, List.replicate_succ, List.set_cons_zero, List.take_add_one, ht]
  simp
/-- registers, the first r of them moved -/
def regsUp (base E y : Int) (S regs : List Int) (s : Int) (r : Nat) : List Int := (regsW base E y S regs s).take r ++ regs.drop r
section
variable {base E y s : Int} {S regs : List Int} {r : Nat}
theorem regsUp_zero : regsUp base E y S regs s 0 = regs := by simp [regsUp]
theorem regsW_length : (regsW base E y S regs s).length = 16 := by simp [regsW]
theorem regsUp_length (hl : regs.length = 16) (hr : r ≤ 16) : (regsUp base E y S regs s r).length = 16 := by simp [regsUp, regsW_length, hl]; omega
theorem regsUp_get (hl : regs.length = 16) (j : Nat) (hj : r ≤ j) (hr : r ≤ 16) : (regsUp base E y S regs s r)[j]? = regs[j]? := by
  unfold regsUp
  rw [List.getElem?_append_right (by rw [List.length_take, regsW_length]; omega), List.length_take, regsW_length, List.getElem?_drop, show r + (j - min r 16) = j by omega]
theorem regsUp_set (hl : regs.length = 16) (hr : r < 16) : (regsUp base E y S regs s r).set r (regW base E y S regs s r) = regsUp base E y S regs s (r + 1) := by
  have hg : (regsW base E y S regs s)[r]? = some (regW base E y S regs s r) := by rw [regs_get, if_pos hr]
  unfold regsUp
  have hd : regs.drop r = regs[r]'(by omega) :: regs.drop (r + 1) := List.drop_eq_getElem_cons (by omega)
  rw [List.set_append_right _ _ (by rw [List.length_take, regsW_length]; omega), List.length_take, regsW_length, show r - min r 16 = 0 by omega, hd, List.set_cons_zero, List.take_add_one, hg]
  simp
theorem regsUp_same (hl : regs.length = 16) (hr : r < 16) (h : regW base E y S regs s r = regs.getD r 0) : regsUp base E y S regs s (r + 1) = regsUp base E y S regs s r := by
  rw [← regsUp_set hl hr, h]
  apply List.ext_getElem?
  intro j
  rw [getElem?_set_lt (by rw [regsUp_length hl (by omega)]; exact hr)]
  by_cases hj : r = j
  · subst hj
    rw [if_pos rfl, regsUp_get hl r (Nat.le_refl _) (by omega), List.getD_eq_getElem?_getD, List.getElem?_eq_getElem (by omega)]
    rfl
  · rw [if_neg hj]
theorem regsUp_end (hl : regs.length = 16) (hS : ∀ a ∈ S, 0 ≤ a ∧ a < 14) : (regsUp base E y S regs s 14).set 14 (IntKind.u64.wrap (s + y)) = regsW base E y S regs s := by
  have h1 := regsUp_set (base := base) (E := E) (y := y) (S := S) (s := s) (r := 14) hl (by omega)
  rw [show regW base E y S regs s 14 = IntKind.u64.wrap (s + y) from if_pos rfl] at h1
  have h2 := regsUp_same (base := base) (E := E) (y := y) (S := S) (s := s) (r := 15) hl (by omega) (by unfold regW; rw [if_neg (by omega), if_neg (fun hh => by have := (hS _ hh.1).2; omega)])
  rw [h1, ← h2]
  unfold regsUp
  rw [List.take_of_length_le (by rw [regsW_length]; omega), List.drop_of_length_le (by omega), List.append_nil]
theorem regW_hit (hr : r < 14) (h0 : (r : Int) ∈ S) (h1 : base ≤ regs.getD r 0) (h2 : regs.getD r 0 < E) : regW base E y S regs s r = IntKind.u64.wrap (regs.getD r 0 + y) := by
  unfold regW; rw [if_neg (by omega), if_pos ⟨h0, h1, h2⟩]
theorem regW_miss (hr : r < 14) (h : ¬ ((r : Int) ∈ S ∧ base ≤ regs.getD r 0 ∧ regs.getD r 0 < E)) : regW base E y S regs s r = regs.getD r 0 := by
  unfold regW; rw [if_neg (by omega), if_neg h]
theorem regsUp_u64 (hu : ∀ x ∈ regs, U64 x) (hl : regs.length = 16) : ∀ x ∈ regsW base E y S regs s, U64 x := by
  intro x hx
  unfold regsW at hx
  obtain ⟨j, hj, rfl⟩ := List.mem_map.1 hx
  have hj16 := List.mem_range.1 hj
  have hr : U64 (regs.getD j 0) := by
    rw [List.getD_eq_getElem?_getD, List.getElem?_eq_getElem (by omega)]
    exact hu _ (List.getElem_mem _)
  unfold regW
  split
  · unfold U64; rw [IntKind.wrap_u64]; omega
  · split
    · unfold U64; rw [IntKind.wrap_u64]; omega
    · exact hr
end
end Go.Proofs.Ytndmhnmclogpcaa
