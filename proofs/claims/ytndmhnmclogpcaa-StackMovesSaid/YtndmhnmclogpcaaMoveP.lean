/- What a move makes of a stack's words and of registers, plain. No condition. -/
import Derived.Test.YtndmhnmclogpcaaUsed
set_option linter.unusedVariables false
set_option linter.unusedSimpArgs false
namespace Go.Proofs.Ytndmhnmclogpcaa
open Go.RowKit

/-- a word at a place, where the places of S were named so far -/
def mvW (base E y : Int) (S : List Int) (a v : Int) : Int := if a ∈ S ∧ base ≤ v ∧ v < E then IntKind.u64.wrap (v + y) else v
def tailW (base E y : Int) (S ws : List Int) (m : Nat) : List Int := (List.range (ws.length - m)).map fun i => mvW base E y S (base + 8 * ((m + i : Nat) : Int)) (ws.getD (m + i) 0)
def regW (base E y : Int) (S regs : List Int) (s : Int) (r : Nat) : Int := if r = 14 then IntKind.u64.wrap (s + y) else if (r : Int) ∈ S ∧ base ≤ regs.getD r 0 ∧ regs.getD r 0 < E then IntKind.u64.wrap (regs.getD r 0 + y) else regs.getD r 0
def regsW (base E y : Int) (S regs : List Int) (s : Int) : List Int := (List.range 16).map (regW base E y S regs s)
section
variable {base E y s : Int} {S ws regs : List Int} {m i : Nat} {a v : Int}
theorem tail_get (base E y : Int) (S ws : List Int) (m i : Nat) : (tailW base E y S ws m)[i]? = if i < ws.length - m then some (mvW base E y S (base + 8 * ((m + i : Nat) : Int)) (ws.getD (m + i) 0)) else none := by
  unfold tailW
  rw [List.getElem?_map]
  by_cases h : i < ws.length - m
  · rw [if_pos h, List.getElem?_range h]; rfl
  · rw [if_neg h, List.getElem?_eq_none (by simpa using h)]; rfl
theorem tail_length (base E y : Int) (S ws : List Int) (m : Nat) : (tailW base E y S ws m).length = ws.length - m := by simp [tailW]
theorem mv_snoc_ne {b : Int} (h : b ≠ a) (v : Int) : mvW base E y (S ++ [a]) b v = mvW base E y S b v := by simp [mvW, h]
theorem tail_hit (hv : ws[m + i]? = some v) (h1 : base ≤ v) (h2 : v < E) : tailW base E y (S ++ [base + 8 * ((m + i : Nat) : Int)]) ws m = (tailW base E y S ws m).set i (IntKind.u64.wrap (v + y)) := by
  have hi : m + i < ws.length := (List.getElem?_eq_some_iff.1 hv).1
  apply List.ext_getElem?
  intro j
  rw [getElem?_set_lt (by rw [tail_length]; omega), tail_get, tail_get]
  by_cases hij : i = j
  · subst hij
    rw [if_pos (by omega), if_pos rfl, mvW, if_pos ⟨by simp, by simp [List.getD_eq_getElem?_getD, hv, h1], by simp [List.getD_eq_getElem?_getD, hv, h2]⟩]
    simp [List.getD_eq_getElem?_getD, hv]
  · rw [if_neg hij]
    by_cases hj : j < ws.length - m
    · rw [if_pos hj, if_pos hj, mv_snoc_ne (by omega)]
    · rw [if_neg hj, if_neg hj]
theorem tail_miss (hv : ws[m + i]? = some v) (h : ¬ (base ≤ v ∧ v < E)) : tailW base E y (S ++ [base + 8 * ((m + i : Nat) : Int)]) ws m = tailW base E y S ws m := by
  apply List.ext_getElem?
  intro j
  rw [tail_get, tail_get]
  by_cases hij : j = i
  · subst hij
    have e : ws.getD (m + j) 0 = v := by simp [List.getD_eq_getElem?_getD, hv]
    rw [e]
    have : ∀ S, mvW base E y S (base + 8 * ((m + j : Nat) : Int)) v = v := fun S => by rw [mvW, if_neg (fun hh => h hh.2)]
    rw [this, this]
  · by_cases hj : j < ws.length - m
    · rw [if_pos hj, if_pos hj, mv_snoc_ne (by omega)]
    · rw [if_neg hj, if_neg hj]
theorem mem_snoc_seen {b : Int} (h : a ∈ S) : b ∈ S ++ [a] ↔ b ∈ S := by
  constructor
  · intro hb
    rcases List.mem_append.1 hb with h1 | h1
    · exact h1
    · simp at h1; rw [h1]; exact h
  · exact fun hb => List.mem_append_left _ hb
theorem tail_seen (h : a ∈ S) : tailW base E y (S ++ [a]) ws m = tailW base E y S ws m := by
  unfold tailW mvW
  simp only [mem_snoc_seen h]
theorem tail_nil (base E y : Int) (ws : List Int) (m : Nat) : tailW base E y [] ws m = ws.drop m := by
  apply List.ext_getElem?
  intro j
  rw [tail_get, List.getElem?_drop]
  by_cases hj : j < ws.length - m
  · have hl : m + j < ws.length := by omega
    rw [if_pos hj]
    simp [mvW, List.getD_eq_getElem?_getD, List.getElem?_eq_getElem hl]
  · rw [if_neg hj, List.getElem?_eq_none (by omega)]
theorem tail_u64 (hw : ∀ x ∈ ws, U64 x) : ∀ x ∈ tailW base E y S ws m, U64 x := by
  intro x hx
  obtain ⟨j, hj⟩ := List.getElem?_of_mem hx
  rw [tail_get] at hj
  by_cases h : j < ws.length - m
  · rw [if_pos h] at hj
    injection hj with hj
    rw [← hj, mvW]
    split
    · unfold U64; rw [IntKind.wrap_u64]; omega
    · have hl : m + j < ws.length := by omega
      rw [List.getD_eq_getElem?_getD, List.getElem?_eq_getElem hl]
      exact hw _ (List.getElem_mem hl)
  · rw [if_neg h] at hj; cases hj
theorem regs_get (base E y s : Int) (S regs : List Int) (r : Nat) : (regsW base E y S regs s)[r]? = if r < 16 then some (regW base E y S regs s r) else none := by
  unfold regsW
  rw [List.getElem?_map]
  by_cases h : r < 16
  · rw [if_pos h, List.getElem?_range h]; rfl
  · rw [if_neg h, List.getElem?_eq_none (by simpa using h)]; rfl
theorem regs_hit {r : Nat} (hr : r < 14) (h1 : base ≤ regs.getD r 0) (h2 : regs.getD r 0 < E) : regsW base E y (S ++ [(r : Int)]) regs s = (regsW base E y S regs s).set r (IntKind.u64.wrap (regs.getD r 0 + y)) := by
  apply List.ext_getElem?
  intro j
  rw [getElem?_set_lt (by simp [regsW]; omega), regs_get, regs_get]
  by_cases hij : r = j
  · subst hij
    rw [if_pos (by omega), if_pos rfl, regW, if_neg (by omega), if_pos ⟨by simp, h1, h2⟩]
  · rw [if_neg hij]
    by_cases hj : j < 16
    · rw [if_pos hj, if_pos hj]
      have : ((j : Int) ∈ S ++ [(r : Int)]) ↔ (j : Int) ∈ S := by
        constructor
        · intro hb
          rcases List.mem_append.1 hb with h1 | h1
          · exact h1
          · simp at h1; omega
        · exact fun hb => List.mem_append_left _ hb
      unfold regW
      simp only [this]
    · rw [if_neg hj, if_neg hj]
theorem regs_miss {r : Nat} (h : ¬ (base ≤ regs.getD r 0 ∧ regs.getD r 0 < E)) : regsW base E y (S ++ [(r : Int)]) regs s = regsW base E y S regs s := by
  unfold regsW
  apply List.map_congr_left
  intro j _
  unfold regW
  by_cases hj : j = r
  · subst hj
    have : ∀ P : Prop, ¬ (P ∧ base ≤ regs.getD j 0 ∧ regs.getD j 0 < E) := fun P hh => h hh.2
    rw [if_neg (this _), if_neg (this _)]
  · have : ((j : Int) ∈ S ++ [(r : Int)]) ↔ (j : Int) ∈ S := by
      constructor
      · intro hb
        rcases List.mem_append.1 hb with h1 | h1
        · exact h1
        · simp at h1; omega
      · exact fun hb => List.mem_append_left _ hb
    simp only [this]
theorem regs_seen (h : a ∈ S) : regsW base E y (S ++ [a]) regs s = regsW base E y S regs s := by
  unfold regsW
  apply List.map_congr_left
  intro j _
  unfold regW
  simp only [mem_snoc_seen h]
theorem regs_nil (hl : regs.length = 16) : regsW base E y [] regs s = regs.set 14 (IntKind.u64.wrap (s + y)) := by
  apply List.ext_getElem?
  intro j
  rw [getElem?_set_lt (by omega), regs_get]
  by_cases hj : 14 = j
  · subst hj; simp [regW]
  · rw [if_neg hj]
    by_cases h : j < 16
    · rw [if_pos h, regW, if_neg (by omega), if_neg (by simp)]
      simp [List.getD_eq_getElem?_getD, List.getElem?_eq_getElem (show j < regs.length by omega)]
    · rw [if_neg h, List.getElem?_eq_none (by omega)]
end
/-- the machine's words behind a move -/
def movedW (base E y : Int) (S ws : List Int) (m z : Nat) : List Int := List.replicate z 0 ++ tailW base E y S ws m
theorem flat_append (a b : List Int) : flat (a ++ b) = flat a ++ flat b := by simp [flat]
end Go.Proofs.Ytndmhnmclogpcaa
