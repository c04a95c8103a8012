/- Moves one after the other, as plain data: one step, and how many are left. No condition. -/
import Derived.Test.YtopifdkkmchoeaaMvDf
set_option linter.unusedVariables false
set_option linter.unusedSimpArgs false
namespace Go.Proofs.Ytopifdkkmchoeaa
open Go.RowKit

def turnM (fr s : Int) (n : Mv) : Mv := if n.2 == fr then (n.1, s) else n
def needM (left : List Mv) : Nat := 2 * left.length + (if left.any (freeM left) then 0 else 1)
theorem lineM_nil (f : Nat) (s : Int) : lineM f [] s = [] := by cases f <;> rfl
theorem lineM_hit {left : List Mv} {s : Int} {i f : Nat} {m : Mv} (h : left.findIdx? (freeM left) = some i) (hm : left[i]? = some m) : lineM (f + 1) left s = m :: lineM f (left.eraseIdx i) s := by
  obtain ⟨hl, rfl⟩ := List.getElem?_eq_some_iff.1 hm
  rcases left with _ | ⟨a, r⟩
  · simp at hl
  · rw [lineM, h]
    simp only
    rw [getElem!_pos (a :: r) i hl]
theorem lineM_ring {m : Mv} {r : List Mv} {s : Int} {f : Nat} (h : (m :: r).findIdx? (freeM (m :: r)) = none) : lineM (f + 1) (m :: r) s = (s, m.1) :: lineM f ((m :: r).map (turnM m.1 s)) s := by
  rw [lineM, h]
  rfl
theorem need_hit {left : List Mv} {i : Nat} (hl : i < left.length) : needM (left.eraseIdx i) + 1 ≤ needM left := by
  unfold needM
  rw [List.length_eraseIdx, if_pos hl]
  split <;> split <;> omega
theorem turn_fst (fr s : Int) (n : Mv) : (turnM fr s n).1 = n.1 := by unfold turnM; split <;> rfl
theorem need_ring {m : Mv} {r : List Mv} {s : Int} (h : (m :: r).findIdx? (freeM (m :: r)) = none) (hs : ∀ x ∈ m :: r, x.1 ≠ s) : needM ((m :: r).map (turnM m.1 s)) + 1 ≤ needM (m :: r) := by
  have h1 : (m :: r).any (freeM (m :: r)) = false := by
    rw [List.any_eq_false]
    intro x hx
    have := List.findIdx?_eq_none_iff.1 h x hx
    simp [this]
  have h2 : ((m :: r).map (turnM m.1 s)).any (freeM ((m :: r).map (turnM m.1 s))) = true := by
    refine List.any_eq_true.2 ⟨turnM m.1 s m, List.mem_map.2 ⟨m, List.mem_cons_self, rfl⟩, ?_⟩
    unfold freeM
    rw [Bool.not_eq_true', List.any_eq_false]
    intro x hx
    obtain ⟨y, hy, rfl⟩ := List.mem_map.1 hx
    rw [turn_fst]
    unfold turnM
    have hms := hs m List.mem_cons_self
    split
    · simp only [beq_iff_eq]; exact fun e => hms e.symm
    · rename_i h3; exact h3
  unfold needM
  rw [h1, h2]
  simp
theorem need_pos {left : List Mv} (h : left ≠ []) : 0 < needM left := by
  have := List.length_pos_iff.2 h
  unfold needM; omega
theorem turn_tos {left : List Mv} {fr s : Int} (h : ∀ x ∈ left, x.1 ≠ s) : ∀ x ∈ left.map (turnM fr s), x.1 ≠ s := by
  intro x hx
  obtain ⟨y, hy, rfl⟩ := List.mem_map.1 hx
  rw [turn_fst]; exact h y hy
theorem erase_tos {left : List Mv} {s : Int} {i : Nat} (h : ∀ x ∈ left, x.1 ≠ s) : ∀ x ∈ left.eraseIdx i, x.1 ≠ s := fun x hx => h x (List.mem_of_mem_eraseIdx hx)
def lineAll (ms : List Mv) (s : Int) : List Mv := lineM (needM (keptM ms)) (keptM ms) s
/-- so much is done, so much is left -/
def LeftM (all out left : List Mv) (s : Int) : Prop := (∃ f, needM left ≤ f ∧ out ++ lineM f left s = all) ∧ ∀ x ∈ left, x.1 ≠ s
theorem LeftM.start {ms : List Mv} {s : Int} (h : okM ms s) : LeftM (lineAll ms s) [] (keptM ms) s :=
  ⟨⟨_, Nat.le_refl _, rfl⟩, fun x hx => (h.1 x (List.mem_filter.1 hx).1).2.2.1⟩
theorem LeftM.done {all out : List Mv} {s : Int} (h : LeftM all out [] s) : out = all := by
  obtain ⟨⟨f, _, h⟩, _⟩ := h
  rwa [lineM_nil, List.append_nil] at h
theorem LeftM.hit {all out left : List Mv} {s : Int} {i : Nat} {m : Mv} (h : LeftM all out left s) (hi : left.findIdx? (freeM left) = some i) (hm : left[i]? = some m) : LeftM all (out ++ [m]) (left.eraseIdx i) s ∧ out.length < all.length := by
  obtain ⟨⟨f, h1, h2⟩, h3⟩ := h
  have hl := (List.getElem?_eq_some_iff.1 hm).1
  have hp := need_pos (left := left) (by intro e; subst e; simp at hl)
  obtain ⟨f, rfl⟩ : ∃ f', f = f' + 1 := ⟨f - 1, by omega⟩
  rw [lineM_hit hi hm] at h2
  have := need_hit hl
  exact ⟨⟨⟨f, by omega, by simpa using h2⟩, erase_tos h3⟩, by rw [← h2]; simp⟩
theorem LeftM.ring {all out r : List Mv} {m : Mv} {s : Int} (h : LeftM all out (m :: r) s) (hi : (m :: r).findIdx? (freeM (m :: r)) = none) : LeftM all (out ++ [(s, m.1)]) ((m :: r).map (turnM m.1 s)) s ∧ out.length < all.length := by
  obtain ⟨⟨f, h1, h2⟩, h3⟩ := h
  have hp := need_pos (left := m :: r) (by simp)
  obtain ⟨f, rfl⟩ : ∃ f', f = f' + 1 := ⟨f - 1, by omega⟩
  rw [lineM_ring hi] at h2
  have := need_ring hi h3
  exact ⟨⟨⟨f, by omega, by simpa using h2⟩, turn_tos h3⟩, by rw [← h2]; simp⟩
theorem lineM_len : ∀ (f : Nat) (left : List Mv) (s : Int), (lineM f left s).length ≤ f
  | 0, _, _ => by simp [lineM]
  | f + 1, [], s => by simp [lineM_nil]
  | f + 1, m :: r, s => by
    rcases h : (m :: r).findIdx? (freeM (m :: r)) with _ | i
    · rw [lineM_ring h]
      have := lineM_len f ((m :: r).map (turnM m.1 s)) s
      simp only [List.length_cons] at this ⊢; omega
    · have hl : i < (m :: r).length := by rw [List.findIdx?_eq_some_iff_getElem] at h; exact h.1
      rw [lineM_hit h (List.getElem?_eq_getElem hl)]
      have := lineM_len f ((m :: r).eraseIdx i) s
      simp only [List.length_cons] at this ⊢; omega
theorem lineAll_len (ms : List Mv) (s : Int) : (lineAll ms s).length ≤ 2 * ms.length + 1 := by
  have h1 := lineM_len (needM (keptM ms)) (keptM ms) s
  have h2 := keptM_len ms
  unfold lineAll
  refine Nat.le_trans h1 ?_
  unfold needM
  split <;> omega
/-- the first so many of a list turned -/
def midL {α : Type} (f : α → α) (k : Nat) (l : List α) : List α := (l.take k).map f ++ l.drop k
theorem midL_get {α : Type} {f : α → α} {k : Nat} {l : List α} {y : α} (h : l[k]? = some y) : (midL f k l)[k]? = some y := by
  have hl := (List.getElem?_eq_some_iff.1 h).1
  have e : ((l.take k).map f).length = k := by rw [List.length_map, List.length_take]; omega
  unfold midL
  rw [List.getElem?_append_right (by omega), e, List.getElem?_drop, Nat.sub_self]
  exact h
theorem midL_set {α : Type} {f : α → α} {k : Nat} {l : List α} {y : α} (h : l[k]? = some y) : (midL f k l).set k (f y) = midL f (k + 1) l := by
  have hl := (List.getElem?_eq_some_iff.1 h).1
  have e : ((l.take k).map f).length = k := by rw [List.length_map, List.length_take]; omega
  unfold midL
  rw [List.set_append_right _ _ (by omega), e, Nat.sub_self, List.take_add_one, h, List.drop_eq_getElem_cons hl]
  simp only [Option.toList, List.map_append, List.map_cons, List.map_nil, List.append_assoc, List.set_cons_zero, List.cons_append, List.nil_append]
theorem midL_same {α : Type} {f : α → α} {k : Nat} {l : List α} {y : α} (h : l[k]? = some y) (hf : f y = y) : midL f (k + 1) l = midL f k l := by
  rw [← midL_set h, hf]
  obtain ⟨h1, h2⟩ := List.getElem?_eq_some_iff.1 (midL_get (f := f) h)
  rw [← h2]
  simp
theorem midL_zero {α : Type} (f : α → α) (l : List α) : midL f 0 l = l := by simp [midL]
theorem midL_all {α : Type} (f : α → α) (l : List α) : midL f l.length l = l.map f := by simp [midL]
theorem midL_len {α : Type} (f : α → α) (k : Nat) (l : List α) : (midL f k l).length = l.length := by
  unfold midL; rw [List.length_append, List.length_map, List.length_take, List.length_drop]; omega
end Go.Proofs.Ytopifdkkmchoeaa
