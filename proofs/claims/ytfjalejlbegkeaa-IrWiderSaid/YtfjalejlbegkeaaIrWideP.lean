/- Graphs that were right stay right with more places, more cells and a function more. No condition. -/
import Derived.Test.YtfjalejlbegkeaaIrFirst
import Derived.Test.YtfjalejlbegkeaaIrCopy
set_option linter.unusedVariables false
set_option linter.unusedSimpArgs false
namespace Go.Proofs.Ytfjalejlbegkeaa
open Go.RowKit

def wl (n k : Nat) : List Int := (List.range (min k (1024 - n))).map fun i => ((i % 2 : Nat) : Int)
def wideG (k : Nat) (g : GraphD) : GraphD := ⟨g.params, g.kinds ++ wl g.kinds.length k, min 64 (g.cells + k), g.init, g.result, g.keep, g.nodes, g.entry⟩
theorem cells_wide (a : Int) (k : Nat) (h : a ≤ 64) : a ≤ min 64 (a + k) ∧ min 64 (a + (k : Int)) ≤ 64 := ⟨Int.le_min.2 ⟨h, by omega⟩, Int.min_le_left _ _⟩
theorem fits_wide {g : GraphD} {k : Nat} {q p : Int} (h : fitsB g false q p = true) : fitsB (wideG k g) false q p = true := by
  unfold fitsB at h ⊢
  simp only [Bool.and_eq_true, decide_eq_true_eq, Bool.false_or] at h ⊢
  obtain ⟨⟨h1, h2⟩, h3⟩ := h
  obtain ⟨P, rfl⟩ := Int.eq_ofNat_of_zero_le h1
  have hP : P < g.kinds.length := by omega
  refine ⟨⟨h1, ?_⟩, ?_⟩
  · simp only [wideG, List.length_append]; omega
  · simp only [wideG, Int.toNat_natCast] at h3 ⊢
    rw [List.getD_eq_getElem?_getD] at h3 ⊢
    rw [List.getElem?_append_left hP]; exact h3
theorem is_wide {g : GraphD} {k : Nat} {q : Int} {ps : List Int} (h : isB g false q ps = true) : isB (wideG k g) false q ps = true :=
  List.all_eq_true.2 fun p hp => fits_wide (List.all_eq_true.1 h p hp)
theorem cell_wide {g : GraphD} {k : Nat} {n : Int} (hc : g.cells ≤ 64) (h : cellB g n = true) : cellB (wideG k g) n = true := by
  unfold cellB at h ⊢
  simp only [Bool.and_eq_true, decide_eq_true_eq, wideG] at h ⊢
  have := (cells_wide g.cells k hc).1
  exact ⟨h.1, decide_eq_true (Int.lt_of_lt_of_le h.2 this)⟩
theorem head_wide {g : GraphD} {k : Nat} (h : headB g false = true) : headB (wideG k g) false = true := by
  unfold headB at h ⊢
  simp only [Bool.and_eq_true, Bool.not_eq_true'] at h ⊢
  obtain ⟨⟨⟨h1, h2⟩, h3⟩, h4⟩ := h
  unfold head1 at h1
  unfold head2 at h2
  simp only [Bool.or_eq_false_iff, decide_eq_false_iff_not, Bool.false_and] at h1 h2
  obtain ⟨⟨⟨⟨c1, c2⟩, c3⟩, c4⟩, c5⟩ := h2
  refine ⟨⟨⟨?_, ?_⟩, ?_⟩, h4⟩
  · unfold head1
    simp only [Bool.or_eq_false_iff, decide_eq_false_iff_not, Bool.false_and]
    refine ⟨⟨?_, trivial⟩, ?_⟩
    · simp only [wideG, List.length_append, wl, List.length_map, List.length_range]; omega
    · simp only [wideG, List.any_append, Bool.or_eq_false_iff]
      refine ⟨h1.2, ?_⟩
      rw [List.any_eq_false]
      intro x hx
      obtain ⟨i, _, rfl⟩ := List.mem_map.1 hx
      simp only [decide_eq_true_eq]
      omega
  · unfold head2
    simp only [Bool.or_eq_false_iff, decide_eq_false_iff_not]
    refine ⟨⟨⟨⟨c1, c2⟩, by have := (cells_wide g.cells k (by omega)).1; simp only [wideG]; exact fun h => c3 (Int.lt_of_le_of_lt this h)⟩, by have := (cells_wide g.cells k (by omega)).2; simp only [wideG]; exact fun h => absurd this (Int.not_le.2 h)⟩, ?_⟩
    simp only [Bool.and_eq_false_iff, Bool.not_eq_false', decide_eq_false_iff_not] at c5 ⊢
    rcases c5 with h | h
    · exact .inl h
    · exact .inr (cell_wide (by omega) h)
  · refine List.all_eq_true.2 fun i hi => ?_
    have h5 := List.all_eq_true.1 h3 i hi
    unfold parB at h5 ⊢
    simp only [Bool.and_eq_true, Bool.not_eq_true', Bool.or_eq_false_iff, decide_eq_false_iff_not, Bool.and_eq_false_iff, Bool.not_eq_false', Bool.false_eq_true] at h5 ⊢
    obtain ⟨⟨⟨⟨a1, a2⟩, a3⟩, a4⟩, a5⟩ := h5
    refine ⟨⟨⟨⟨a1, ?_⟩, a3⟩, .inl trivial⟩, ?_⟩
    · simp only [wideG, List.length_append] at a2 ⊢; omega
    · rcases a5 with h | ⟨h6, h7⟩
      · exact .inl h
      · exact .inr ⟨cell_wide (by omega) h6, is_wide h7⟩
theorem args_wide {gs : List GraphD} {g : GraphD} {k : Nat} {x : NodeD} {tl : List GraphD} (hpar : ∀ f ∈ gs, ∀ p ∈ f.params, 0 ≤ p ∧ p < f.kinds.length) (h : argsB gs g false x = true) : argsB (gs.map (wideG k) ++ tl) (wideG k g) false x = true := by
  unfold argsB at h ⊢
  rw [Bool.and_eq_true] at h ⊢
  obtain ⟨h1, h2⟩ := h
  refine ⟨h1, ?_⟩
  rcases hq : gs[x.f.toNat]? with _ | f
  · rw [hq] at h2; cases h2
  rw [hq] at h2
  simp only at h2
  have hl := (List.getElem?_eq_some_iff.1 hq).1
  rw [List.getElem?_append_left (by rw [List.length_map]; exact hl), List.getElem?_map, hq]
  simp only [Option.map_some]
  rw [Bool.and_eq_true] at h2 ⊢
  refine ⟨h2.1, List.all_eq_true.2 fun i hi => ?_⟩
  have h3 := List.all_eq_true.1 h2.2 i hi
  have hil : i < f.params.length := by
    have := of_decide_eq_true h2.1
    have := List.mem_range.1 hi
    omega
  unfold argB at h3 ⊢
  simp only [Bool.false_eq_true, if_false] at h3 ⊢
  have hp := hpar f (List.mem_of_getElem? hq) f.params[i] (List.getElem_mem hil)
  have e1 : f.params.getD i 0 = f.params[i] := by rw [List.getD_eq_getElem?_getD, List.getElem?_eq_getElem hil]; rfl
  have e2 : (wideG k f).kinds.getD ((wideG k f).params.getD i 0).toNat 0 = f.kinds.getD (f.params.getD i 0).toNat 0 := by
    show (f.kinds ++ wl f.kinds.length k).getD (f.params.getD i 0).toNat 0 = _
    rw [e1, List.getD_eq_getElem?_getD, List.getD_eq_getElem?_getD, List.getElem?_append_left (by omega)]
  rw [e2]
  exact fits_wide h3
theorem op_wide {gs : List GraphD} {g : GraphD} {k : Nat} {x : NodeD} {tl : List GraphD} (hc : g.cells ≤ 64) (hpar : ∀ f ∈ gs, ∀ p ∈ f.params, 0 ≤ p ∧ p < f.kinds.length) (h : opB gs g false x = true) : opB (gs.map (wideG k) ++ tl) (wideG k g) false x = true := by
  have hI : ∀ {q : Int} {ps : List Int}, isB g false q ps = true → isB (wideG k g) false q ps = true := fun h => is_wide h
  have hC : ∀ {n : Int}, cellB g n = true → cellB (wideG k g) n = true := fun h => cell_wide hc h
  unfold opB at h ⊢
  by_cases e : x.op = 1 ∨ x.op = 16
  · rw [if_pos e] at h ⊢; exact hI h
  rw [if_neg e] at h ⊢
  by_cases e : x.op = 2
  · rw [if_pos e, Bool.or_eq_true] at h ⊢; exact h.imp hI hI
  rw [if_neg e] at h ⊢
  by_cases e : x.op = 3
  · rw [if_pos e, Bool.and_eq_true] at h ⊢; exact ⟨h.1, hI h.2⟩
  rw [if_neg e] at h ⊢
  by_cases e : x.op = 4
  · rw [if_pos e, Bool.and_eq_true] at h ⊢; exact ⟨hC h.1, hI h.2⟩
  rw [if_neg e] at h ⊢
  by_cases e : x.op = 5
  · rw [if_pos e, Bool.and_eq_true] at h ⊢; exact ⟨hC h.1, hI h.2⟩
  rw [if_neg e] at h ⊢
  by_cases e : x.op = 6
  · rw [if_pos e, Bool.and_eq_true] at h ⊢; exact ⟨hC h.1, hI h.2⟩
  rw [if_neg e] at h ⊢
  by_cases e : x.op = 7
  · rw [if_pos e, Bool.and_eq_true] at h ⊢; exact ⟨hI h.1, hI h.2⟩
  rw [if_neg e] at h ⊢
  by_cases e : x.op = 8
  · rw [if_pos e, Bool.and_eq_true] at h ⊢; exact ⟨hI h.1, hI h.2⟩
  rw [if_neg e] at h ⊢
  by_cases e : x.op = 10
  · rw [if_pos e]
  rw [if_neg e] at h ⊢
  by_cases e : x.op = 9 ∨ x.op = 14 ∨ x.op = 18 ∨ x.op = 17
  · rw [if_pos e] at h ⊢; exact hI h
  rw [if_neg e] at h ⊢
  by_cases e : x.op = 15
  · rw [if_pos e, Bool.and_eq_true] at h ⊢; exact ⟨h.1, hI h.2⟩
  rw [if_neg e] at h ⊢
  by_cases e : x.op = 13
  · rw [if_pos e] at h ⊢; exact args_wide hpar h
  rw [if_neg e] at h ⊢
  by_cases e : x.op = 11
  · rw [if_pos e, Bool.and_eq_true, Bool.or_eq_true, Bool.and_eq_true, Bool.and_eq_true] at h ⊢
    refine ⟨args_wide hpar h.1, h.2.imp id fun ⟨⟨h1, h2⟩, h3⟩ => ⟨⟨hI h1, ?_⟩, h3⟩⟩
    rcases hq : gs[x.f.toNat]? with _ | f
    · rw [hq] at h2; cases h2
    rw [hq] at h2
    have hl := (List.getElem?_eq_some_iff.1 hq).1
    rw [List.getElem?_append_left (by rw [List.length_map]; exact hl), List.getElem?_map, hq]
    exact h2
  rw [if_neg e] at h ⊢
  by_cases e : x.op = 12
  · rw [if_pos e, Bool.or_eq_true, Bool.and_eq_true, Bool.and_eq_true, Bool.and_eq_true] at h ⊢
    exact h.imp id fun ⟨h1, h2⟩ => ⟨h1, hI h2⟩
  rw [if_neg e] at h
  cases h
theorem check_wide {gs : List GraphD} {k : Nat} (h : checkB gs false = true) (hl : gs.length ≤ 15) : checkB (gs.map (wideG k) ++ [gr0]) false = true := by
  unfold checkB at h ⊢
  rw [Bool.and_eq_true, Bool.and_eq_true] at h ⊢
  obtain ⟨⟨h1, h2⟩, h3⟩ := h
  have hheads : ∀ g ∈ gs, headB g false = true := fun g hg => List.all_eq_true.1 h2 g hg
  have hpar : ∀ f ∈ gs, ∀ p ∈ f.params, 0 ≤ p ∧ p < f.kinds.length := fun f hf => (head_par (hheads f hf)).1
  have hcell : ∀ g ∈ gs, g.cells ≤ 64 := fun g hg => by
    have h4 := hheads g hg
    unfold headB head2 at h4
    simp only [Bool.and_eq_true, Bool.not_eq_true', Bool.or_eq_false_iff, decide_eq_false_iff_not] at h4
    omega
  refine ⟨⟨?_, ?_⟩, ?_⟩
  · rcases gs with _ | ⟨g0, r⟩
    · cases h1
    · simp only [List.getElem?_cons_zero, List.map_cons, List.cons_append, Bool.and_eq_true, decide_eq_true_eq] at h1 ⊢
      refine ⟨⟨?_, h1.1.2⟩, h1.2⟩
      simp only [List.length_cons, List.length_append, List.length_map, List.length_nil] at hl ⊢
      omega
  · rw [List.all_append, Bool.and_eq_true]
    refine ⟨List.all_eq_true.2 fun g' hg' => ?_, by decide⟩
    obtain ⟨g, hg, rfl⟩ := List.mem_map.1 hg'
    exact head_wide (hheads g hg)
  · rw [List.all_append, Bool.and_eq_true]
    constructor
    · refine List.all_eq_true.2 fun g' hg' => ?_
      obtain ⟨g, hg, rfl⟩ := List.mem_map.1 hg'
      refine List.all_eq_true.2 fun x hx => ?_
      have h5 := List.all_eq_true.1 (List.all_eq_true.1 h3 g hg) x hx
      unfold nodeB at h5 ⊢
      rw [Bool.and_eq_true] at h5 ⊢
      exact ⟨h5.1, op_wide (hcell g hg) hpar h5.2⟩
    · simp only [List.all_cons, List.all_nil, Bool.and_true, gr0]
      unfold nodeB opB
      simp [nd0, nextL]
end Go.Proofs.Ytfjalejlbegkeaa
