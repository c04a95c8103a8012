/- The graph of the law LayoutGrows is right, and how great its frame is. No condition. -/
import Derived.Test.YtopifdkkmchoeaaLayFirst
set_option linter.unusedVariables false
set_option linter.unusedSimpArgs false
namespace Go.Proofs.Ytopifdkkmchoeaa
open Go.RowKit

def nodesK (k : Nat) : List NodeD := (List.range k).map fun i : Nat => ndC (6 + (i : Int)) ((i : Int) + 1)
def lastA (br : Bool) : Int := if br then 0 else -1
def grK (n m k : Nat) (br : Bool) : GraphD := ⟨[], List.replicate (16 + n) 0, m, [], br, -1, nodesK k ++ [ndR (lastA br)], 0⟩
def grM : GraphD := ⟨[], List.replicate 16 0, 0, [], false, -1, [ndR (-1)], 0⟩
theorem nodesK_snoc (k : Nat) : nodesK (k + 1) = nodesK k ++ [ndC (6 + (k : Int)) ((k : Int) + 1)] := by simp [nodesK, List.range_succ]
theorem nodesK_len (k : Nat) : (nodesK k).length = k := by simp [nodesK]
theorem regs_grK (n m : Nat) (br : Bool) : ∀ k, k < 7 → nSaves (grK n m k br) = min k 6 := by
  intro k hk
  have h : ∀ k, k < 7 → (regsK (nodesK k ++ [ndR (lastA br)]) 6).length = min k 6 := by
    cases br
    · decide
    · decide
  exact h k hk
theorem size_grK (n m k : Nat) (br : Bool) (hk : k < 7) : sizeL (grK n m k br) = 8 * (n + m + min k 6 + if br then 1 else 0) := by
  unfold sizeL nSlots nCells nRes
  rw [regs_grK n m br k hk]
  simp only [grK, List.length_replicate, Int.toNat_natCast, Nat.add_sub_cancel_left]
  cases br <;> simp
theorem fits_bound {g : GraphD} {q p : Int} (h0 : 0 ≤ p) (h1 : p < g.kinds.length) : fitsB g true q p = true := by
  unfold fitsB
  simp [h0, h1]
theorem head_grK (n m k : Nat) (br : Bool) (hn : n < 100) (hm : m < 65) (hk : k < 7) : headB (grK n m k br) true = true := by
  have h1 : head1 (grK n m k br) true = false := by
    unfold head1
    have e : (grK n m k br).kinds.length = 16 + n := by simp [grK]
    rw [e, Bool.or_eq_false_iff, Bool.or_eq_false_iff]
    refine ⟨⟨decide_eq_false (by omega), by rw [Bool.true_and]; exact decide_eq_false (by omega)⟩, ?_⟩
    rw [List.any_eq_false]
    intro x hx
    simp only [grK, List.mem_replicate] at hx
    rw [hx.2]; decide
  have h2 : head2 (grK n m k br) = false := by
    unfold head2
    simp only [Bool.or_eq_false_iff]
    refine ⟨⟨⟨⟨by simp [grK], by simp [grK]⟩, decide_eq_false (by simp only [grK]; omega)⟩, decide_eq_false (by simp only [grK]; omega)⟩, by simp [grK]⟩
  have h3 : head3 (grK n m k br) = true := by
    unfold head3
    have e : (grK n m k br).nodes.length = k + 1 := by simp [grK, nodesK_len]
    rw [e]
    simp only [Bool.and_eq_true, decide_eq_true_eq]
    refine ⟨⟨⟨by omega, by omega⟩, by simp [grK]⟩, by simp only [grK]; omega⟩
  unfold headB
  rw [h1, h2, h3]
  rfl
theorem node_grK (gs : List GraphD) (n m k : Nat) (br : Bool) (hk : k < 7) : ∀ x ∈ (grK n m k br).nodes, nodeB gs (grK n m k br) true x = true := by
  have e : (grK n m k br).nodes.length = k + 1 := by simp [grK, nodesK_len]
  have ek : (grK n m k br).kinds.length = 16 + n := by simp [grK]
  intro x hx
  rcases List.mem_append.1 (show x ∈ nodesK k ++ [ndR (lastA br)] from hx) with h | h
  · obtain ⟨i, hi, rfl⟩ := List.mem_map.1 h
    have hik := List.mem_range.1 hi
    unfold nodeB
    rw [e]
    rw [Bool.and_eq_true]
    constructor
    · simp only [nextL, ndC, Int.reduceEq, or_self, if_false, false_and, Int.reduceLT, List.all_cons, List.all_nil, Bool.and_true, Bool.and_eq_true, decide_eq_true_eq]
      omega
    · unfold opB
      rw [if_pos (.inl rfl)]
      simp only [isB, List.all_cons, List.all_nil, Bool.and_true]
      exact fits_bound (by simp only [ndC]; omega) (by rw [ek]; simp only [ndC]; omega)
  · rw [List.mem_singleton] at h
    subst h
    unfold nodeB
    rw [Bool.and_eq_true]
    constructor
    · simp [nextL, ndR]
    · cases br
      · unfold opB
        simp [ndR, lastA, grK]
      · have hf : fitsB (grK n m k true) true 0 0 = true := fits_bound (by omega) (by rw [show (grK n m k true).kinds.length = 16 + n by simp [grK]]; omega)
        unfold opB
        simp [ndR, lastA, isB, hf]
        simp [grK]
theorem node_grM (gs : List GraphD) : ∀ x ∈ grM.nodes, nodeB gs grM true x = true := by
  intro x hx
  simp only [grM, List.mem_singleton] at hx
  subst hx
  unfold nodeB opB
  simp [nextL, ndR, grM]
theorem check_grK (n m k : Nat) (br : Bool) (hn : n < 100) (hm : m < 65) (hk : k < 7) : checkB [grM, grK n m k br] true = true := by
  unfold checkB
  rw [Bool.and_eq_true, Bool.and_eq_true]
  refine ⟨⟨by simp [grM], ?_⟩, ?_⟩
  · refine List.all_eq_true.2 fun g hg => ?_
    simp only [List.mem_cons, List.not_mem_nil, or_false] at hg
    rcases hg with rfl | rfl
    · decide
    · exact head_grK n m k br hn hm hk
  · refine List.all_eq_true.2 fun g hg => ?_
    simp only [List.mem_cons, List.not_mem_nil, or_false] at hg
    rcases hg with rfl | rfl
    · exact List.all_eq_true.2 (node_grM _)
    · exact List.all_eq_true.2 (node_grK _ n m k br hk)
end Go.Proofs.Ytopifdkkmchoeaa
