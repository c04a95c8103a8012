/- Layout at the two graphs of the law LayoutGrows, wherever they lie. No condition. -/
import Derived.Test.YtopifdkkmchoeaaLayGrP
set_option linter.unusedVariables false
set_option linter.unusedSimpArgs false
namespace Go.Proofs.Ytopifdkkmchoeaa
open Go.RowKit

def ndcells (l : List NodeD) : List Value := (l.map fun x => ncells x (.slice none 0 0)).flatten
theorem ndcells_snoc (l : List NodeD) (x : NodeD) : ndcells (l ++ [x]) = ndcells l ++ ncells x (.slice none 0 0) := by simp [ndcells]
/-- nodes without arguments in a row of the call's own -/
theorem nodes_at {W : World} {base n c : Nat} {A : Option Addr} {l : List NodeD} (h : W.ownsRow base 50 12 (.slice A n c) n (ndcells l)) (hl : l.length = n) (ha : ∀ x ∈ l, x.args = []) : RowsAt 12 NodeAt W W.heap.size (.slice A n c) l := by
  obtain ⟨A', c', e, h1, h2, h3⟩ := own_any h
  injection e with e1 e2 e3
  subst e1 e3
  refine ⟨A, n, c, l.map fun x => ncells x (.slice none 0 0), rfl, h1, h2, hl, by simpa using hl, fun cs hcs => ?_, h3, fun i x hx => ⟨ncells x (.slice none 0 0), by rw [List.getElem?_map, hx]; rfl, .slice none 0 0, rfl, ?_⟩⟩
  · obtain ⟨x, _, rfl⟩ := List.mem_map.1 hcs
    rfl
  · rw [ha x (List.mem_of_getElem? hx)]
    exact nums_nil _ _ _
theorem layK_any (W : World) (base P K2 N2 K n m k nc : Nat) (br : Bool) (NA : Option Addr) (hn : n < 100) (hm : m < 65) (hk : k < 7)
    (hP : Blk W P 44 (gcells grM (.slice none 0 0) (.slice (some ⟨K2, 0, none⟩) 16 16) (.slice none 0 0) (.slice (some ⟨N2, 0, none⟩) 1 1) ++ gcells (grK n m k br) (.slice none 0 0) (.slice (some ⟨K, 0, none⟩) (16 + n) (16 + n)) (.slice none 0 0) (.slice NA (k + 1) nc)).toArray)
    (hK2 : Blk W K2 77 (kzero 16)) (hN2 : Blk W N2 50 (ncells (ndR (-1)) (.slice none 0 0)).toArray) (hK : Blk W K 77 (kzero (16 + n))) (hO : W.ownsRow base 50 12 (.slice NA (k + 1) nc) (k + 1) (ndcells (nodesK k ++ [ndR (lastA br)]))) :
    Calls Try.prog 9 #[.agg #[.slice (some ⟨P, 0, none⟩) 2 2], .int .i64 1] W fun e w' => ∃ SA sc CA cc VA vc, e = .returned (.tuple #[.agg #[.int .i64 ((8 * (n + m + min k 6 + if br then 1 else 0) : Nat) : Int), .slice SA (nSlots (grK n m k br)) sc, .slice CA (nCells (grK n m k br)) cc, .slice VA (min k 6) vc, .int .i64 (resL (grK n m k br))], .int .i64 0]) ∧ Below W.heap.size W w' := by
  have hgs : GraphsAt W W.heap.size (.slice (some ⟨P, 0, none⟩) 2 2) [grM, grK n m k br] := by
    refine ⟨_, _, _, [gcells grM (.slice none 0 0) (.slice (some ⟨K2, 0, none⟩) 16 16) (.slice none 0 0) (.slice (some ⟨N2, 0, none⟩) 1 1), gcells (grK n m k br) (.slice none 0 0) (.slice (some ⟨K, 0, none⟩) (16 + n) (16 + n)) (.slice none 0 0) (.slice NA (k + 1) nc)], rfl, Nat.le_refl _, by unfold maxLen; omega, rfl, rfl, by simp [gcells], Reads.of_blk hP rfl (by simp [gcells]), fun i z hz => ?_⟩
    match i, hz with
    | 0, hz =>
      simp only [List.getElem?_cons_zero, Option.some.injEq] at hz
      subst hz
      refine ⟨_, rfl, _, _, _, _, rfl, nums_nil _ _ _, nums_kzero hK2 (by unfold maxLen; omega), nums_nil _ _ _, ?_⟩
      refine ⟨_, _, _, [ncells (ndR (-1)) (.slice none 0 0)], rfl, Nat.le_refl _, by unfold maxLen; omega, rfl, rfl, by simp [ncells], Reads.of_blk hN2 rfl (by simp [ncells]), fun i z hz => ?_⟩
      match i, hz with
      | 0, hz =>
        simp only [grM, List.getElem?_cons_zero, Option.some.injEq] at hz
        subst hz
        exact ⟨_, rfl, _, rfl, nums_nil _ _ _⟩
    | 1, hz =>
      simp only [List.getElem?_cons_zero, List.getElem?_cons_succ, Option.some.injEq] at hz
      subst hz
      refine ⟨_, rfl, _, _, _, _, rfl, nums_nil _ _ _, nums_kzero hK (by unfold maxLen; omega), nums_nil _ _ _, nodes_at (l := nodesK k ++ [ndR (lastA br)]) hO (by rw [List.length_append, nodesK_len]; rfl) fun x hx => ?_⟩
      rcases List.mem_append.1 (show x ∈ nodesK k ++ [ndR (lastA br)] from hx) with h | h
      · obtain ⟨i, _, rfl⟩ := List.mem_map.1 h; rfl
      · rw [List.mem_singleton] at h; rw [h]; rfl
  have hok : GraphsOk [grM, grK n m k br] := by
    refine ⟨fun g hg => ?_, fun g hg x hx => ?_⟩
    · simp only [List.mem_cons, List.not_mem_nil, or_false] at hg
      rcases hg with rfl | rfl
      · simp [grM]
      · simp only [grK, List.length_replicate]; omega
    · simp only [List.mem_cons, List.not_mem_nil, or_false] at hg
      rcases hg with rfl | rfl
      · simp only [grM, List.mem_singleton] at hx; rw [hx]; simp [ndR]
      · rcases List.mem_append.1 (show x ∈ nodesK k ++ [ndR (lastA br)] from hx) with h | h
        · obtain ⟨i, _, rfl⟩ := List.mem_map.1 h; simp [ndC]
        · rw [List.mem_singleton] at h; rw [h]; simp [ndR]
  refine (layout_any W W.heap.size _ [grM, grK n m k br] 1 (grK n m k br) hgs (Nat.le_refl _) hok (check_grK n m k br hn hm hk) rfl).mono ?_
  rintro e w' ⟨hb, v, rfl, sv, cv, vv, rfl, hS, hC, hV⟩
  rw [regs_grK n m br k hk] at hV
  rw [size_grK n m k br hk]
  obtain ⟨SA, sc, rfl, _⟩ := own_any hS
  obtain ⟨CA, cc, rfl, _⟩ := own_any hC
  obtain ⟨VA, vc, rfl, _⟩ := own_any hV
  exact ⟨SA, sc, CA, cc, VA, vc, rfl, hb⟩
end Go.Proofs.Ytopifdkkmchoeaa
