/- Instructions and their bytes: what is written is read again. No condition. -/
import Derived.Test.YtnnlhhokljjghaaDecM
set_option linter.unusedVariables false
set_option linter.unusedSimpArgs false
namespace Go.Proofs.Ytnnlhhokljjghaa
open Go.RowKit

theorem mOf_mbytes (i : MInstD) (hw : i.Wf) : mOf (mbytes i) = i := by
  obtain ⟨op, d, a, b, imm⟩ := i
  have h := hw.imm
  simp only at h
  have e : ((mbytes ⟨op, d, a, b, imm⟩).drop 4).take 4 = bytesLE 4 (imm % 4294967296) := by
    rw [mbytes, List.drop_append_of_le_length (by simp), List.drop_of_length_le (by simp), List.nil_append, List.take_of_length_le (by rw [bytesLE_length]; omega)]
  unfold mOf
  rw [e, leV_bytes 4 _ (by omega), IntKind.wrap_i32]
  simp only [mbytes, List.cons_append, List.getD_cons_zero, List.getD_cons_succ, MInstD.mk.injEq, true_and]
  omega
theorem decM_flat : ∀ (l : List MInstD), (∀ i ∈ l, i.Wf ∧ goodP i = true) → decM l.length (l.flatMap mbytes) = some l
  | [], _ => rfl
  | i :: l, h => by
    obtain ⟨hw, hg⟩ := h i (List.mem_cons_self ..)
    have ht : ((i :: l).flatMap mbytes).take 8 = mbytes i := by
      rw [List.flatMap_cons, List.take_append_of_le_length (by rw [mbytes_len]; omega), List.take_of_length_le (by rw [mbytes_len]; omega)]
    have hd : ((i :: l).flatMap mbytes).drop 8 = l.flatMap mbytes := by
      rw [List.flatMap_cons, List.drop_append_of_le_length (by rw [mbytes_len]; omega), List.drop_of_length_le (by rw [mbytes_len]; omega), List.nil_append]
    rw [List.length_cons, decM, ht, hd, mOf_mbytes i hw, if_pos hg, decM_flat l (fun j hj => h j (List.mem_cons_of_mem _ hj))]
    rfl
theorem decM_all : ∀ (k : Nat) (r : List Int) (l : List MInstD), decM k r = some l → (∀ x ∈ r, 0 ≤ x ∧ x < 256) → l.length = k ∧ ∀ i ∈ l, i.Wf ∧ goodP i = true
  | 0, r, l, h, _ => by
    simp only [decM, Option.some.injEq] at h
    subst h
    exact ⟨rfl, fun i hi => absurd hi (by simp)⟩
  | k + 1, r, l, h, hb => by
    rw [decM] at h
    by_cases hg : goodP (mOf (r.take 8)) = true
    · rw [if_pos hg, Option.map_eq_some_iff] at h
      obtain ⟨l2, h2, rfl⟩ := h
      obtain ⟨h3, h4⟩ := decM_all k (r.drop 8) l2 h2 (fun x hx => hb x (List.mem_of_mem_drop hx))
      refine ⟨by rw [List.length_cons, h3], fun i hi => ?_⟩
      rcases List.mem_cons.1 hi with rfl | hi
      · exact ⟨mOf_wf _ (fun x hx => hb x (List.mem_of_mem_take hx)), hg⟩
      · exact h4 i hi
    · rw [if_neg hg] at h
      cases h
theorem bytes_cons (k : Nat) (v : Int) : bytesLE (k + 1) v = v % 256 :: bytesLE k (v / 256) := by
  unfold bytesLE
  rw [List.range_succ_eq_map, List.map_cons, List.map_map]
  congr 1
  · simp [byteAt]
  · apply List.map_congr_left
    intro j _
    simp only [Function.comp, byteAt, Nat.succ_eq_add_one]
    rw [Int.ediv_ediv_of_nonneg (by omega), Int.pow_succ, Int.mul_comm]
theorem bytes_leV : ∀ (l : List Int), (∀ x ∈ l, 0 ≤ x ∧ x < 256) → bytesLE l.length (leV l) = l
  | [], _ => rfl
  | x :: l, h => by
    have hx := h x (List.mem_cons_self ..)
    rw [List.length_cons, bytes_cons, show leV (x :: l) = x + 256 * leV l from rfl, show (x + 256 * leV l) % 256 = x by omega, show (x + 256 * leV l) / 256 = leV l by omega, bytes_leV l (fun y hy => h y (List.mem_cons_of_mem _ hy))]
theorem mbytes_mOf (r : List Int) (hl : r.length = 8) (hb : ∀ x ∈ r, 0 ≤ x ∧ x < 256) : mbytes (mOf r) = r := by
  obtain ⟨x0, x1, x2, x3, x4, x5, x6, x7, zs, rfl⟩ := eight r (by omega)
  have hz : zs = [] := by
    cases zs with
    | nil => rfl
    | cons a b => simp at hl
  subst hz
  have e : ((([x0, x1, x2, x3, x4, x5, x6, x7] : List Int).drop 4).take 4) = [x4, x5, x6, x7] := rfl
  have h4 : ∀ x ∈ ([x4, x5, x6, x7] : List Int), 0 ≤ x ∧ x < 256 := fun x hx => hb x (by
    simp only [List.mem_cons, List.not_mem_nil, or_false] at hx ⊢
    rcases hx with h | h | h | h <;> simp [h])
  obtain ⟨v0, v1⟩ := leV_bd _ h4
  have hb4 := bytes_leV _ h4
  unfold mbytes mOf
  rw [e]
  obtain ⟨v, hv⟩ : ∃ v, leV [x4, x5, x6, x7] = v := ⟨_, rfl⟩
  rw [hv] at hb4 v0 v1 ⊢
  have hw : IntKind.i32.wrap v % 4294967296 = v := by
    have v2 : v < 4294967296 := by simpa using v1
    rw [IntKind.wrap_i32]; omega
  simp only [List.getD_cons_zero, List.getD_cons_succ, hw]
  rw [show bytesLE 4 v = [x4, x5, x6, x7] from hb4]
  rfl
theorem decM_enc : ∀ (k : Nat) (r : List Int) (l : List MInstD), decM k r = some l → r.length = 8 * k → (∀ x ∈ r, 0 ≤ x ∧ x < 256) → l.flatMap mbytes = r
  | 0, r, l, h, hl, _ => by
    simp only [decM, Option.some.injEq] at h
    subst h
    have : r = [] := List.length_eq_zero_iff.1 (by omega)
    rw [this]; rfl
  | k + 1, r, l, h, hl, hb => by
    rw [decM] at h
    by_cases hg : goodP (mOf (r.take 8)) = true
    · rw [if_pos hg, Option.map_eq_some_iff] at h
      obtain ⟨l2, h2, rfl⟩ := h
      have ih := decM_enc k (r.drop 8) l2 h2 (by rw [List.length_drop]; omega) (fun x hx => hb x (List.mem_of_mem_drop hx))
      rw [List.flatMap_cons, ih, mbytes_mOf _ (by rw [List.length_take]; omega) (fun x hx => hb x (List.mem_of_mem_take hx)), List.take_append_drop]
    · rw [if_neg hg] at h
      cases h
theorem mbytes_bd (l : List MInstD) (h : ∀ i ∈ l, i.Wf ∧ goodP i = true) : ∀ x ∈ l.flatMap mbytes, 0 ≤ x ∧ x < 256 := by
  intro x hx
  obtain ⟨i, hi, hx⟩ := List.mem_flatMap.1 hx
  obtain ⟨hw, hg⟩ := h i hi
  obtain ⟨hd, ha, hb⟩ := good_regs hg
  have ho := hw.op
  simp only [mbytes, List.mem_append, List.mem_cons, List.not_mem_nil, or_false] at hx
  rcases hx with (rfl | rfl | rfl | rfl) | hx
  · omega
  · omega
  · omega
  · omega
  · exact bytesLE_bd 4 _ x hx
theorem mcells_flen (l : List MInstD) : (l.flatMap mcells).length = l.length * 5 := by
  induction l with
  | nil => rfl
  | cons x r ih => rw [List.flatMap_cons, List.length_append, ih, mcells_len, List.length_cons]; omega
end Go.Proofs.Ytnnlhhokljjghaa
