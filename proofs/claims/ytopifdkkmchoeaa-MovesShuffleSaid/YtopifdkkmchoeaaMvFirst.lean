/- Walks of the document's Held, and of what is answered ahead of everything else. Conditions: the moves lie in memory. -/
import Derived.Test.YtopifdkkmchoeaaMvLine
set_option linter.unusedVariables false
set_option linter.unusedSimpArgs false
namespace Go.Proofs.Ytopifdkkmchoeaa
open Go.RowKit

def heldM (l : List Mv) (p : Int) : Int := l.foldr (fun m at_ => if m.1 == at_ then m.2 else at_) p
set_option maxRecDepth 100000 in
set_option maxHeartbeats 1000000 in
theorem held_any (A : Option Addr) (n c : Nat) (ms : List Mv) (p : Int) (w : World) (B : Nat) (hr : Reads w B 2 A n (mcells ms)) (hl : ms.length = n) (hn : n ≤ 140737488351232) :
    Calls Try.prog 12 #[.slice A n c, .int .i64 p] w fun e w' => e = .returned (.int .i64 (heldM ms p)) ∧ w = w' := by
  have Hr := Lib.hid hr
  have Hl := Lib.hid hl
  clear hl hr
  go_enter Try.func12, Try.ntmps12
  go_wp2_with fail
  go_loop [5, 6] (fun a i => ∃ k : Nat, k ≤ n ∧ i = .int .i64 ((k : Int) - 1) ∧ a = .int .i64 (heldM (ms.drop k) p)) (fun _ i => (intOf i + 1).toNat)
  case atStart => exact ⟨n, Nat.le_refl _, rfl, by rw [List.drop_of_length_le (by rw [Hl.out]; exact Nat.le_refl _)]; rfl⟩
  case round =>
    obtain ⟨k, hk, rfl, rfl⟩ := hrel
    rcases k with _ | k
    · have h1 : ¬ (0 : Int) ≤ -1 := by omega
      go_wp2_with fail
      go_ret
      exact ⟨rfl, rfl⟩
    · have e1 : ((k + 1 : Nat) : Int) - 1 = (k : Int) := by omega
      obtain ⟨m, hmk⟩ : ∃ m, ms[k]? = some m := ⟨_, List.getElem?_eq_getElem (by have := Hl.out; omega)⟩
      obtain ⟨ad, hA, hadB, hce⟩ := Hr.out.2 (by omega)
      subst hA
      obtain ⟨q1, q2⟩ := mcells_get ms k m hmk
      have c0 := hce _ _ q1
      have c1 := hce _ _ q2
      rw [← addr_sub ad (k * 2) 1 (by omega)] at c1
      have hd : ms.drop k = m :: ms.drop (k + 1) := by
        obtain ⟨h1, h2⟩ := List.getElem?_eq_some_iff.1 hmk
        rw [List.drop_eq_getElem_cons h1, h2]
      obtain ⟨at_, hat⟩ : ∃ at_, heldM (ms.drop (k + 1)) p = at_ := ⟨_, rfl⟩
      have hnext : heldM (ms.drop k) p = if m.1 == at_ then m.2 else at_ := by rw [hd, ← hat]; rfl
      rw [hat, e1]
      have Hmk := Lib.hid hmk
      have Hd := Lib.hid hd
      have Hat := Lib.hid hat
      have Hnext := Lib.hid hnext
      clear hnext hat hd hmk
      clear hce q1 q2 e1
      by_cases e : m.1 = at_
      · have eb : (m.1 == at_) = true := by simp [e]
        have HN : Hid (heldM (ms.drop k) p = m.2) := by rw [Hnext.out, eb]; exact rfl
        have HE := Lib.hid e
        clear e
        go_wp2_with fail
        exact ⟨⟨k, by omega, by go_num, by rw [HN.out]⟩, by simp [intOf]⟩
      · have eb : (m.1 == at_) = false := by rw [beq_eq_false_iff_ne]; exact e
        have HN : Hid (heldM (ms.drop k) p = at_) := by rw [Hnext.out, eb]; exact rfl
        have HE := Lib.hid e
        clear e
        go_wp2_with fail
        exact ⟨⟨k, by omega, by go_num, by rw [HN.out]⟩, by simp [intOf]⟩
theorem ok_first : okM [(1, 2), (2, 1)] 9 := by decide
theorem line_first : lineAll [(1, 2), (2, 1)] 9 = [(9, 1), (1, 2), (2, 9)] := by decide
set_option maxRecDepth 100000 in
set_option maxHeartbeats 1000000 in
theorem firstM_any (w : World) : Calls Try.prog 6 #[] w fun e w' => e = .returned (.bool true) ∧ Below w.heap.size w w' := by
  have hR : Reads (w.alloc (.cells #[.int .i64 1, .int .i64 2, .int .i64 2, .int .i64 1] 26)) (w.heap.size + 1) 2 (some ⟨w.heap.size, 0, none⟩) 2 (mcells [(1, 2), (2, 1)]) := Reads.newS _ rfl _ _ _ _ _ rfl rfl
  have hal := (Below.refl w.heap.size w).alloc (Nat.le_refl _) (.cells #[.int .i64 1, .int .i64 2, .int .i64 2, .int .i64 1] 26)
  have hln := line_any _ 2 2 _ 9 _ _ hR rfl (Nat.le_refl _) (by unfold maxLen; omega) (by omega) (by simp) (by intro m hm; simp at hm; rcases hm with rfl | rfl <;> (unfold I64; simp)) ok_first
  have HR := Lib.hid hR
  have Hal := Lib.hid hal
  have Hln := Lib.hid hln
  clear hln hal hR
  go_enter Try.func6, Try.ntmps6
  go_wp2_with fail
  refine Hln.out.mono ?_
  rintro e w2 ⟨hb2, V, x, rfl, hO⟩
  rw [line_first] at hO
  obtain ⟨_, _, e4, hq1, hq2, hrd⟩ := own_any hO
  injection e4 with e4 _ e6
  subst e4 e6
  have hbn := Hal.out.trans (hb2.mono Hal.out.size)
  have h1 := held_any V 3 x [(9, 1), (1, 2), (2, 9)] 1 w2 _ hrd rfl (by omega)
  have h2 := held_any V 3 x [(9, 1), (1, 2), (2, 9)] 2 w2 _ hrd rfl (by omega)
  rw [show heldM [(9, 1), (1, 2), (2, 9)] 1 = 2 by decide] at h1
  rw [show heldM [(9, 1), (1, 2), (2, 9)] 2 = 1 by decide] at h2
  have hl3 : (lineAll [(1, 2), (2, 1)] 9).length = 3 := by rw [line_first]; rfl
  rw [hl3]
  have Hb2 := Lib.hid hb2
  have HO := Lib.hid hO
  have Hrd := Lib.hid hrd
  have Hbn := Lib.hid hbn
  have H1 := Lib.hid h1
  have H2 := Lib.hid h2
  have Hl3 := Lib.hid hl3
  clear hl3 h2 h1 hbn hrd hO hb2
  go_wp2_with fail
  refine H1.out.mono ?_
  rintro e w' ⟨rfl, rfl⟩
  go_wp2_with fail
  refine H2.out.mono ?_
  rintro e w' ⟨rfl, rfl⟩
  go_wp2_with fail
  go_ret
  exact ⟨rfl, Hbn.out⟩
end Go.Proofs.Ytopifdkkmchoeaa
