/- The walk of the law WordOrders: both orders are transitive, and the one is the other with the highest bits turned. No condition beyond that all are words. -/
import Derived.Test.YtehfkddigjmkkaaDoAs
set_option linter.unusedVariables false
set_option linter.unusedSimpArgs false
namespace Go.Proofs.Ytehfkddigjmkkaa
open Go.RowKit

def Tr (x y z : Int) : Prop := x = 0 ∧ y = 0 ∧ z = 0 ∨ x = 0 ∧ y = 0 ∧ z = 1 ∨ x = 0 ∧ y = 1 ∧ z = 0 ∨ x = 0 ∧ y = 1 ∧ z = 1 ∨ x = 1 ∧ y = 0 ∧ z = 0 ∨ x = 1 ∧ y = 0 ∧ z = 1 ∨ x = 1 ∧ y = 1 ∧ z = 1
set_option maxHeartbeats 1000000 in
theorem orders_core (a b c x y z x' y' z' p : Int) (w : World) (ha : U64 a) (hb : U64 b) (hc : U64 c) (hab : U64 (bits .xor .u64 a 9223372036854775808)) (hbb : U64 (bits .xor .u64 b 9223372036854775808))
    (h1 : Hid (doV 19 a b = x)) (h2 : Hid (doV 19 b c = y)) (h3 : Hid (doV 19 a c = z)) (h4 : Hid (doV 20 a b = x')) (h5 : Hid (doV 20 b c = y')) (h6 : Hid (doV 20 a c = z')) (ht : Tr x y z) (ht' : Tr x' y' z')
    (h8 : Hid (doV 20 (bits .xor .u64 a 9223372036854775808) (bits .xor .u64 b 9223372036854775808) = x)) :
    Calls Try.prog 7 #[.int .u64 a, .int .u64 b, .int .u64 c] w fun e w' => e = .returned (.bool true) ∧ Below w.heap.size w w' := by
  go_enter Try.func7, Try.ntmps7
  go_wp2_with fail
  refine (first_true _).mono ?_
  rintro e w1 ⟨rfl, hbw⟩
  go_wp2_with fail
  have hfin := hbw.alloc hbw.size (.cells #[.int .u8 19, .int .u8 20] 27)
  go_loop [23] (fun i => ∃ k : Nat, k ≤ 2 ∧ i = .int .i64 k) (fun i => 2 - (intOf i).toNat)
  case atStart => exact ⟨0, by omega, rfl⟩
  case round =>
    obtain ⟨k, hk, rfl⟩ := hrel
    by_cases h0 : k = 0
    · subst h0
      rcases ht with h | h | h | h | h | h | h
      all_goals
        obtain ⟨rfl, rfl, rfl⟩ := h
        go_wp2_with fail
        refine (do_as 19 a b _ 0 _ ha hb h1.out (by simp [doE])).mono ?_
        rintro e w' ⟨rfl, rfl⟩
        go_wp2_with fail
        refine (do_as 19 b c _ 0 _ hb hc h2.out (by simp [doE])).mono ?_
        rintro e w' ⟨rfl, rfl⟩
        go_wp2_with fail
        refine (do_as 19 a c _ 0 _ ha hc h3.out (by simp [doE])).mono ?_
        rintro e w' ⟨rfl, rfl⟩
        go_wp2_with fail
        exact ⟨⟨1, by omega, rfl⟩, by simp [intOf]⟩
    · by_cases h1' : k = 1
      · subst h1'
        rcases ht' with h | h | h | h | h | h | h
        all_goals
          obtain ⟨rfl, rfl, rfl⟩ := h
          go_wp2_with fail
          refine (do_as 20 a b _ 0 _ ha hb h4.out (by simp [doE])).mono ?_
          rintro e w' ⟨rfl, rfl⟩
          go_wp2_with fail
          refine (do_as 20 b c _ 0 _ hb hc h5.out (by simp [doE])).mono ?_
          rintro e w' ⟨rfl, rfl⟩
          go_wp2_with fail
          refine (do_as 20 a c _ 0 _ ha hc h6.out (by simp [doE])).mono ?_
          rintro e w' ⟨rfl, rfl⟩
          go_wp2_with fail
          exact ⟨⟨2, by omega, rfl⟩, by simp [intOf]⟩
      · obtain rfl : k = 2 := by omega
        go_wp2_with fail
        refine (do_as 19 a b x 0 _ ha hb h1.out (by simp [doE])).mono ?_
        rintro e w' ⟨rfl, rfl⟩
        go_wp2_with fail
        refine (do_as 20 _ _ x 0 _ hab hbb h8.out (by simp [doE])).mono ?_
        rintro e w' ⟨rfl, rfl⟩
        go_wp2_with fail
        go_ret
        exact ⟨rfl, hfin⟩

theorem lt_tr (f : Int → Int) (a b c : Int) : Tr (if f a < f b then 1 else 0) (if f b < f c then 1 else 0) (if f a < f c then 1 else 0) := by
  unfold Tr
  by_cases h1 : f a < f b <;> by_cases h2 : f b < f c <;> by_cases h3 : f a < f c <;> simp [h1, h2, h3]
  omega
theorem top_turn (a : Int) (h : U64 a) : bits .xor .u64 a 9223372036854775808 = wrap64 a + 9223372036854775808 := by
  obtain ⟨A, rfl⟩ := u64_vec h
  have e := u64_xor_nat A.toNat 9223372036854775808 A.isLt (by omega)
  rw [show ((9223372036854775808 : Nat) : Int) = 9223372036854775808 from rfl] at e
  have e1 := congrArg BitVec.toNat (vec_and_xor A 9223372036854775808#64)
  have e2 := congrArg BitVec.toNat (vec_and_or A 9223372036854775808#64)
  have e3 : (A &&& 9223372036854775808#64).toNat = A.toNat / 9223372036854775808 % 2 * 9223372036854775808 := by
    rw [BitVec.toNat_and]; exact nat_bit 63 A.toNat
  have e4 : (A ^^^ 9223372036854775808#64).toNat = A.toNat ^^^ 9223372036854775808 := by rw [BitVec.toNat_xor]; rfl
  have l1 := (A ^^^ 9223372036854775808#64).isLt
  rw [BitVec.toNat_add, e3, e4] at e1
  rw [BitVec.toNat_add, e3, ← e1, BitVec.toNat_add, show (9223372036854775808#64).toNat = 9223372036854775808 from rfl] at e2
  rw [e4] at l1
  rw [e]
  generalize A.toNat ^^^ 9223372036854775808 = x at *
  have := A.isLt
  unfold wrap64
  clear e1 e3 e4 e
  omega
theorem walk_WordOrders (w : World) (a0 : Int) (w0 : (Lit.int .u64 a0).wf = true) (a1 : Int) (w1 : (Lit.int .u64 a1).wf = true) (a2 : Int) (w2 : (Lit.int .u64 a2).wf = true) :
    Calls Try.prog 7 #[.int .u64 a0, .int .u64 a1, .int .u64 a2] w fun e w' => e = .returned (.bool true) ∧ Below w.heap.size w w' := by
  have ha := u64_of_wf w0
  have hb := u64_of_wf w1
  have hc := u64_of_wf w2
  have e1 := top_turn a0 ha
  have e2 := top_turn a1 hb
  have hr : ∀ x, U64 (wrap64 x + 9223372036854775808) := fun x => by unfold U64 wrap64; omega
  have d1 : ∀ x y, doV 19 x y = if wrap64 x < wrap64 y then 1 else 0 := fun x y => by simp [doV]
  have d2 : ∀ x y, doV 20 x y = if x < y then 1 else 0 := fun x y => by simp [doV]
  refine orders_core a0 a1 a2 _ _ _ _ _ _ 0 w ha hb hc (by rw [e1]; exact hr _) (by rw [e2]; exact hr _) (Lib.hid rfl) (Lib.hid rfl) (Lib.hid rfl) (Lib.hid rfl) (Lib.hid rfl) (Lib.hid rfl) ?_ ?_ ?_
  · rw [d1, d1, d1]; exact lt_tr wrap64 _ _ _
  · rw [d2, d2, d2]; exact lt_tr (fun x => x) _ _ _
  · show doV 20 _ _ = _
    rw [d1, d2, e1, e2]
    by_cases h : wrap64 a0 < wrap64 a1
    · rw [if_pos h, if_pos (by omega)]
    · rw [if_neg h, if_neg (by omega)]
end Go.Proofs.Ytehfkddigjmkkaa
