/- A call of word.Do whose answer is known by name; what it makes is a word again; words as vectors of bits. No condition. -/
import Derived.Test.YtehfkddigjmkkaaFirst
import Derived.Test.YtehfkddigjmkkaaOpen
set_option linter.unusedVariables false
set_option linter.unusedSimpArgs false
namespace Go.Proofs.Ytehfkddigjmkkaa
open Go.RowKit

theorem do_as (op a b v er : Int) (w : World) (ha : U64 a) (hb : U64 b) (hv : doV op a b = v) (he : doE op b = er) :
    Calls Try.prog 11 #[.int .u8 op, .int .u64 a, .int .u64 b] w fun e w' => e = .returned (.tuple #[.int .u64 v, .int .i64 er]) ∧ w = w' := by
  subst hv he; exact do_any op a b w ha hb

theorem wrap64_mod (x : Int) : wrap64 x % 18446744073709551616 = x % 18446744073709551616 := by unfold wrap64; omega
theorem U64.ite {c : Prop} [Decidable c] {x y : Int} (hx : U64 x) (hy : U64 y) : U64 (if c then x else y) := by
  by_cases h : c
  · rwa [if_pos h]
  · rwa [if_neg h]
theorem doV_u64 (op a b : Int) (ha : U64 a) (hb : U64 b) : U64 (doV op a b) := by
  have hw : ∀ n, U64 (IntKind.u64.wrap n) := fun n => by rw [IntKind.wrap_u64]; unfold U64; omega
  have hbit : ∀ n : Nat, n < 2 ^ 64 → U64 (n : Int) := fun n h => by unfold U64; omega
  have h0 : U64 0 := by unfold U64; omega
  have h1' : U64 1 := by unfold U64; omega
  unfold U64 at ha hb
  have h1 : a.toNat < 2 ^ 64 := by omega
  have h2 : b.toNat < 2 ^ 64 := by omega
  have hs : U64 (a / 2 ^ min b.toNat 64) := by
    have hp : (0 : Int) < 2 ^ min b.toNat 64 := Int.pow_pos (by omega)
    unfold U64
    exact ⟨Int.ediv_nonneg ha.1 (by omega), Int.lt_of_le_of_lt (Int.ediv_le_self _ ha.1) ha.2⟩
  unfold doV
  repeat' (first | exact hw _ | exact h0 | exact h1' | exact hs | exact hbit _ (Nat.and_lt_two_pow _ h2) | exact hbit _ (Nat.or_lt_two_pow h1 h2) | exact hbit _ (Nat.xor_lt_two_pow h1 h2) | apply U64.ite)
theorem u64_vec {a : Int} (h : U64 a) : ∃ A : BitVec 64, a = (A.toNat : Int) := by
  unfold U64 at h
  exact ⟨BitVec.ofNat 64 a.toNat, by rw [BitVec.toNat_ofNat]; omega⟩
theorem vec_u64 (A : BitVec 64) : U64 (A.toNat : Int) := by unfold U64; have := A.isLt; omega
theorem do7_vec (A B : BitVec 64) : doV 7 A.toNat B.toNat = ((A + B).toNat : Int) := by
  simp [doV, IntKind.wrap_u64, BitVec.toNat_add]
theorem do8_vec (A B : BitVec 64) : doV 8 A.toNat B.toNat = ((A - B).toNat : Int) := by
  have := A.isLt
  have := B.isLt
  simp [doV, IntKind.wrap_u64, BitVec.toNat_sub]; omega
theorem do12_vec (A B : BitVec 64) : doV 12 A.toNat B.toNat = ((A &&& B).toNat : Int) := by simp [doV]
theorem do13_vec (A B : BitVec 64) : doV 13 A.toNat B.toNat = ((A ||| B).toNat : Int) := by simp [doV]
theorem do14_vec (A B : BitVec 64) : doV 14 A.toNat B.toNat = ((A ^^^ B).toNat : Int) := by simp [doV]
theorem vec_and_xor0 (A B : BitVec 64) : (A &&& B) &&& (A ^^^ B) = 0#64 := by
  ext i hi; cases ha : A[i] <;> cases hb : B[i] <;> simp [ha, hb]
theorem vec_and_xor (A B : BitVec 64) : (A &&& B) + (A ^^^ B) = A ||| B := by
  rw [BitVec.add_eq_or_of_and_eq_zero _ _ (vec_and_xor0 A B)]
  ext i hi; cases ha : A[i] <;> cases hb : B[i] <;> simp [ha, hb]
theorem vec_and_or (A B : BitVec 64) : (A &&& B) + (A ||| B) = A + B := by
  have e1 : A + (B &&& ~~~A) = A ||| B := by
    rw [BitVec.add_eq_or_of_and_eq_zero _ _ (by ext i hi; cases ha : A[i] <;> cases hb : B[i] <;> simp [ha, hb])]
    ext i hi; cases ha : A[i] <;> cases hb : B[i] <;> simp [ha, hb]
  have e2 : (A &&& B) + (B &&& ~~~A) = B := by
    rw [BitVec.add_eq_or_of_and_eq_zero _ _ (by ext i hi; cases ha : A[i] <;> cases hb : B[i] <;> simp [ha, hb])]
    ext i hi; cases ha : A[i] <;> cases hb : B[i] <;> simp [ha, hb]
  rw [← e1, ← BitVec.add_assoc, BitVec.add_comm (A &&& B) A, BitVec.add_assoc, e2]
end Go.Proofs.Ytehfkddigjmkkaa
