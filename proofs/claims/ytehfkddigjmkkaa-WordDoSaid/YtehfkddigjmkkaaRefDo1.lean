/- The document's helpers of layer 1: minus, size, pow, bit. Conditions: words of 64 bits. -/
import Derived.Test.YtehfkddigjmkkaaDoAs
set_option linter.unusedVariables false
set_option linter.unusedSimpArgs false
namespace Go.Proofs.Ytehfkddigjmkkaa
open Go.RowKit

theorem pow_bd (k : Nat) (h : k ≤ 63) : (0 : Int) < 2 ^ k ∧ (2 : Int) ^ k ≤ 9223372036854775808 := by
  have h1 : (0 : Int) < 2 ^ k := Int.pow_pos (by omega)
  refine ⟨h1, ?_⟩
  have : (2 : Nat) ^ k ≤ 2 ^ 63 := Nat.pow_le_pow_right (by omega) h
  have h2 : ((2 ^ k : Nat) : Int) ≤ ((2 ^ 63 : Nat) : Int) := Int.ofNat_le.2 this
  simpa using h2
theorem compl_any (a : Int) (h : U64 a) : bits .xor .u64 IntKind.u64.max a = 18446744073709551615 - a := by
  obtain ⟨A, rfl⟩ := u64_vec h
  have e := u64_xor_nat 18446744073709551615 A.toNat (by omega) A.isLt
  rw [show ((18446744073709551615 : Nat) : Int) = IntKind.u64.max from by decide] at e
  rw [e, show (18446744073709551615 : Nat) = (18446744073709551615#64).toNat from rfl, ← BitVec.toNat_xor, show (18446744073709551615#64 : BitVec 64) = BitVec.allOnes 64 from rfl, BitVec.allOnes_xor, BitVec.toNat_not]
  have := A.isLt
  omega
def szV (a : Int) : Int := if 9223372036854775808 ≤ a then 18446744073709551616 - a else a
set_option maxHeartbeats 400000 in
theorem pow_any (n : Int) (w : World) (h0 : 0 ≤ n) (h1 : n ≤ 63) : Calls Try.prog 21 #[.int .u64 n] w fun e w' => e = .returned (.int .u64 (2 ^ n.toNat)) ∧ w = w' := by
  obtain ⟨m, rfl⟩ := Int.eq_ofNat_of_zero_le h0
  rw [Int.toNat_natCast]
  go_enter Try.func21, Try.ntmps21
  go_wp2_with fail
  go_loop [0, 3] (fun i p => ∃ k : Nat, k ≤ m ∧ i = .int .u64 ((m - k : Nat) : Int) ∧ p = .int .u64 (2 ^ k)) (fun i _ => (intOf i).toNat)
  case atStart => exact ⟨0, by omega, rfl, rfl⟩
  case round =>
    obtain ⟨k, hk, rfl, rfl⟩ := hrel
    by_cases hlt : k < m
    · go_wp2_with fail
      have hp := pow_bd (k + 1) (by omega)
      rw [Int.pow_succ] at hp
      refine ⟨⟨k + 1, by omega, ?_, ?_⟩, by simp [intOf]; omega⟩
      · rw [show ((m - k : Nat) : Int) - 1 = ((m - (k + 1) : Nat) : Int) by omega]
      · rw [IntKind.wrap_u64, Int.emod_eq_of_lt (by omega) (by omega), Int.pow_succ]
    · obtain rfl : k = m := by omega
      go_wp2_with fail
      go_ret
      exact ⟨rfl, rfl⟩
theorem pow_as (n v : Int) (k : Nat) (w : World) (hk : n = k) (h1 : k ≤ 63) (hv : 2 ^ k = v) : Calls Try.prog 21 #[.int .u64 n] w fun e w' => e = .returned (.int .u64 v) ∧ w = w' := by
  subst hk hv
  exact pow_any k w (by omega) (by omega)
set_option maxHeartbeats 400000 in
theorem minus_any (a : Int) (w : World) (b : Bool) (hb : decide (9223372036854775808 ≤ a) = b) : Calls Try.prog 20 #[.int .u64 a] w fun e w' => e = .returned (.bool b) ∧ w = w' := by
  subst hb
  go_enter Try.func20, Try.ntmps20
  go_wp2
  go_ret
  exact ⟨rfl, rfl⟩
theorem ret_int64 {a b : Int} (h : a = b) : Ending.returned (.int .u64 a) = .returned (.int .u64 b) := by rw [h]
set_option maxHeartbeats 400000 in
theorem size_any (a : Int) (w : World) (ha : U64 a) : Calls Try.prog 19 #[.int .u64 a] w fun e w' => e = .returned (.int .u64 (szV a)) ∧ w = w' := by
  have hc := compl_any a ha
  have HC := Lib.hid hc
  clear hc
  by_cases h : 9223372036854775808 ≤ a
  · have HZ : Hid (szV a = 18446744073709551616 - a) := if_pos h
    go_enter Try.func19, Try.ntmps19
    go_wp2_with fail
    refine (minus_any a _ true (by simpa using h)).mono ?_
    rintro e w' ⟨rfl, rfl⟩
    go_wp2_with fail
    go_ret
    refine ⟨ret_int64 ?_, rfl⟩
    rw [HC.out, HZ.out, IntKind.wrap_u64]
    unfold U64 at ha; omega
  · have HZ : Hid (szV a = a) := if_neg h
    go_enter Try.func19, Try.ntmps19
    go_wp2_with fail
    refine (minus_any a _ false (by simpa using h)).mono ?_
    rintro e w' ⟨rfl, rfl⟩
    go_wp2_with fail
    go_ret
    exact ⟨ret_int64 HZ.out.symm, rfl⟩
theorem size_as (a v : Int) (w : World) (ha : U64 a) (hv : szV a = v) : Calls Try.prog 19 #[.int .u64 a] w fun e w' => e = .returned (.int .u64 v) ∧ w = w' := by
  subst hv; exact size_any a w ha
set_option maxHeartbeats 400000 in
theorem bit_any (b : Bool) (w : World) : Calls Try.prog 22 #[.bool b] w fun e w' => e = .returned (.int .u64 (if b then 1 else 0)) ∧ w = w' := by
  cases b
  all_goals
    go_enter Try.func22, Try.ntmps22
    go_wp2
    go_ret
    exact ⟨rfl, rfl⟩
end Go.Proofs.Ytehfkddigjmkkaa
