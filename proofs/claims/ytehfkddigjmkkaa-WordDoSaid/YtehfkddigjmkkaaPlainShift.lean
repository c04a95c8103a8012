/- Shifts of words by steps: plain arithmetic of doV 15, 16, 17. Conditions: the number is a word, the shifts are not below 0. -/
import Derived.Test.YtehfkddigjmkkaaPlainWord
set_option linter.unusedVariables false
set_option linter.unusedSimpArgs false
namespace Go.Proofs.Ytehfkddigjmkkaa
open Go.RowKit

theorem pow_split (p q : Nat) (h : q ≤ p) : (2 : Int) ^ p = 2 ^ (p - q) * 2 ^ q := by
  rw [← Int.pow_add, Nat.sub_add_cancel h]
theorem two64 : (2 : Int) ^ 64 = 18446744073709551616 := by decide
theorem pow_pos' (p : Nat) : (0 : Int) < 2 ^ p := Int.pow_pos (by omega)
theorem pow_le' {p q : Nat} (h : p ≤ q) : (2 : Int) ^ p ≤ 2 ^ q := by
  rw [pow_split q p h]
  have h1 := pow_pos' (q - p)
  have h2 := pow_pos' p
  have : (1 : Int) * 2 ^ p ≤ 2 ^ (q - p) * 2 ^ p := Int.mul_le_mul_of_nonneg_right (by omega) (by omega)
  omega
theorem d15 (a : Int) (X : Nat) : doV 15 a X = a * 2 ^ min X 64 % 18446744073709551616 := by simp [doV, IntKind.wrap_u64]
theorem d16 (a : Int) (X : Nat) : doV 16 a X = a / 2 ^ min X 64 := by simp [doV]
theorem d17 (a : Int) (X : Nat) : doV 17 a X = wrap64 a / 2 ^ min X 63 % 18446744073709551616 := by simp [doV, IntKind.wrap_u64]
theorem mul_big (a : Int) (p : Nat) (h : 64 ≤ p) : a * 2 ^ p % 18446744073709551616 = 0 := by
  rw [pow_split p 64 h, two64, ← Int.mul_assoc]; exact Int.mul_emod_left _ _
theorem shl_shl (a : Int) (X Y : Nat) : doV 15 (doV 15 a X) Y = doV 15 a ((X : Int) + (Y : Int)) := by
  rw [show ((X : Int) + (Y : Int)) = ((X + Y : Nat) : Int) by simp, d15, d15, d15, Int.mul_emod, Int.emod_emod_of_dvd _ (Int.dvd_refl _), ← Int.mul_emod, Int.mul_assoc, ← Int.pow_add]
  by_cases h : X + Y < 64
  · rw [show min X 64 + min Y 64 = min (X + Y) 64 from by omega]
  · rw [mul_big _ _ (by omega), mul_big _ _ (by omega)]
theorem div_big (a : Int) (p : Nat) (h : 64 ≤ p) (ha : U64 a) : a / 2 ^ p = 0 := by
  unfold U64 at ha
  exact Int.ediv_eq_zero_of_lt ha.1 (Int.lt_of_lt_of_le ha.2 (by rw [← two64]; exact pow_le' h))
theorem shr_shr (a : Int) (X Y : Nat) (ha : U64 a) : doV 16 (doV 16 a X) Y = doV 16 a ((X : Int) + (Y : Int)) := by
  rw [show ((X : Int) + (Y : Int)) = ((X + Y : Nat) : Int) by simp, d16, d16, d16, Int.ediv_ediv_of_nonneg (Int.le_of_lt (pow_pos' _)), ← Int.pow_add]
  by_cases h : X + Y < 64
  · rw [show min X 64 + min Y 64 = min (X + Y) 64 from by omega]
  · rw [div_big _ _ (by omega) ha, div_big _ _ (by omega) ha]
theorem sar_big (z : Int) (p : Nat) (h : 63 ≤ p) (h0 : -9223372036854775808 ≤ z) (h1 : z < 9223372036854775808) : z / 2 ^ p = if z < 0 then -1 else 0 := by
  have hp : (9223372036854775808 : Int) ≤ 2 ^ p := by
    have := pow_le' h
    rwa [show (2 : Int) ^ 63 = 9223372036854775808 by decide] at this
  by_cases hz : z < 0
  · rw [if_pos hz]
    have h2 : -1 ≤ z / 2 ^ p := (Int.le_ediv_iff_mul_le (pow_pos' p)).2 (by omega)
    have h3 : z / 2 ^ p < 0 := Int.ediv_neg_of_neg_of_pos hz (pow_pos' p)
    omega
  · rw [if_neg hz]; exact Int.ediv_eq_zero_of_lt (by omega) (by omega)
theorem ediv_range (z : Int) (p : Nat) (h0 : -9223372036854775808 ≤ z) (h1 : z < 9223372036854775808) : -9223372036854775808 ≤ z / 2 ^ p ∧ z / 2 ^ p < 9223372036854775808 := by
  have hp := pow_pos' p
  constructor
  · refine (Int.le_ediv_iff_mul_le hp).2 ?_
    have : (-9223372036854775808 : Int) * 2 ^ p ≤ -9223372036854775808 * 1 := Int.mul_le_mul_of_nonpos_left (by omega) (by omega)
    omega
  · refine Int.ediv_lt_of_lt_mul hp ?_
    have : (9223372036854775808 : Int) * 1 ≤ 9223372036854775808 * 2 ^ p := Int.mul_le_mul_of_nonneg_left (by omega) (by omega)
    omega
theorem sar_sar (a : Int) (X Y : Nat) : doV 17 (doV 17 a X) Y = doV 17 a ((X : Int) + (Y : Int)) := by
  rw [show ((X : Int) + (Y : Int)) = ((X + Y : Nat) : Int) by simp, d17, d17, d17]
  have h0 : -9223372036854775808 ≤ wrap64 a := by unfold wrap64; omega
  have h1 : wrap64 a < 9223372036854775808 := by unfold wrap64; omega
  generalize wrap64 a = z at *
  have hr := ediv_range z (min X 63) h0 h1
  have e : wrap64 (z / 2 ^ min X 63 % 18446744073709551616) = z / 2 ^ min X 63 := by
    generalize z / 2 ^ min X 63 = t at *
    unfold wrap64; omega
  rw [e, Int.ediv_ediv_of_nonneg (Int.le_of_lt (pow_pos' _)), ← Int.pow_add]
  by_cases h : X + Y < 63
  · rw [show min X 63 + min Y 63 = min (X + Y) 63 from by omega]
  · rw [sar_big _ _ (by omega) h0 h1, sar_big _ _ (by omega) h0 h1]
theorem shl_shr_big (a : Int) (X : Nat) (h : 63 < X) : doV 15 a X = 0 ∧ doV 16 (doV 15 a X) X = 0 := by
  have e : doV 15 a X = 0 := by rw [d15]; exact mul_big _ _ (by omega)
  rw [e, d16]; simp
theorem shl_shr (a : Int) (X : Nat) (ha : U64 a) (h : X ≤ 63) : doV 16 (doV 15 a X) X = bits .and .u64 a (18446744073709551615 / 2 ^ X) := by
  unfold U64 at ha
  obtain ⟨n, rfl⟩ := Int.eq_ofNat_of_zero_le ha.1
  rw [d15, d16, Nat.min_eq_left (by omega), ← two64, pow_split 64 X (by omega), Int.mul_comm (n : Int), Int.mul_comm (2 ^ (64 - X)), Int.mul_emod_mul_of_pos _ _ (pow_pos' X), Int.mul_ediv_cancel_left _ (Int.ne_of_gt (pow_pos' X))]
  have hp := pow_pos' X
  have e1 : (18446744073709551615 : Int) / 2 ^ X = ((2 ^ (64 - X) - 1 : Nat) : Int) := by
    have hq : 0 < 2 ^ (64 - X) := Nat.pow_pos (by omega)
    have e2 : (18446744073709551615 : Int) = (2 ^ (64 - X) - 1) * 2 ^ X + (2 ^ X - 1) := by
      have := pow_split 64 X (by omega)
      rw [two64] at this
      rw [Int.sub_mul, ← this]; omega
    rw [e2, Int.add_comm, Int.add_mul_ediv_right _ _ (Int.ne_of_gt hp), Int.ediv_eq_zero_of_lt (by omega) (by omega)]
    simp [Int.natCast_sub hq]
  rw [e1, u64_and_nat _ _ (by omega) ?_, Nat.and_two_pow_sub_one_eq_mod]
  · simp
  · have : (2 : Nat) ^ (64 - X) ≤ 2 ^ 64 := Nat.pow_le_pow_right (by omega) (by omega)
    omega
end Go.Proofs.Ytehfkddigjmkkaa
