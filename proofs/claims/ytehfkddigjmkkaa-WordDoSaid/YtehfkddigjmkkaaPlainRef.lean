/- The document's forms of the operations are the program's: plain arithmetic. Conditions: words of 64 bits. -/
import Derived.Test.YtehfkddigjmkkaaPlainShift
import Derived.Test.YtehfkddigjmkkaaRefDo1
set_option linter.unusedVariables false
set_option linter.unusedSimpArgs false
namespace Go.Proofs.Ytehfkddigjmkkaa
open Go.RowKit

theorem ref8 (a b : Int) : IntKind.u64.wrap (IntKind.u64.wrap (a + (18446744073709551615 - b)) + 1) = doV 8 a b := by
  simp [doV, IntKind.wrap_u64]; omega
theorem sz_w (a : Int) (h : U64 a) : wrap64 a = if 9223372036854775808 ≤ a then -szV a else szV a := by
  unfold U64 at h; unfold szV wrap64; split <;> omega
theorem q_bd (sa sb : Int) (h0 : 0 ≤ sa) (h1 : 1 ≤ sb) : 0 ≤ sa / sb ∧ sa / sb ≤ sa := ⟨Int.ediv_nonneg h0 (by omega), Int.ediv_le_self _ h0⟩
theorem sz_bd (a : Int) (h : U64 a) : 0 ≤ szV a ∧ szV a ≤ 9223372036854775808 := by unfold U64 at h; unfold szV; split <;> omega
theorem sz_pos (a : Int) (h : U64 a) (h0 : ¬ a = 0) : 1 ≤ szV a := by unfold U64 at h; unfold szV; split <;> omega
theorem ref10s (a b sa sb : Int) (ha : U64 a) (hb : U64 b) (hsa : szV a = sa) (hsb : szV b = sb) (h1 : 1 ≤ sb) (hs : decide (9223372036854775808 ≤ a) = decide (9223372036854775808 ≤ b)) : sa / sb = doV 10 a b := by
  have hb0 : ¬ b = 0 := by rintro rfl; rw [show szV 0 = 0 from by simp [szV]] at hsb; omega
  have e : doV 10 a b = wrap64 ((wrap64 a).tdiv (wrap64 b)) % 18446744073709551616 := by simp [doV, hb0, IntKind.wrap_u64]
  have bd := sz_bd a ha
  rw [hsa] at bd
  have hq := q_bd sa sb bd.1 h1
  rw [e, wrap64_mod, sz_w a ha, sz_w b hb, hsa, hsb]
  rw [decide_eq_decide] at hs
  by_cases h : 9223372036854775808 ≤ b
  · rw [if_pos (hs.2 h), if_pos h, Int.neg_tdiv, Int.tdiv_neg, Int.neg_neg, Int.tdiv_eq_ediv_of_nonneg bd.1]; omega
  · rw [if_neg (fun x => h (hs.1 x)), if_neg h, Int.tdiv_eq_ediv_of_nonneg bd.1]; omega
theorem ref10d (a b sa sb : Int) (ha : U64 a) (hb : U64 b) (hsa : szV a = sa) (hsb : szV b = sb) (h1 : 1 ≤ sb) {va vb : Bool} (hva : decide (9223372036854775808 ≤ a) = va) (hvb : decide (9223372036854775808 ≤ b) = vb) (hd : va = !vb := by rfl) :
    IntKind.u64.wrap (18446744073709551615 - sa / sb + 1) = doV 10 a b := by
  subst hva hvb
  have hb0 : ¬ b = 0 := by rintro rfl; rw [show szV 0 = 0 from by simp [szV]] at hsb; omega
  have e : doV 10 a b = wrap64 ((wrap64 a).tdiv (wrap64 b)) % 18446744073709551616 := by simp [doV, hb0, IntKind.wrap_u64]
  have bd := sz_bd a ha
  rw [hsa] at bd
  have hq := q_bd sa sb bd.1 h1
  rw [e, wrap64_mod, sz_w a ha, sz_w b hb, hsa, hsb, IntKind.wrap_u64]
  by_cases h : 9223372036854775808 ≤ b
  · have h' : ¬ 9223372036854775808 ≤ a := by simpa [h] using hd
    rw [if_neg h', if_pos h, Int.tdiv_neg, Int.tdiv_eq_ediv_of_nonneg bd.1]; omega
  · have h' : 9223372036854775808 ≤ a := by simpa [h] using hd
    rw [if_pos h', if_neg h, Int.neg_tdiv, Int.tdiv_eq_ediv_of_nonneg bd.1]; omega
theorem rem_val (a b sa sb r : Int) (ha : U64 a) (hsa : szV a = sa) (h1 : 1 ≤ sb) (hr : IntKind.u64.wrap (sa - IntKind.u64.wrap (sa / sb * sb)) = r) : r = sa % sb ∧ 0 ≤ r ∧ r ≤ 9223372036854775808 := by
  have bd := sz_bd a ha
  rw [hsa] at bd
  have h2 := Int.emod_nonneg sa (show sb ≠ 0 by omega)
  have h3 : sa / sb * sb + sa % sb = sa := Int.ediv_mul_add_emod sa sb
  have h4 : 0 ≤ sa / sb * sb := Int.mul_nonneg (Int.ediv_nonneg bd.1 (by omega)) (by omega)
  rw [IntKind.wrap_u64, IntKind.wrap_u64] at hr
  generalize sa / sb * sb = t at *
  generalize sa % sb = u at *
  omega
theorem ref11f (a b sa sb r : Int) (ha : U64 a) (hb : U64 b) (hsa : szV a = sa) (hsb : szV b = sb) (hr : IntKind.u64.wrap (sa - IntKind.u64.wrap (sa / sb * sb)) = r) (h1 : 1 ≤ sb) (hva : decide (9223372036854775808 ≤ a) = false) : r = doV 11 a b := by
  obtain ⟨e1, e2, e3⟩ := rem_val a b sa sb r ha hsa h1 hr
  have hb0 : ¬ b = 0 := by rintro rfl; rw [show szV 0 = 0 from by simp [szV]] at hsb; omega
  have e : doV 11 a b = (wrap64 a).tmod (wrap64 b) % 18446744073709551616 := by simp [doV, hb0, IntKind.wrap_u64]
  have bd := sz_bd a ha
  rw [hsa] at bd
  have hm : sa.tmod sb = r := by rw [Int.tmod_eq_emod_of_nonneg bd.1, e1]
  rw [e, sz_w a ha, sz_w b hb, hsa, hsb, if_neg (of_decide_eq_false hva)]
  by_cases h : 9223372036854775808 ≤ b
  · rw [if_pos h, Int.tmod_neg, hm]; omega
  · rw [if_neg h, hm]; omega
theorem ref11t (a b sa sb r : Int) (ha : U64 a) (hb : U64 b) (hsa : szV a = sa) (hsb : szV b = sb) (hr : IntKind.u64.wrap (sa - IntKind.u64.wrap (sa / sb * sb)) = r) (h1 : 1 ≤ sb) (hva : decide (9223372036854775808 ≤ a) = true) :
    IntKind.u64.wrap (18446744073709551615 - r + 1) = doV 11 a b := by
  obtain ⟨e1, e2, e3⟩ := rem_val a b sa sb r ha hsa h1 hr
  have hb0 : ¬ b = 0 := by rintro rfl; rw [show szV 0 = 0 from by simp [szV]] at hsb; omega
  have e : doV 11 a b = (wrap64 a).tmod (wrap64 b) % 18446744073709551616 := by simp [doV, hb0, IntKind.wrap_u64]
  have bd := sz_bd a ha
  rw [hsa] at bd
  have hm : sa.tmod sb = r := by rw [Int.tmod_eq_emod_of_nonneg bd.1, e1]
  rw [e, sz_w a ha, sz_w b hb, hsa, hsb, if_pos (of_decide_eq_true hva), IntKind.wrap_u64]
  by_cases h : 9223372036854775808 ≤ b
  · rw [if_pos h, Int.tmod_neg, Int.neg_tmod, hm]; omega
  · rw [if_neg h, Int.neg_tmod, hm]; omega
theorem ref14 (a b : Int) (ha : U64 a) (hb : U64 b) : IntKind.u64.wrap (bits .or .u64 a b - bits .and .u64 a b) = doV 14 a b := by
  obtain ⟨A, rfl⟩ := u64_vec ha
  obtain ⟨B, rfl⟩ := u64_vec hb
  have e1 := congrArg BitVec.toNat (vec_and_xor A B)
  rw [u64_or_nat _ _ A.isLt B.isLt, u64_and_nat _ _ A.isLt B.isLt, do14_vec, IntKind.wrap_u64, ← BitVec.toNat_or, ← BitVec.toNat_and]
  rw [BitVec.toNat_add] at e1
  have := (A &&& B).isLt
  have := (A ||| B).isLt
  have := (A ^^^ B).isLt
  omega
theorem ref15b (a b : Int) (h : 63 < b) : (0 : Int) = doV 15 a b := by
  obtain ⟨n, rfl⟩ := Int.eq_ofNat_of_zero_le (show 0 ≤ b by omega)
  rw [d15, mul_big _ _ (by omega)]
theorem ref15 (a : Int) (k : Nat) (h : k ≤ 63) : IntKind.u64.wrap (a * 2 ^ k) = doV 15 a k := by
  rw [d15, Nat.min_eq_left (by omega), IntKind.wrap_u64]
theorem ref16b (a b : Int) (ha : U64 a) (h : 63 < b) : (0 : Int) = doV 16 a b := by
  obtain ⟨n, rfl⟩ := Int.eq_ofNat_of_zero_le (show 0 ≤ b by omega)
  rw [d16, div_big _ _ (by omega) ha]
theorem ref16 (a : Int) (k : Nat) (h : k ≤ 63) : a / 2 ^ k = doV 16 a k := by
  rw [d16, Nat.min_eq_left (by omega)]
end Go.Proofs.Ytehfkddigjmkkaa
