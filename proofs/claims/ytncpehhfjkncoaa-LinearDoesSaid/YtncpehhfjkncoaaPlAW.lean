/- A call of word.Do whose answer is known by name; what it makes is a word again; words as vectors of bits. No condition. -/
import Derived.Test.YtncpehhfjkncoaaPlAC
import Derived.Test.YtncpehhfjkncoaaRows
import Derived.WalkKit
import Derived.WalkSpells
import Derived.WalkLawsBesides
import Derived.Lib.Hide
set_option linter.unusedVariables false
set_option linter.unusedSimpArgs false
set_option maxRecDepth 100000
set_option maxHeartbeats 16000000
namespace Go.Proofs.Ytncpehhfjkncoaa
open Go.RowKit

theorem wrap64_mod (x : Int) : wrap64 x % 18446744073709551616 = x % 18446744073709551616 := by unfold wrap64; omega
theorem U64.ite {c : Prop} [Decidable c] {x y : Int} (hx : U64 x) (hy : U64 y) : U64 (if c then x else y) := by
 by_cases h : c
 ·rwa [if_pos h]
 ·rwa [if_neg h]
theorem doV_u64 (op a b : Int) (ha : U64 a) (hb : U64 b) : U64 (doV op a b) := by
 have hw : ∀ n, U64 (IntKind.u64.wrap n) := fun n => by rw [IntKind.wrap_u64]; unfold U64; omega
 have hbit : ∀ n : Nat, n < 2 ^ 64 -> U64 (n : Int) := fun n h => by unfold U64; omega
 have h0 : U64 0 := by unfold U64; omega
 have h1' : U64 1 := by unfold U64; omega
 unfold U64 at ha hb
 have h1 : a.toNat < 2 ^ 64 := by omega
 have h2 : b.toNat < 2 ^ 64 := by omega
 have hs : U64 (a / 2 ^ min b.toNat 64) := by
  have hp : (0 : Int) < 2 ^ min b.toNat 64 := Int.pow_pos (by omega);unfold U64;exact ⟨Int.ediv_nonneg ha.1 (by omega), Int.lt_of_le_of_lt (Int.ediv_le_self _ ha.1) ha.2⟩
 unfold doV
 repeat' (first | exact hw _ | exact h0 | exact h1' | exact hs | exact hbit _ (Nat.and_lt_two_pow _ h2) | exact hbit _ (Nat.or_lt_two_pow h1 h2) | exact hbit _ (Nat.xor_lt_two_pow h1 h2) | apply U64.ite)
theorem u64_vec {a : Int} (h : U64 a) : ∃ A : BitVec 64, a = (A.toNat : Int) := by
 unfold U64 at h;exact ⟨BitVec.ofNat 64 a.toNat, by rw [BitVec.toNat_ofNat]; omega⟩
theorem do14_vec (A B : BitVec 64) : doV 14 A.toNat B.toNat = ((A ^^^ B).toNat : Int) := by simp [doV]
theorem vec_and_xor0 (A B : BitVec 64) : (A &&& B) &&& (A ^^^ B) = 0#64 := by
 ext i hi; cases ha : A[i] <;> cases hb : B[i] <;> simp [ha, hb]
theorem vec_and_xor (A B : BitVec 64) : (A &&& B) + (A ^^^ B) = A ||| B := by
 rw [BitVec.add_eq_or_of_and_eq_zero _ _ (vec_and_xor0 A B)]
 ext i hi; cases ha : A[i] <;> cases hb : B[i] <;> simp [ha, hb]
theorem pow_split (p q : Nat) (h : q <= p) : (2 : Int) ^ p = 2 ^ (p - q) * 2 ^ q := by
 rw [<- Int.pow_add, Nat.sub_add_cancel h]
theorem two64 : (2 : Int) ^ 64 = 18446744073709551616 := by decide
theorem pow_pos' (p : Nat) : (0 : Int) < 2 ^ p := Int.pow_pos (by omega)
theorem pow_le' {p q : Nat} (h : p <= q) : (2 : Int) ^ p <= 2 ^ q := by
 rw [pow_split q p h];have h1 := pow_pos' (q - p);have h2 := pow_pos' p;have : (1 : Int) * 2 ^ p <= 2 ^ (q - p) * 2 ^ p := Int.mul_le_mul_of_nonneg_right (by omega) (by omega)
 omega
theorem d15 (a : Int) (X : Nat) : doV 15 a X = a * 2 ^ min X 64 % 18446744073709551616 := by simp [doV, IntKind.wrap_u64]
theorem d16 (a : Int) (X : Nat) : doV 16 a X = a / 2 ^ min X 64 := by simp [doV]
theorem d17 (a : Int) (X : Nat) : doV 17 a X = wrap64 a / 2 ^ min X 63 % 18446744073709551616 := by simp [doV, IntKind.wrap_u64]
theorem mul_big (a : Int) (p : Nat) (h : 64 <= p) : a * 2 ^ p % 18446744073709551616 = 0 := by
 rw [pow_split p 64 h, two64, <- Int.mul_assoc]; exact Int.mul_emod_left _ _
theorem div_big (a : Int) (p : Nat) (h : 64 <= p) (ha : U64 a) : a / 2 ^ p = 0 := by
 unfold U64 at ha;exact Int.ediv_eq_zero_of_lt ha.1 (Int.lt_of_lt_of_le ha.2 (by rw [<- two64]; exact pow_le' h))
theorem pow_bd (k : Nat) (h : k <= 63) : (0 : Int) < 2 ^ k /\ (2 : Int) ^ k <= 9223372036854775808 := by
 have h1 : (0 : Int) < 2 ^ k := Int.pow_pos (by omega);refine ⟨h1, ?_⟩;have : (2 : Nat) ^ k <= 2 ^ 63 := Nat.pow_le_pow_right (by omega) h;have h2 : ((2 ^ k : Nat) : Int) <= ((2 ^ 63 : Nat) : Int) := Int.ofNat_le.2 this
 simpa using h2
theorem compl_any (a : Int) (h : U64 a) : bits .xor .u64 IntKind.u64.max a = 18446744073709551615 - a := by
 obtain ⟨A, rfl⟩ := u64_vec h;have e := u64_xor_nat 18446744073709551615 A.toNat (by omega) A.isLt;rw [show ((18446744073709551615 : Nat) : Int) = IntKind.u64.max from by decide] at e;rw [e, show (18446744073709551615 : Nat) = (18446744073709551615#64).toNat from rfl, <- BitVec.toNat_xor, show (18446744073709551615#64 : BitVec 64) = BitVec.allOnes 64 from rfl, BitVec.allOnes_xor, BitVec.toNat_not];have := A.isLt
 omega
def szV (a : Int) : Int := if 9223372036854775808 <= a then 18446744073709551616 - a else a
theorem pow_any (n : Int) (w : World) (h0 : 0 <= n) (h1 : n <= 63) : Calls Try.prog 45 #[.int .u64 n] w fun e w' => e = .returned (.int .u64 (2 ^ n.toNat)) /\ w = w' := by
 obtain ⟨m, rfl⟩ := Int.eq_ofNat_of_zero_le h0;rw [Int.toNat_natCast];go_enter Try.func45, Try.ntmps45;go_wp2_with fail
 go_loop [0, 3] (fun i p => ∃ k : Nat, k <= m /\ i = .int .u64 ((m - k : Nat) : Int) /\ p = .int .u64 (2 ^ k)) (fun i _ => (intOf i).toNat)
 case atStart => exact ⟨0, by omega, rfl, rfl⟩
 case round =>
  obtain ⟨k, hk, rfl, rfl⟩ := hrel
  by_cases hlt : k < m
  ·go_wp2_with fail;have hp := pow_bd (k + 1) (by omega);rw [Int.pow_succ] at hp;refine ⟨⟨k + 1, by omega, ?_, ?_⟩, by simp [intOf]; omega⟩
   ·rw [show ((m - k : Nat) : Int) - 1 = ((m - (k + 1) : Nat) : Int) by omega]
   ·rw [IntKind.wrap_u64, Int.emod_eq_of_lt (by omega) (by omega), Int.pow_succ]
  ·obtain rfl : k = m := by omega
   go_wp2_with fail;go_ret;exact ⟨rfl, rfl⟩
theorem pow_as (n v : Int) (k : Nat) (w : World) (hk : n = k) (h1 : k <= 63) (hv : 2 ^ k = v) : Calls Try.prog 45 #[.int .u64 n] w fun e w' => e = .returned (.int .u64 v) /\ w = w' := by
 subst hk hv;exact pow_any k w (by omega) (by omega)
theorem minus_any (a : Int) (w : World) (b : Bool) (hb : decide (9223372036854775808 <= a) = b) : Calls Try.prog 44 #[.int .u64 a] w fun e w' => e = .returned (.bool b) /\ w = w' := by
 subst hb;go_enter Try.func44, Try.ntmps44;go_wp2;go_ret;exact ⟨rfl, rfl⟩
theorem ret_int64 {a b : Int} (h : a = b) : Ending.returned (.int .u64 a) = .returned (.int .u64 b) := by rw [h]
theorem size_any (a : Int) (w : World) (ha : U64 a) : Calls Try.prog 43 #[.int .u64 a] w fun e w' => e = .returned (.int .u64 (szV a)) /\ w = w' := by
 have hc := compl_any a ha;have HC := Lib.hid hc;clear hc
 by_cases h : 9223372036854775808 <= a
 ·have HZ : Hid (szV a = 18446744073709551616 - a) := if_pos h;go_enter Try.func43, Try.ntmps43;go_wp2_with fail;refine (minus_any a _ true (by simpa using h)).mono ?_;rintro e w' ⟨rfl, rfl⟩;go_wp2_with fail;go_ret;refine ⟨ret_int64 ?_, rfl⟩;rw [HC.out, HZ.out, IntKind.wrap_u64];unfold U64 at ha; omega
 ·have HZ : Hid (szV a = a) := if_neg h;go_enter Try.func43, Try.ntmps43;go_wp2_with fail;refine (minus_any a _ false (by simpa using h)).mono ?_;rintro e w' ⟨rfl, rfl⟩;go_wp2_with fail;go_ret;exact ⟨ret_int64 HZ.out.symm, rfl⟩
theorem size_as (a v : Int) (w : World) (ha : U64 a) (hv : szV a = v) : Calls Try.prog 43 #[.int .u64 a] w fun e w' => e = .returned (.int .u64 v) /\ w = w' := by
 subst hv; exact size_any a w ha
theorem bit_any (b : Bool) (w : World) : Calls Try.prog 46 #[.bool b] w fun e w' => e = .returned (.int .u64 (if b then 1 else 0)) /\ w = w' := by
 cases b
 all_goals
  go_enter Try.func46, Try.ntmps46;go_wp2;go_ret;exact ⟨rfl, rfl⟩
theorem ref8 (a b : Int) : IntKind.u64.wrap (IntKind.u64.wrap (a + (18446744073709551615 - b)) + 1) = doV 8 a b := by
 simp [doV, IntKind.wrap_u64]; omega
theorem sz_w (a : Int) (h : U64 a) : wrap64 a = if 9223372036854775808 <= a then -szV a else szV a := by
 unfold U64 at h; unfold szV wrap64; split <;> omega
theorem q_bd (sa sb : Int) (h0 : 0 <= sa) (h1 : 1 <= sb) : 0 <= sa / sb /\ sa / sb <= sa := ⟨Int.ediv_nonneg h0 (by omega), Int.ediv_le_self _ h0⟩
theorem sz_bd (a : Int) (h : U64 a) : 0 <= szV a /\ szV a <= 9223372036854775808 := by unfold U64 at h; unfold szV; split <;> omega
theorem sz_pos (a : Int) (h : U64 a) (h0 : ¬ a = 0) : 1 <= szV a := by unfold U64 at h; unfold szV; split <;> omega
theorem ref10s (a b sa sb : Int) (ha : U64 a) (hb : U64 b) (hsa : szV a = sa) (hsb : szV b = sb) (h1 : 1 <= sb) (hs : decide (9223372036854775808 <= a) = decide (9223372036854775808 <= b)) : sa / sb = doV 10 a b := by
 have hb0 : ¬ b = 0 := by rintro rfl; rw [show szV 0 = 0 from by simp [szV]] at hsb; omega
 have e : doV 10 a b = wrap64 ((wrap64 a).tdiv (wrap64 b)) % 18446744073709551616 := by simp [doV, hb0, IntKind.wrap_u64]
 have bd := sz_bd a ha;rw [hsa] at bd;have hq := q_bd sa sb bd.1 h1;rw [e, wrap64_mod, sz_w a ha, sz_w b hb, hsa, hsb];rw [decide_eq_decide] at hs
 by_cases h : 9223372036854775808 <= b
 ·rw [if_pos (hs.2 h), if_pos h, Int.neg_tdiv, Int.tdiv_neg, Int.neg_neg, Int.tdiv_eq_ediv_of_nonneg bd.1]; omega
 ·rw [if_neg (fun x => h (hs.1 x)), if_neg h, Int.tdiv_eq_ediv_of_nonneg bd.1]; omega
theorem ref10d (a b sa sb : Int) (ha : U64 a) (hb : U64 b) (hsa : szV a = sa) (hsb : szV b = sb) (h1 : 1 <= sb) {va vb : Bool} (hva : decide (9223372036854775808 <= a) = va) (hvb : decide (9223372036854775808 <= b) = vb) (hd : va = !vb := by rfl) :
  IntKind.u64.wrap (18446744073709551615 - sa / sb + 1) = doV 10 a b := by
 subst hva hvb
 have hb0 : ¬ b = 0 := by rintro rfl; rw [show szV 0 = 0 from by simp [szV]] at hsb; omega
 have e : doV 10 a b = wrap64 ((wrap64 a).tdiv (wrap64 b)) % 18446744073709551616 := by simp [doV, hb0, IntKind.wrap_u64]
 have bd := sz_bd a ha;rw [hsa] at bd;have hq := q_bd sa sb bd.1 h1;rw [e, wrap64_mod, sz_w a ha, sz_w b hb, hsa, hsb, IntKind.wrap_u64]
 by_cases h : 9223372036854775808 <= b
 ·have h' : ¬ 9223372036854775808 <= a := by simpa [h] using hd
  rw [if_neg h', if_pos h, Int.tdiv_neg, Int.tdiv_eq_ediv_of_nonneg bd.1]; omega
 ·have h' : 9223372036854775808 <= a := by simpa [h] using hd
  rw [if_pos h', if_neg h, Int.neg_tdiv, Int.tdiv_eq_ediv_of_nonneg bd.1]; omega
theorem rem_val (a b sa sb r : Int) (ha : U64 a) (hsa : szV a = sa) (h1 : 1 <= sb) (hr : IntKind.u64.wrap (sa - IntKind.u64.wrap (sa / sb * sb)) = r) : r = sa % sb /\ 0 <= r /\ r <= 9223372036854775808 := by
 have bd := sz_bd a ha;rw [hsa] at bd;have h2 := Int.emod_nonneg sa (show sb ≠ 0 by omega);have h3 : sa / sb * sb + sa % sb = sa := Int.ediv_mul_add_emod sa sb;have h4 : 0 <= sa / sb * sb := Int.mul_nonneg (Int.ediv_nonneg bd.1 (by omega)) (by omega);rw [IntKind.wrap_u64, IntKind.wrap_u64] at hr;generalize sa / sb * sb = t at *;generalize sa % sb = u at *
 omega
theorem ref11f (a b sa sb r : Int) (ha : U64 a) (hb : U64 b) (hsa : szV a = sa) (hsb : szV b = sb) (hr : IntKind.u64.wrap (sa - IntKind.u64.wrap (sa / sb * sb)) = r) (h1 : 1 <= sb) (hva : decide (9223372036854775808 <= a) = false) : r = doV 11 a b := by
 obtain ⟨e1, e2, e3⟩ := rem_val a b sa sb r ha hsa h1 hr
 have hb0 : ¬ b = 0 := by rintro rfl; rw [show szV 0 = 0 from by simp [szV]] at hsb; omega
 have e : doV 11 a b = (wrap64 a).tmod (wrap64 b) % 18446744073709551616 := by simp [doV, hb0, IntKind.wrap_u64]
 have bd := sz_bd a ha;rw [hsa] at bd
 have hm : sa.tmod sb = r := by rw [Int.tmod_eq_emod_of_nonneg bd.1, e1]
 rw [e, sz_w a ha, sz_w b hb, hsa, hsb, if_neg (of_decide_eq_false hva)]
 by_cases h : 9223372036854775808 <= b
 ·rw [if_pos h, Int.tmod_neg, hm]; omega
 ·rw [if_neg h, hm]; omega
theorem ref11t (a b sa sb r : Int) (ha : U64 a) (hb : U64 b) (hsa : szV a = sa) (hsb : szV b = sb) (hr : IntKind.u64.wrap (sa - IntKind.u64.wrap (sa / sb * sb)) = r) (h1 : 1 <= sb) (hva : decide (9223372036854775808 <= a) = true) :
  IntKind.u64.wrap (18446744073709551615 - r + 1) = doV 11 a b := by
 obtain ⟨e1, e2, e3⟩ := rem_val a b sa sb r ha hsa h1 hr
 have hb0 : ¬ b = 0 := by rintro rfl; rw [show szV 0 = 0 from by simp [szV]] at hsb; omega
 have e : doV 11 a b = (wrap64 a).tmod (wrap64 b) % 18446744073709551616 := by simp [doV, hb0, IntKind.wrap_u64]
 have bd := sz_bd a ha;rw [hsa] at bd
 have hm : sa.tmod sb = r := by rw [Int.tmod_eq_emod_of_nonneg bd.1, e1]
 rw [e, sz_w a ha, sz_w b hb, hsa, hsb, if_pos (of_decide_eq_true hva), IntKind.wrap_u64]
 by_cases h : 9223372036854775808 <= b
 ·rw [if_pos h, Int.tmod_neg, Int.neg_tmod, hm]; omega
 ·rw [if_neg h, Int.neg_tmod, hm]; omega
theorem ref14 (a b : Int) (ha : U64 a) (hb : U64 b) : IntKind.u64.wrap (bits .or .u64 a b - bits .and .u64 a b) = doV 14 a b := by
 obtain ⟨A, rfl⟩ := u64_vec ha;obtain ⟨B, rfl⟩ := u64_vec hb;have e1 := congrArg BitVec.toNat (vec_and_xor A B);rw [u64_or_nat _ _ A.isLt B.isLt, u64_and_nat _ _ A.isLt B.isLt, do14_vec, IntKind.wrap_u64, <- BitVec.toNat_or, <- BitVec.toNat_and];rw [BitVec.toNat_add] at e1;have := (A &&& B).isLt;have := (A ||| B).isLt;have := (A ^^^ B).isLt
 omega
theorem ref15b (a b : Int) (h : 63 < b) : (0 : Int) = doV 15 a b := by
 obtain ⟨n, rfl⟩ := Int.eq_ofNat_of_zero_le (show 0 <= b by omega);rw [d15, mul_big _ _ (by omega)]
theorem ref15 (a : Int) (k : Nat) (h : k <= 63) : IntKind.u64.wrap (a * 2 ^ k) = doV 15 a k := by
 rw [d15, Nat.min_eq_left (by omega), IntKind.wrap_u64]
theorem ref16b (a b : Int) (ha : U64 a) (h : 63 < b) : (0 : Int) = doV 16 a b := by
 obtain ⟨n, rfl⟩ := Int.eq_ofNat_of_zero_le (show 0 <= b by omega);rw [d16, div_big _ _ (by omega) ha]
theorem ref16 (a : Int) (k : Nat) (h : k <= 63) : a / 2 ^ k = doV 16 a k := by
 rw [d16, Nat.min_eq_left (by omega)]
end Go.Proofs.Ytncpehhfjkncoaa
