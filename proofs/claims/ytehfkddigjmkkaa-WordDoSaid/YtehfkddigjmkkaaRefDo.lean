/- What the document's Do returns, an operation each: doV and doE, as the program's. Conditions: both numbers are words of 64 bits. -/
import Derived.Test.YtehfkddigjmkkaaRefDo1
import Derived.Test.YtehfkddigjmkkaaPlainRef
set_option linter.unusedVariables false
set_option linter.unusedSimpArgs false
namespace Go.Proofs.Ytehfkddigjmkkaa
open Go.RowKit

theorem ret2i {a b c d : Int} (h : a = b) (h' : c = d) : Ending.returned (.tuple #[.int .u64 a, .int .i64 c]) = .returned (.tuple #[.int .u64 b, .int .i64 d]) := by rw [h, h']

set_option maxRecDepth 100000 in
set_option maxHeartbeats 600000 in
theorem rf7 (a b : Int) (w : World) (ha : U64 a) (hb : U64 b) :
    Calls Try.prog 12 #[.int .u8 7, .int .u64 a, .int .u64 b] w fun e w' => e = .returned (.tuple #[.int .u64 (doV 7 a b), .int .i64 0]) ∧ w = w' := by
  have haa := ha
  have hbb := hb
  unfold U64 at ha hb
  obtain ⟨ha1, ha2⟩ := ha
  obtain ⟨hb1, hb2⟩ := hb
  go_enter Try.func12, Try.ntmps12
  go_wp2_with fail
  go_ret2
  exact ⟨ret2i (by simp [doV]) rfl, rfl⟩
set_option maxRecDepth 100000 in
set_option maxHeartbeats 600000 in
theorem rf8 (a b : Int) (w : World) (ha : U64 a) (hb : U64 b) :
    Calls Try.prog 12 #[.int .u8 8, .int .u64 a, .int .u64 b] w fun e w' => e = .returned (.tuple #[.int .u64 (doV 8 a b), .int .i64 0]) ∧ w = w' := by
  have haa := ha
  have hbb := hb
  unfold U64 at ha hb
  obtain ⟨ha1, ha2⟩ := ha
  obtain ⟨hb1, hb2⟩ := hb
  have HC : Hid (bits .xor .u64 IntKind.u64.max b = 18446744073709551615 - b) := by
    show bits .xor .u64 IntKind.u64.max b = 18446744073709551615 - b
    exact compl_any b hbb
  go_enter Try.func12, Try.ntmps12
  go_wp2_with fail
  go_ret2
  exact ⟨ret2i (by rw [HC.out]; exact ref8 a b) rfl, rfl⟩
set_option maxRecDepth 100000 in
set_option maxHeartbeats 600000 in
theorem rf9 (a b : Int) (w : World) (ha : U64 a) (hb : U64 b) :
    Calls Try.prog 12 #[.int .u8 9, .int .u64 a, .int .u64 b] w fun e w' => e = .returned (.tuple #[.int .u64 (doV 9 a b), .int .i64 0]) ∧ w = w' := by
  have haa := ha
  have hbb := hb
  unfold U64 at ha hb
  obtain ⟨ha1, ha2⟩ := ha
  obtain ⟨hb1, hb2⟩ := hb
  go_enter Try.func12, Try.ntmps12
  go_wp2_with fail
  go_ret2
  exact ⟨ret2i (by simp [doV]) rfl, rfl⟩
set_option maxRecDepth 100000 in
set_option maxHeartbeats 400000 in
theorem rf10z (a : Int) (w : World) :
    Calls Try.prog 12 #[.int .u8 10, .int .u64 a, .int .u64 0] w fun e w' => e = .returned (.tuple #[.int .u64 0, .int .i64 10]) ∧ w = w' := by
  go_enter Try.func12, Try.ntmps12
  go_wp2_with fail
  go_ret2
  exact ⟨rfl, rfl⟩
set_option maxRecDepth 100000 in
set_option maxHeartbeats 400000 in
theorem rf11z (a : Int) (w : World) :
    Calls Try.prog 12 #[.int .u8 11, .int .u64 a, .int .u64 0] w fun e w' => e = .returned (.tuple #[.int .u64 0, .int .i64 10]) ∧ w = w' := by
  go_enter Try.func12, Try.ntmps12
  go_wp2_with fail
  go_ret2
  exact ⟨rfl, rfl⟩
set_option maxRecDepth 100000 in
set_option maxHeartbeats 600000 in
theorem rf10tt (a b : Int) (w : World) (ha : U64 a) (hb : U64 b) (hz0 : ¬ b = 0) (sa sb : Int) (hsa : Hid (szV a = sa)) (hsb : Hid (szV b = sb)) (hsa0 : 0 ≤ sa) (hsb1 : 1 ≤ sb) (HT : Hid (IntKind.u64.wrap (sa.tdiv sb) = sa / sb)) (HA : Hid (decide (9223372036854775808 ≤ a) = true)) (HB : Hid (decide (9223372036854775808 ≤ b) = true)) :
    Calls Try.prog 12 #[.int .u8 10, .int .u64 a, .int .u64 b] w fun e w' => e = .returned (.tuple #[.int .u64 (doV 10 a b), .int .i64 0]) ∧ w = w' := by
  have haa := ha
  have hbb := hb
  unfold U64 at ha hb
  obtain ⟨ha1, ha2⟩ := ha
  obtain ⟨hb1, hb2⟩ := hb
  have hz1 : (b == 0) = false := by simpa using hz0
  have hz3 : (sb == 0) = false := by rw [beq_eq_false_iff_ne]; omega
  clear ha1 ha2 hb1 hb2 hz0
  go_enter Try.func12, Try.ntmps12
  go_wp2_with fail
  refine (size_as a sa _ haa hsa.out).mono ?_
  rintro e w' ⟨rfl, rfl⟩
  go_wp2_with fail
  refine (size_as b sb _ hbb hsb.out).mono ?_
  rintro e w' ⟨rfl, rfl⟩
  go_wp2_with fail
  refine (size_as a sa _ haa hsa.out).mono ?_
  rintro e w' ⟨rfl, rfl⟩
  go_wp2_with fail
  refine (size_as b sb _ hbb hsb.out).mono ?_
  rintro e w' ⟨rfl, rfl⟩
  go_wp2_with fail
  refine (minus_any a _ true HA.out).mono ?_
  rintro e w' ⟨rfl, rfl⟩
  go_wp2_with fail
  refine (minus_any b _ true HB.out).mono ?_
  rintro e w' ⟨rfl, rfl⟩
  go_wp2_with fail
  go_ret2
  exact ⟨ret2i (by rw [HT.out]; exact ref10s a b sa sb haa hbb hsa.out hsb.out (by omega) (HA.out.trans HB.out.symm)) rfl, rfl⟩
set_option maxRecDepth 100000 in
set_option maxHeartbeats 600000 in
theorem rf10tf (a b : Int) (w : World) (ha : U64 a) (hb : U64 b) (hz0 : ¬ b = 0) (sa sb : Int) (hsa : Hid (szV a = sa)) (hsb : Hid (szV b = sb)) (hsa0 : 0 ≤ sa) (hsb1 : 1 ≤ sb) (HT : Hid (IntKind.u64.wrap (sa.tdiv sb) = sa / sb)) (HA : Hid (decide (9223372036854775808 ≤ a) = true)) (HB : Hid (decide (9223372036854775808 ≤ b) = false)) (HQ : Hid (bits .xor .u64 IntKind.u64.max (sa / sb) = 18446744073709551615 - sa / sb)) :
    Calls Try.prog 12 #[.int .u8 10, .int .u64 a, .int .u64 b] w fun e w' => e = .returned (.tuple #[.int .u64 (doV 10 a b), .int .i64 0]) ∧ w = w' := by
  have haa := ha
  have hbb := hb
  unfold U64 at ha hb
  obtain ⟨ha1, ha2⟩ := ha
  obtain ⟨hb1, hb2⟩ := hb
  have hz1 : (b == 0) = false := by simpa using hz0
  have hz3 : (sb == 0) = false := by rw [beq_eq_false_iff_ne]; omega
  clear ha1 ha2 hb1 hb2 hz0
  go_enter Try.func12, Try.ntmps12
  go_wp2_with fail
  refine (size_as a sa _ haa hsa.out).mono ?_
  rintro e w' ⟨rfl, rfl⟩
  go_wp2_with fail
  refine (size_as b sb _ hbb hsb.out).mono ?_
  rintro e w' ⟨rfl, rfl⟩
  go_wp2_with fail
  refine (size_as a sa _ haa hsa.out).mono ?_
  rintro e w' ⟨rfl, rfl⟩
  go_wp2_with fail
  refine (size_as b sb _ hbb hsb.out).mono ?_
  rintro e w' ⟨rfl, rfl⟩
  go_wp2_with fail
  refine (minus_any a _ true HA.out).mono ?_
  rintro e w' ⟨rfl, rfl⟩
  go_wp2_with fail
  refine (minus_any b _ false HB.out).mono ?_
  rintro e w' ⟨rfl, rfl⟩
  go_wp2_with fail
  go_ret2
  exact ⟨ret2i (by rw [HT.out, HQ.out]; exact ref10d a b sa sb haa hbb hsa.out hsb.out (by omega) HA.out HB.out) rfl, rfl⟩
set_option maxRecDepth 100000 in
set_option maxHeartbeats 600000 in
theorem rf10ft (a b : Int) (w : World) (ha : U64 a) (hb : U64 b) (hz0 : ¬ b = 0) (sa sb : Int) (hsa : Hid (szV a = sa)) (hsb : Hid (szV b = sb)) (hsa0 : 0 ≤ sa) (hsb1 : 1 ≤ sb) (HT : Hid (IntKind.u64.wrap (sa.tdiv sb) = sa / sb)) (HA : Hid (decide (9223372036854775808 ≤ a) = false)) (HB : Hid (decide (9223372036854775808 ≤ b) = true)) (HQ : Hid (bits .xor .u64 IntKind.u64.max (sa / sb) = 18446744073709551615 - sa / sb)) :
    Calls Try.prog 12 #[.int .u8 10, .int .u64 a, .int .u64 b] w fun e w' => e = .returned (.tuple #[.int .u64 (doV 10 a b), .int .i64 0]) ∧ w = w' := by
  have haa := ha
  have hbb := hb
  unfold U64 at ha hb
  obtain ⟨ha1, ha2⟩ := ha
  obtain ⟨hb1, hb2⟩ := hb
  have hz1 : (b == 0) = false := by simpa using hz0
  have hz3 : (sb == 0) = false := by rw [beq_eq_false_iff_ne]; omega
  clear ha1 ha2 hb1 hb2 hz0
  go_enter Try.func12, Try.ntmps12
  go_wp2_with fail
  refine (size_as a sa _ haa hsa.out).mono ?_
  rintro e w' ⟨rfl, rfl⟩
  go_wp2_with fail
  refine (size_as b sb _ hbb hsb.out).mono ?_
  rintro e w' ⟨rfl, rfl⟩
  go_wp2_with fail
  refine (size_as a sa _ haa hsa.out).mono ?_
  rintro e w' ⟨rfl, rfl⟩
  go_wp2_with fail
  refine (size_as b sb _ hbb hsb.out).mono ?_
  rintro e w' ⟨rfl, rfl⟩
  go_wp2_with fail
  refine (minus_any a _ false HA.out).mono ?_
  rintro e w' ⟨rfl, rfl⟩
  go_wp2_with fail
  refine (minus_any b _ true HB.out).mono ?_
  rintro e w' ⟨rfl, rfl⟩
  go_wp2_with fail
  go_ret2
  exact ⟨ret2i (by rw [HT.out, HQ.out]; exact ref10d a b sa sb haa hbb hsa.out hsb.out (by omega) HA.out HB.out) rfl, rfl⟩
set_option maxRecDepth 100000 in
set_option maxHeartbeats 600000 in
theorem rf10ff (a b : Int) (w : World) (ha : U64 a) (hb : U64 b) (hz0 : ¬ b = 0) (sa sb : Int) (hsa : Hid (szV a = sa)) (hsb : Hid (szV b = sb)) (hsa0 : 0 ≤ sa) (hsb1 : 1 ≤ sb) (HT : Hid (IntKind.u64.wrap (sa.tdiv sb) = sa / sb)) (HA : Hid (decide (9223372036854775808 ≤ a) = false)) (HB : Hid (decide (9223372036854775808 ≤ b) = false)) :
    Calls Try.prog 12 #[.int .u8 10, .int .u64 a, .int .u64 b] w fun e w' => e = .returned (.tuple #[.int .u64 (doV 10 a b), .int .i64 0]) ∧ w = w' := by
  have haa := ha
  have hbb := hb
  unfold U64 at ha hb
  obtain ⟨ha1, ha2⟩ := ha
  obtain ⟨hb1, hb2⟩ := hb
  have hz1 : (b == 0) = false := by simpa using hz0
  have hz3 : (sb == 0) = false := by rw [beq_eq_false_iff_ne]; omega
  clear ha1 ha2 hb1 hb2 hz0
  go_enter Try.func12, Try.ntmps12
  go_wp2_with fail
  refine (size_as a sa _ haa hsa.out).mono ?_
  rintro e w' ⟨rfl, rfl⟩
  go_wp2_with fail
  refine (size_as b sb _ hbb hsb.out).mono ?_
  rintro e w' ⟨rfl, rfl⟩
  go_wp2_with fail
  refine (size_as a sa _ haa hsa.out).mono ?_
  rintro e w' ⟨rfl, rfl⟩
  go_wp2_with fail
  refine (size_as b sb _ hbb hsb.out).mono ?_
  rintro e w' ⟨rfl, rfl⟩
  go_wp2_with fail
  refine (minus_any a _ false HA.out).mono ?_
  rintro e w' ⟨rfl, rfl⟩
  go_wp2_with fail
  refine (minus_any b _ false HB.out).mono ?_
  rintro e w' ⟨rfl, rfl⟩
  go_wp2_with fail
  go_ret2
  exact ⟨ret2i (by rw [HT.out]; exact ref10s a b sa sb haa hbb hsa.out hsb.out (by omega) (HA.out.trans HB.out.symm)) rfl, rfl⟩
set_option maxRecDepth 100000 in
set_option maxHeartbeats 600000 in
theorem rf11t (a b : Int) (w : World) (ha : U64 a) (hb : U64 b) (hz0 : ¬ b = 0) (sa sb : Int) (hsa : Hid (szV a = sa)) (hsb : Hid (szV b = sb)) (hsa0 : 0 ≤ sa) (hsb1 : 1 ≤ sb) (HT : Hid (IntKind.u64.wrap (sa.tdiv sb) = sa / sb)) (r : Int) (HR : Hid (IntKind.u64.wrap (sa - IntKind.u64.wrap (sa / sb * sb)) = r)) (HA : Hid (decide (9223372036854775808 ≤ a) = true)) (HQ : Hid (bits .xor .u64 IntKind.u64.max r = 18446744073709551615 - r)) :
    Calls Try.prog 12 #[.int .u8 11, .int .u64 a, .int .u64 b] w fun e w' => e = .returned (.tuple #[.int .u64 (doV 11 a b), .int .i64 0]) ∧ w = w' := by
  have haa := ha
  have hbb := hb
  unfold U64 at ha hb
  obtain ⟨ha1, ha2⟩ := ha
  obtain ⟨hb1, hb2⟩ := hb
  have hz1 : (b == 0) = false := by simpa using hz0
  have hz3 : (sb == 0) = false := by rw [beq_eq_false_iff_ne]; omega
  clear ha1 ha2 hb1 hb2 hz0
  go_enter Try.func12, Try.ntmps12
  go_wp2_with fail
  refine (size_as a sa _ haa hsa.out).mono ?_
  rintro e w' ⟨rfl, rfl⟩
  go_wp2_with fail
  refine (size_as b sb _ hbb hsb.out).mono ?_
  rintro e w' ⟨rfl, rfl⟩
  go_wp2_with fail
  refine (size_as a sa _ haa hsa.out).mono ?_
  rintro e w' ⟨rfl, rfl⟩
  go_wp2_with fail
  refine (size_as b sb _ hbb hsb.out).mono ?_
  rintro e w' ⟨rfl, rfl⟩
  go_wp2_with fail
  refine (minus_any a _ true HA.out).mono ?_
  rintro e w' ⟨rfl, rfl⟩
  go_wp2_with fail
  go_ret2
  exact ⟨ret2i (by rw [HT.out, HR.out, HQ.out]; exact ref11t a b sa sb r haa hbb hsa.out hsb.out HR.out (by omega) HA.out) rfl, rfl⟩
set_option maxRecDepth 100000 in
set_option maxHeartbeats 600000 in
theorem rf11f (a b : Int) (w : World) (ha : U64 a) (hb : U64 b) (hz0 : ¬ b = 0) (sa sb : Int) (hsa : Hid (szV a = sa)) (hsb : Hid (szV b = sb)) (hsa0 : 0 ≤ sa) (hsb1 : 1 ≤ sb) (HT : Hid (IntKind.u64.wrap (sa.tdiv sb) = sa / sb)) (r : Int) (HR : Hid (IntKind.u64.wrap (sa - IntKind.u64.wrap (sa / sb * sb)) = r)) (HA : Hid (decide (9223372036854775808 ≤ a) = false)) :
    Calls Try.prog 12 #[.int .u8 11, .int .u64 a, .int .u64 b] w fun e w' => e = .returned (.tuple #[.int .u64 (doV 11 a b), .int .i64 0]) ∧ w = w' := by
  have haa := ha
  have hbb := hb
  unfold U64 at ha hb
  obtain ⟨ha1, ha2⟩ := ha
  obtain ⟨hb1, hb2⟩ := hb
  have hz1 : (b == 0) = false := by simpa using hz0
  have hz3 : (sb == 0) = false := by rw [beq_eq_false_iff_ne]; omega
  clear ha1 ha2 hb1 hb2 hz0
  go_enter Try.func12, Try.ntmps12
  go_wp2_with fail
  refine (size_as a sa _ haa hsa.out).mono ?_
  rintro e w' ⟨rfl, rfl⟩
  go_wp2_with fail
  refine (size_as b sb _ hbb hsb.out).mono ?_
  rintro e w' ⟨rfl, rfl⟩
  go_wp2_with fail
  refine (size_as a sa _ haa hsa.out).mono ?_
  rintro e w' ⟨rfl, rfl⟩
  go_wp2_with fail
  refine (size_as b sb _ hbb hsb.out).mono ?_
  rintro e w' ⟨rfl, rfl⟩
  go_wp2_with fail
  refine (minus_any a _ false HA.out).mono ?_
  rintro e w' ⟨rfl, rfl⟩
  go_wp2_with fail
  go_ret2
  exact ⟨ret2i (by rw [HT.out, HR.out]; exact ref11f a b sa sb r haa hbb hsa.out hsb.out HR.out (by omega) HA.out) rfl, rfl⟩
set_option maxRecDepth 100000 in
set_option maxHeartbeats 600000 in
theorem rf12 (a b : Int) (w : World) (ha : U64 a) (hb : U64 b) :
    Calls Try.prog 12 #[.int .u8 12, .int .u64 a, .int .u64 b] w fun e w' => e = .returned (.tuple #[.int .u64 (doV 12 a b), .int .i64 0]) ∧ w = w' := by
  have haa := ha
  have hbb := hb
  unfold U64 at ha hb
  obtain ⟨ha1, ha2⟩ := ha
  obtain ⟨hb1, hb2⟩ := hb
  go_enter Try.func12, Try.ntmps12
  go_wp2_with fail
  go_ret2
  exact ⟨ret2i (by rw [u64_and a b ha1 ha2 hb1 hb2]; simp [doV]) rfl, rfl⟩
set_option maxRecDepth 100000 in
set_option maxHeartbeats 600000 in
theorem rf13 (a b : Int) (w : World) (ha : U64 a) (hb : U64 b) :
    Calls Try.prog 12 #[.int .u8 13, .int .u64 a, .int .u64 b] w fun e w' => e = .returned (.tuple #[.int .u64 (doV 13 a b), .int .i64 0]) ∧ w = w' := by
  have haa := ha
  have hbb := hb
  unfold U64 at ha hb
  obtain ⟨ha1, ha2⟩ := ha
  obtain ⟨hb1, hb2⟩ := hb
  go_enter Try.func12, Try.ntmps12
  go_wp2_with fail
  go_ret2
  exact ⟨ret2i (by rw [u64_or a b ha1 ha2 hb1 hb2]; simp [doV]) rfl, rfl⟩
set_option maxRecDepth 100000 in
set_option maxHeartbeats 600000 in
theorem rf14 (a b : Int) (w : World) (ha : U64 a) (hb : U64 b) :
    Calls Try.prog 12 #[.int .u8 14, .int .u64 a, .int .u64 b] w fun e w' => e = .returned (.tuple #[.int .u64 (doV 14 a b), .int .i64 0]) ∧ w = w' := by
  have haa := ha
  have hbb := hb
  unfold U64 at ha hb
  obtain ⟨ha1, ha2⟩ := ha
  obtain ⟨hb1, hb2⟩ := hb
  go_enter Try.func12, Try.ntmps12
  go_wp2_with fail
  go_ret2
  exact ⟨ret2i (ref14 a b haa hbb) rfl, rfl⟩
set_option maxRecDepth 100000 in
set_option maxHeartbeats 600000 in
theorem rf15b (a b : Int) (w : World) (ha : U64 a) (hb : U64 b) (hz0 : 63 < b) :
    Calls Try.prog 12 #[.int .u8 15, .int .u64 a, .int .u64 b] w fun e w' => e = .returned (.tuple #[.int .u64 (doV 15 a b), .int .i64 0]) ∧ w = w' := by
  have haa := ha
  have hbb := hb
  unfold U64 at ha hb
  obtain ⟨ha1, ha2⟩ := ha
  obtain ⟨hb1, hb2⟩ := hb
  go_enter Try.func12, Try.ntmps12
  go_wp2_with fail
  go_ret2
  exact ⟨ret2i (ref15b a b hz0) rfl, rfl⟩
set_option maxRecDepth 100000 in
set_option maxHeartbeats 600000 in
theorem rf15 (a b : Int) (w : World) (ha : U64 a) (hb : U64 b) (k : Nat) (hz0 : b = k) (hz1 : k ≤ 63) :
    Calls Try.prog 12 #[.int .u8 15, .int .u64 a, .int .u64 b] w fun e w' => e = .returned (.tuple #[.int .u64 (doV 15 a b), .int .i64 0]) ∧ w = w' := by
  have haa := ha
  have hbb := hb
  unfold U64 at ha hb
  obtain ⟨ha1, ha2⟩ := ha
  obtain ⟨hb1, hb2⟩ := hb
  subst hz0
  clear hb1 hb2
  go_enter Try.func12, Try.ntmps12
  go_wp2_with fail
  refine (pow_as k _ k _ rfl hz1 rfl).mono ?_
  rintro e w' ⟨rfl, rfl⟩
  go_wp2_with fail
  go_ret2
  exact ⟨ret2i (ref15 a k hz1) rfl, rfl⟩
set_option maxRecDepth 100000 in
set_option maxHeartbeats 600000 in
theorem rf16b (a b : Int) (w : World) (ha : U64 a) (hb : U64 b) (hz0 : 63 < b) :
    Calls Try.prog 12 #[.int .u8 16, .int .u64 a, .int .u64 b] w fun e w' => e = .returned (.tuple #[.int .u64 (doV 16 a b), .int .i64 0]) ∧ w = w' := by
  have haa := ha
  have hbb := hb
  unfold U64 at ha hb
  obtain ⟨ha1, ha2⟩ := ha
  obtain ⟨hb1, hb2⟩ := hb
  go_enter Try.func12, Try.ntmps12
  go_wp2_with fail
  go_ret2
  exact ⟨ret2i (ref16b a b haa hz0) rfl, rfl⟩
set_option maxRecDepth 100000 in
set_option maxHeartbeats 600000 in
theorem rf16 (a b : Int) (w : World) (ha : U64 a) (hb : U64 b) (k : Nat) (hz0 : b = k) (hz1 : k ≤ 63) (p : Int) (hp : Hid (2 ^ k = p)) (hp1 : 1 ≤ p) :
    Calls Try.prog 12 #[.int .u8 16, .int .u64 a, .int .u64 b] w fun e w' => e = .returned (.tuple #[.int .u64 (doV 16 a b), .int .i64 0]) ∧ w = w' := by
  have haa := ha
  have hbb := hb
  unfold U64 at ha hb
  obtain ⟨ha1, ha2⟩ := ha
  obtain ⟨hb1, hb2⟩ := hb
  subst hz0
  clear hb1 hb2
  have hp2 : (p == 0) = false := by rw [beq_eq_false_iff_ne]; omega
  go_enter Try.func12, Try.ntmps12
  go_wp2_with fail
  refine (pow_as k p k _ rfl hz1 hp.out).mono ?_
  rintro e w' ⟨rfl, rfl⟩
  go_wp2_with fail
  go_ret2
  exact ⟨ret2i (by rw [← hp.out]; exact ref16 a k hz1) rfl, rfl⟩
set_option maxRecDepth 100000 in
set_option maxHeartbeats 600000 in
theorem rf18t (a b : Int) (w : World) (ha : U64 a) (hb : U64 b) (hz0 : a = b) :
    Calls Try.prog 12 #[.int .u8 18, .int .u64 a, .int .u64 b] w fun e w' => e = .returned (.tuple #[.int .u64 (doV 18 a b), .int .i64 0]) ∧ w = w' := by
  have haa := ha
  have hbb := hb
  unfold U64 at ha hb
  obtain ⟨ha1, ha2⟩ := ha
  obtain ⟨hb1, hb2⟩ := hb
  subst hz0
  have hz1 : (a == a) = true := by simp
  go_enter Try.func12, Try.ntmps12
  go_wp2_with fail
  refine (bit_any true _).mono ?_
  rintro e w' ⟨rfl, rfl⟩
  go_wp2_with fail
  go_ret2
  exact ⟨ret2i (by simp [doV]) rfl, rfl⟩
set_option maxRecDepth 100000 in
set_option maxHeartbeats 600000 in
theorem rf18f (a b : Int) (w : World) (ha : U64 a) (hb : U64 b) (hz0 : ¬ a = b) :
    Calls Try.prog 12 #[.int .u8 18, .int .u64 a, .int .u64 b] w fun e w' => e = .returned (.tuple #[.int .u64 (doV 18 a b), .int .i64 0]) ∧ w = w' := by
  have haa := ha
  have hbb := hb
  unfold U64 at ha hb
  obtain ⟨ha1, ha2⟩ := ha
  obtain ⟨hb1, hb2⟩ := hb
  have hz1 : (a == b) = false := by simpa using hz0
  go_enter Try.func12, Try.ntmps12
  go_wp2_with fail
  refine (bit_any false _).mono ?_
  rintro e w' ⟨rfl, rfl⟩
  go_wp2_with fail
  go_ret2
  exact ⟨ret2i (by simp [doV, hz0]) rfl, rfl⟩
set_option maxRecDepth 100000 in
set_option maxHeartbeats 600000 in
theorem rf19t (a b : Int) (w : World) (ha : U64 a) (hb : U64 b) (c d : Int) (h1 : Hid (IntKind.u64.wrap (a + 9223372036854775808) = c)) (h2 : Hid (IntKind.u64.wrap (b + 9223372036854775808) = d)) (h3 : decide (IntKind.u64.wrap (a + 9223372036854775808) < IntKind.u64.wrap (b + 9223372036854775808)) = true) (hx : Hid (doV 19 a b = 1)) :
    Calls Try.prog 12 #[.int .u8 19, .int .u64 a, .int .u64 b] w fun e w' => e = .returned (.tuple #[.int .u64 (doV 19 a b), .int .i64 0]) ∧ w = w' := by
  have haa := ha
  have hbb := hb
  unfold U64 at ha hb
  obtain ⟨ha1, ha2⟩ := ha
  obtain ⟨hb1, hb2⟩ := hb
  clear ha1 ha2 hb1 hb2
  go_enter Try.func12, Try.ntmps12
  go_wp2_with fail
  refine (bit_any true _).mono ?_
  rintro e w' ⟨rfl, rfl⟩
  go_wp2_with fail
  go_ret2
  exact ⟨ret2i (hx.out.symm) rfl, rfl⟩
set_option maxRecDepth 100000 in
set_option maxHeartbeats 600000 in
theorem rf20t (a b : Int) (w : World) (ha : U64 a) (hb : U64 b) (h3 : decide (a < b) = true) (hx : Hid (doV 20 a b = 1)) :
    Calls Try.prog 12 #[.int .u8 20, .int .u64 a, .int .u64 b] w fun e w' => e = .returned (.tuple #[.int .u64 (doV 20 a b), .int .i64 0]) ∧ w = w' := by
  have haa := ha
  have hbb := hb
  unfold U64 at ha hb
  obtain ⟨ha1, ha2⟩ := ha
  obtain ⟨hb1, hb2⟩ := hb
  clear ha1 ha2 hb1 hb2
  go_enter Try.func12, Try.ntmps12
  go_wp2_with fail
  refine (bit_any true _).mono ?_
  rintro e w' ⟨rfl, rfl⟩
  go_wp2_with fail
  go_ret2
  exact ⟨ret2i (hx.out.symm) rfl, rfl⟩
set_option maxRecDepth 100000 in
set_option maxHeartbeats 600000 in
theorem rf19f (a b : Int) (w : World) (ha : U64 a) (hb : U64 b) (c d : Int) (h1 : Hid (IntKind.u64.wrap (a + 9223372036854775808) = c)) (h2 : Hid (IntKind.u64.wrap (b + 9223372036854775808) = d)) (h3 : decide (IntKind.u64.wrap (a + 9223372036854775808) < IntKind.u64.wrap (b + 9223372036854775808)) = false) (hx : Hid (doV 19 a b = 0)) :
    Calls Try.prog 12 #[.int .u8 19, .int .u64 a, .int .u64 b] w fun e w' => e = .returned (.tuple #[.int .u64 (doV 19 a b), .int .i64 0]) ∧ w = w' := by
  have haa := ha
  have hbb := hb
  unfold U64 at ha hb
  obtain ⟨ha1, ha2⟩ := ha
  obtain ⟨hb1, hb2⟩ := hb
  clear ha1 ha2 hb1 hb2
  go_enter Try.func12, Try.ntmps12
  go_wp2_with fail
  refine (bit_any false _).mono ?_
  rintro e w' ⟨rfl, rfl⟩
  go_wp2_with fail
  go_ret2
  exact ⟨ret2i (hx.out.symm) rfl, rfl⟩
set_option maxRecDepth 100000 in
set_option maxHeartbeats 600000 in
theorem rf20f (a b : Int) (w : World) (ha : U64 a) (hb : U64 b) (h3 : decide (a < b) = false) (hx : Hid (doV 20 a b = 0)) :
    Calls Try.prog 12 #[.int .u8 20, .int .u64 a, .int .u64 b] w fun e w' => e = .returned (.tuple #[.int .u64 (doV 20 a b), .int .i64 0]) ∧ w = w' := by
  have haa := ha
  have hbb := hb
  unfold U64 at ha hb
  obtain ⟨ha1, ha2⟩ := ha
  obtain ⟨hb1, hb2⟩ := hb
  clear ha1 ha2 hb1 hb2
  go_enter Try.func12, Try.ntmps12
  go_wp2_with fail
  refine (bit_any false _).mono ?_
  rintro e w' ⟨rfl, rfl⟩
  go_wp2_with fail
  go_ret2
  exact ⟨ret2i (hx.out.symm) rfl, rfl⟩
set_option maxRecDepth 100000 in
set_option maxHeartbeats 400000 in
theorem rfNo (op a b : Int) (w : World) (h7 : (op == 7) = false) (h8 : (op == 8) = false) (h9 : (op == 9) = false) (h10 : (op == 10) = false) (h11 : (op == 11) = false) (h12 : (op == 12) = false) (h13 : (op == 13) = false) (h14 : (op == 14) = false) (h15 : (op == 15) = false) (h16 : (op == 16) = false) (h17 : (op == 17) = false) (h18 : (op == 18) = false) (h19 : (op == 19) = false) (h20 : (op == 20) = false) :
    Calls Try.prog 12 #[.int .u8 op, .int .u64 a, .int .u64 b] w fun e w' => e = .returned (.tuple #[.int .u64 0, .int .i64 2]) ∧ w = w' := by
  go_enter Try.func12, Try.ntmps12
  go_wp2_with fail
  go_ret2
  exact ⟨rfl, rfl⟩
end Go.Proofs.Ytehfkddigjmkkaa
