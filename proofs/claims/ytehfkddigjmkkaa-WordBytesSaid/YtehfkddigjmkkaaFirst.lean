/- The law's helper first returns true and makes memory alone. No condition. -/
import Derived.Test.YtehfkddigjmkkaaDo
import Derived.Test.YtehfkddigjmkkaaTake
import Derived.Test.YtehfkddigjmkkaaPut
set_option linter.unusedVariables false
set_option linter.unusedSimpArgs false
namespace Go.Proofs.Ytehfkddigjmkkaa
open Go.RowKit

theorem first_do1 (w : World) : Calls Try.prog 11 #[.int .u8 10, .int .u64 7, .int .u64 18446744073709551614] w fun e w' => e = .returned (.tuple #[.int .u64 18446744073709551613, .int .i64 0]) ∧ w = w' :=
  (do_any 10 7 18446744073709551614 w (by unfold U64; omega) (by unfold U64; omega)).mono fun e w' h => by
    rw [show doV 10 7 18446744073709551614 = 18446744073709551613 from by simp [doV, doE, wrap64, IntKind.wrap_u64], show doE 10 18446744073709551614 = 0 from by simp [doV, doE, wrap64, IntKind.wrap_u64]] at h; exact h
theorem first_do2 (w : World) : Calls Try.prog 11 #[.int .u8 10, .int .u64 1, .int .u64 0] w fun e w' => e = .returned (.tuple #[.int .u64 0, .int .i64 10]) ∧ w = w' :=
  (do_any 10 1 0 w (by unfold U64; omega) (by unfold U64; omega)).mono fun e w' h => by
    rw [show doV 10 1 0 = 0 from by simp [doV, doE, wrap64, IntKind.wrap_u64], show doE 10 0 = 10 from by simp [doV, doE, wrap64, IntKind.wrap_u64]] at h; exact h
set_option maxHeartbeats 400000 in
theorem first_true (w : World) : Calls Try.prog 10 #[] w fun e w' => e = .returned (.bool true) ∧ Below w.heap.size w w' := by
  go_enter Try.func10, Try.ntmps10
  go_wp2_with fail
  refine (first_do1 _).mono ?_
  rintro e w' ⟨rfl, rfl⟩
  go_wp2_with fail
  refine (first_do2 _).mono ?_
  rintro e w' ⟨rfl, rfl⟩
  go_wp2_with fail
  refine (put_any _ _ _ _ _ _ _ (Reads.new1 w (.int .u8 9) 5) ?_ (by omega) (by simp) (by unfold U64; omega)).mono ?_
  · intro u hu; simp only [List.mem_singleton] at hu; subst hu; rfl
  rintro e w1 ⟨sv, rfl, hown, hbl⟩
  obtain ⟨A, cap, rfl, h1, h2, hr⟩ := own_any hown
  clear hown
  go_wp2_with fail
  refine (take_in A 9 cap 1 ([9] ++ bytesLE 8 258) w1 _ hr ?_ (by omega) h1 h2).mono ?_
  · intro x hx
    rcases List.mem_append.1 hx with h | h
    · simp only [List.mem_singleton] at h; omega
    · exact bytesLE_bd _ _ _ h
  rw [show List.take 8 (List.drop 1 ([9] ++ bytesLE 8 258)) = bytesLE 8 258 from by rw [List.singleton_append, List.drop_one, List.tail_cons, List.take_of_length_le (by rw [bytesLE_length]; omega)], leV_bytes8 _ (by unfold U64; omega)]
  rintro e w' ⟨rfl, rfl⟩
  go_wp2_with fail
  go_ret
  exact ⟨rfl, ((Below.refl _ w).alloc (Nat.le_refl _) _).trans (hbl.mono (by simp))⟩
end Go.Proofs.Ytehfkddigjmkkaa
