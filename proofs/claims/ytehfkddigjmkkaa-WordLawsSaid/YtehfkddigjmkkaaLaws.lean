/- The walk of the law WordLaws: a sum and a difference undo each other, a quotient and its rest give the number again, the orders are orders. No condition beyond that both are words. -/
import Derived.Test.YtehfkddigjmkkaaFirst
import Derived.Test.YtehfkddigjmkkaaOpen
namespace Go.Proofs.Ytehfkddigjmkkaa
open Go.RowKit

theorem do_as (op a b v er : Int) (w : World) (ha : U64 a) (hb : U64 b) (hv : doV op a b = v) (he : doE op b = er) :
    Calls Try.prog 11 #[.int .u8 op, .int .u64 a, .int .u64 b] w fun e w' => e = .returned (.tuple #[.int .u64 v, .int .i64 er]) ∧ w = w' := by
  subst hv he; exact do_any op a b w ha hb

theorem wrap64_mod (x : Int) : wrap64 x % 18446744073709551616 = x % 18446744073709551616 := by unfold wrap64; omega
theorem U64.ite {c : Prop} [Decidable c] {x y : Int} (hx : U64 x) (hy : U64 y) : U64 (if c then x else y) := by
  by_cases h : c
  · rwa [if_pos h]
  · rwa [if_neg h]
theorem doV_u64 (op a b : Int) (ha : U64 a) (hb : U64 b) : U64 (doV op a b) := by
  have hw : ∀ n, U64 (IntKind.u64.wrap n) := fun n => by rw [IntKind.wrap_u64]; unfold U64; omega
  have hbit : ∀ n : Nat, n < 2 ^ 64 → U64 (n : Int) := fun n h => by unfold U64; omega
  have h0 : U64 0 := by unfold U64; omega
  have h1' : U64 1 := by unfold U64; omega
  unfold U64 at ha hb
  have h1 : a.toNat < 2 ^ 64 := by omega
  have h2 : b.toNat < 2 ^ 64 := by omega
  have hs : U64 (a / 2 ^ min b.toNat 64) := by
    have hp : (0 : Int) < 2 ^ min b.toNat 64 := Int.pow_pos (by omega)
    unfold U64
    exact ⟨Int.ediv_nonneg ha.1 (by omega), Int.lt_of_le_of_lt (Int.ediv_le_self _ ha.1) ha.2⟩
  unfold doV
  repeat' (first | exact hw _ | exact h0 | exact h1' | exact hs | exact hbit _ (Nat.and_lt_two_pow _ h2) | exact hbit _ (Nat.or_lt_two_pow h1 h2) | exact hbit _ (Nat.xor_lt_two_pow h1 h2) | apply U64.ite)
theorem add_sub (a b : Int) (ha : U64 a) : doV 8 (doV 7 a b) b = a := by
  simp only [doV, IntKind.wrap_u64]; simp
  unfold U64 at ha; omega
theorem quo_rem (a b : Int) (ha : U64 a) (hb : ¬ b = 0) : doV 7 (doV 9 (doV 10 a b) b) (doV 11 a b) = a := by
  have e1 : doV 10 a b = (wrap64 ((wrap64 a).tdiv (wrap64 b))) % 18446744073709551616 := by simp [doV, hb, IntKind.wrap_u64]
  have e2 : doV 11 a b = (wrap64 a).tmod (wrap64 b) % 18446744073709551616 := by simp [doV, hb, IntKind.wrap_u64]
  have e3 : ∀ x y, doV 9 x y = x * y % 18446744073709551616 := fun x y => by simp [doV, IntKind.wrap_u64]
  have e4 : ∀ x y, doV 7 x y = (x + y) % 18446744073709551616 := fun x y => by simp [doV, IntKind.wrap_u64]
  rw [e4, e3, e1, e2, wrap64_mod, Int.mul_emod, Int.emod_emod_of_dvd _ (Int.dvd_refl _), ← wrap64_mod b, ← Int.mul_emod, ← Int.add_emod,
    Int.mul_comm, Int.mul_tdiv_add_tmod, wrap64_mod]
  unfold U64 at ha; omega
set_option maxHeartbeats 1000000 in
theorem walk_core (a b lt gt eq be ab er : Int) (w : World) (ha : U64 a) (hb : U64 b)
    (h1 : doV 19 a b = lt) (h2 : doV 19 b a = gt) (h3 : doV 18 a b = eq) (h4 : doV 20 a b = be) (h5 : doV 20 b a = ab)
    (h6 : lt = 0 ∧ gt = 0 ∧ eq = 1 ∧ be = 0 ∧ ab = 0 ∨ lt = 1 ∧ gt = 0 ∧ eq = 0 ∧ be = 1 ∧ ab = 0 ∨ lt = 1 ∧ gt = 0 ∧ eq = 0 ∧ be = 0 ∧ ab = 1 ∨ lt = 0 ∧ gt = 1 ∧ eq = 0 ∧ be = 1 ∧ ab = 0 ∨ lt = 0 ∧ gt = 1 ∧ eq = 0 ∧ be = 0 ∧ ab = 1)
    (h7 : b = 0 ∧ er = 10 ∨ ¬ b = 0 ∧ er = 0) :
    Calls Try.prog 4 #[.int .u64 a, .int .u64 b] w fun e w' => e = .returned (.bool true) ∧ Below w.heap.size w w' := by
  have H1 := Lib.hid h1
  have H2 := Lib.hid h2
  have H3 := Lib.hid h3
  have H4 := Lib.hid h4
  have H5 := Lib.hid h5
  have H8 : Hid (doV 8 (doV 7 a b) b = a) := add_sub a b ha
  clear h1 h2 h3 h4 h5
  rcases h7 with ⟨hb0, h7⟩ | ⟨hb0, h7⟩
  · subst hb0 h7
    have e1 : doV 10 a 0 = 0 := by simp [doV]
    have e2 : doV 11 a 0 = 0 := by simp [doV]
    have e3 : doE 10 0 = 10 := by simp [doE]
    have e4 : doE 11 0 = 10 := by simp [doE]
    have E1 := Lib.hid e1
    have E2 := Lib.hid e2
    have E3 := Lib.hid e3
    have E4 := Lib.hid e4
    clear e1 e2 e3 e4
    rcases h6 with h6 | h6 | h6 | h6 | h6
    all_goals
      obtain ⟨rfl, rfl, rfl, rfl, rfl⟩ := h6
      go_enter Try.func4, Try.ntmps4
      go_wp2_with fail
      refine (first_true _).mono ?_
      rintro e w1 ⟨rfl, hbw⟩
      go_wp2_with fail
      refine (do_as 7 a 0 _ 0 _ ha hb rfl (by simp [doE])).mono ?_
      rintro e w' ⟨rfl, rfl⟩
      go_wp2_with fail
      refine (do_as 8 _ 0 a 0 _ (doV_u64 _ _ _ ha hb) hb H8.out (by simp [doE])).mono ?_
      rintro e w' ⟨rfl, rfl⟩
      go_wp2_with fail
      refine (do_as 10 a 0 0 10 _ ha hb E1.out E3.out).mono ?_
      rintro e w' ⟨rfl, rfl⟩
      go_wp2_with fail
      refine (do_as 11 a 0 0 10 _ ha hb E2.out E4.out).mono ?_
      rintro e w' ⟨rfl, rfl⟩
      go_wp2_with fail
      refine (do_as 9 0 0 _ 0 _ hb hb rfl (by simp [doE])).mono ?_
      rintro e w' ⟨rfl, rfl⟩
      go_wp2_with fail
      refine (do_as 7 _ 0 _ 0 _ (doV_u64 _ _ _ hb hb) hb rfl (by simp [doE])).mono ?_
      rintro e w' ⟨rfl, rfl⟩
      go_wp2_with fail
      refine (do_as 19 a 0 _ 0 _ ha hb H1.out (by simp [doE])).mono ?_
      rintro e w' ⟨rfl, rfl⟩
      go_wp2_with fail
      refine (do_as 19 0 a _ 0 _ hb ha H2.out (by simp [doE])).mono ?_
      rintro e w' ⟨rfl, rfl⟩
      go_wp2_with fail
      refine (do_as 18 a 0 _ 0 _ ha hb H3.out (by simp [doE])).mono ?_
      rintro e w' ⟨rfl, rfl⟩
      go_wp2_with fail
      refine (do_as 20 a 0 _ 0 _ ha hb H4.out (by simp [doE])).mono ?_
      rintro e w' ⟨rfl, rfl⟩
      go_wp2_with fail
      refine (do_as 20 0 a _ 0 _ hb ha H5.out (by simp [doE])).mono ?_
      rintro e w' ⟨rfl, rfl⟩
      go_wp2_with fail
      go_ret
      exact ⟨rfl, hbw⟩
  · have e1 := quo_rem a b ha hb0
    have e3 : doE 10 b = 0 := by simp [doE, hb0]
    have e4 : doE 11 b = 0 := by simp [doE, hb0]
    have E1 := Lib.hid e1
    have E3 := Lib.hid e3
    have E4 := Lib.hid e4
    have hb1 : (b == 0) = false := by simpa using hb0
    subst h7
    clear e1 e3 e4
    rcases h6 with h6 | h6 | h6 | h6 | h6
    all_goals
      obtain ⟨rfl, rfl, rfl, rfl, rfl⟩ := h6
      go_enter Try.func4, Try.ntmps4
      go_wp2_with fail
      refine (first_true _).mono ?_
      rintro e w1 ⟨rfl, hbw⟩
      go_wp2_with fail
      refine (do_as 7 a b _ 0 _ ha hb rfl (by simp [doE])).mono ?_
      rintro e w' ⟨rfl, rfl⟩
      go_wp2_with fail
      refine (do_as 8 _ b a 0 _ (doV_u64 _ _ _ ha hb) hb H8.out (by simp [doE])).mono ?_
      rintro e w' ⟨rfl, rfl⟩
      go_wp2_with fail
      refine (do_as 10 a b _ 0 _ ha hb rfl E3.out).mono ?_
      rintro e w' ⟨rfl, rfl⟩
      go_wp2_with fail
      refine (do_as 11 a b _ 0 _ ha hb rfl E4.out).mono ?_
      rintro e w' ⟨rfl, rfl⟩
      go_wp2_with fail
      refine (do_as 9 _ b _ 0 _ (doV_u64 _ _ _ ha hb) hb rfl (by simp [doE])).mono ?_
      rintro e w' ⟨rfl, rfl⟩
      go_wp2_with fail
      refine (do_as 7 _ _ a 0 _ (doV_u64 _ _ _ (doV_u64 _ _ _ ha hb) hb) (doV_u64 _ _ _ ha hb) E1.out (by simp [doE])).mono ?_
      rintro e w' ⟨rfl, rfl⟩
      go_wp2_with fail
      refine (do_as 19 a b _ 0 _ ha hb H1.out (by simp [doE])).mono ?_
      rintro e w' ⟨rfl, rfl⟩
      go_wp2_with fail
      refine (do_as 19 b a _ 0 _ hb ha H2.out (by simp [doE])).mono ?_
      rintro e w' ⟨rfl, rfl⟩
      go_wp2_with fail
      refine (do_as 18 a b _ 0 _ ha hb H3.out (by simp [doE])).mono ?_
      rintro e w' ⟨rfl, rfl⟩
      go_wp2_with fail
      refine (do_as 20 a b _ 0 _ ha hb H4.out (by simp [doE])).mono ?_
      rintro e w' ⟨rfl, rfl⟩
      go_wp2_with fail
      refine (do_as 20 b a _ 0 _ hb ha H5.out (by simp [doE])).mono ?_
      rintro e w' ⟨rfl, rfl⟩
      go_wp2_with fail
      go_ret
      exact ⟨rfl, hbw⟩

theorem walk_WordLaws (w : World) (a0 : Int) (w0 : (Lit.int .u64 a0).wf = true) (a1 : Int) (w1 : (Lit.int .u64 a1).wf = true) :
    Calls Try.prog 4 #[.int .u64 a0, .int .u64 a1] w fun e w' => e = .returned (.bool true) ∧ Below w.heap.size w w' := by
  have ha := u64_of_wf w0
  have hb := u64_of_wf w1
  refine walk_core a0 a1 _ _ _ _ _ (if a1 = 0 then 10 else 0) w ha hb rfl rfl rfl rfl rfl ?_ ?_
  · unfold U64 at ha hb
    have e : wrap64 a0 = wrap64 a1 ↔ a0 = a1 := by unfold wrap64; omega
    simp [doV]
    by_cases h1 : a0 = a1
    · subst h1; simp
    · have h2 : ¬ wrap64 a0 = wrap64 a1 := fun h => h1 (e.1 h)
      rcases Int.lt_or_gt_of_ne h1 with h3 | h3 <;> rcases Int.lt_or_gt_of_ne h2 with h4 | h4 <;> simp [h1, Int.ne_of_gt, h3, h4, Int.not_lt.2 (Int.le_of_lt h3), Int.not_lt.2 (Int.le_of_lt h4)] <;> exact ⟨Int.le_of_lt h4, Int.le_of_lt h3⟩
  · by_cases h : a1 = 0 <;> simp [h]
end Go.Proofs.Ytehfkddigjmkkaa
