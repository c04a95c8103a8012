/- The walk of the law WordBits: how and, or, exclusive or and sums hang together. No condition beyond that both are words. -/
import Derived.Test.YtehfkddigjmkkaaDoAs
set_option linter.unusedVariables false
set_option linter.unusedSimpArgs false
namespace Go.Proofs.Ytehfkddigjmkkaa
open Go.RowKit

theorem bits_core (a b n o x s : Int) (w : World) (ha : U64 a) (hb : U64 b) (hn : U64 n) (ho : U64 o) (hx : U64 x)
    (h1 : Hid (doV 12 a b = n)) (h2 : Hid (doV 13 a b = o)) (h3 : Hid (doV 14 a b = x)) (h4 : Hid (doV 7 a b = s)) (h5 : Hid (doV 7 n o = s)) (h6 : Hid (doV 14 x b = a)) (h7 : Hid (doV 8 o n = x))
    (h8 : (bits .and .u64 n x == 0) = true) :
    Calls Try.prog 8 #[.int .u64 a, .int .u64 b] w fun e w' => e = .returned (.bool true) ∧ Below w.heap.size w w' := by
  go_enter Try.func8, Try.ntmps8
  go_wp2_with fail
  refine (first_true _).mono ?_
  rintro e w1 ⟨rfl, hbw⟩
  go_wp2_with fail
  refine (do_as 12 a b n 0 _ ha hb h1.out (by simp [doE])).mono ?_
  rintro e w' ⟨rfl, rfl⟩
  go_wp2_with fail
  refine (do_as 13 a b o 0 _ ha hb h2.out (by simp [doE])).mono ?_
  rintro e w' ⟨rfl, rfl⟩
  go_wp2_with fail
  refine (do_as 14 a b x 0 _ ha hb h3.out (by simp [doE])).mono ?_
  rintro e w' ⟨rfl, rfl⟩
  go_wp2_with fail
  refine (do_as 7 a b s 0 _ ha hb h4.out (by simp [doE])).mono ?_
  rintro e w' ⟨rfl, rfl⟩
  go_wp2_with fail
  refine (do_as 7 n o s 0 _ hn ho h5.out (by simp [doE])).mono ?_
  rintro e w' ⟨rfl, rfl⟩
  go_wp2_with fail
  refine (do_as 14 x b a 0 _ hx hb h6.out (by simp [doE])).mono ?_
  rintro e w' ⟨rfl, rfl⟩
  go_wp2_with fail
  refine (do_as 8 o n x 0 _ ho hn h7.out (by simp [doE])).mono ?_
  rintro e w' ⟨rfl, rfl⟩
  go_wp2_with fail
  go_ret
  exact ⟨rfl, hbw⟩

theorem walk_WordBits (w : World) (a0 : Int) (w0 : (Lit.int .u64 a0).wf = true) (a1 : Int) (w1 : (Lit.int .u64 a1).wf = true) :
    Calls Try.prog 8 #[.int .u64 a0, .int .u64 a1] w fun e w' => e = .returned (.bool true) ∧ Below w.heap.size w w' := by
  obtain ⟨A, rfl⟩ := u64_vec (u64_of_wf w0)
  obtain ⟨B, rfl⟩ := u64_vec (u64_of_wf w1)
  refine bits_core A.toNat B.toNat (A &&& B).toNat (A ||| B).toNat (A ^^^ B).toNat (A + B).toNat w (vec_u64 _) (vec_u64 _) (vec_u64 _) (vec_u64 _) (vec_u64 _)
    (do12_vec _ _) (do13_vec _ _) (do14_vec _ _) (do7_vec _ _) ?_ ?_ ?_ ?_
  · show doV 7 _ _ = _
    rw [do7_vec, vec_and_or]
  · show doV 14 _ _ = _
    rw [do14_vec, BitVec.xor_assoc, BitVec.xor_self, BitVec.xor_zero]
  · show doV 8 _ _ = _
    rw [do8_vec, ← vec_and_xor, BitVec.add_comm, BitVec.add_sub_cancel]
  · have h1 := (A &&& B).isLt
    have h2 := (A ^^^ B).isLt
    rw [u64_and_nat _ _ h1 h2, ← BitVec.toNat_and, vec_and_xor0]; rfl
end Go.Proofs.Ytehfkddigjmkkaa
