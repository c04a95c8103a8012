/- Walk of ChipNil: a nil machine does and tells nothing. No condition. -/
import Derived.Test.YtnnlhhokljjghaaFirstM
set_option linter.unusedVariables false
set_option linter.unusedSimpArgs false
namespace Go.Proofs.Ytnnlhhokljjghaa
open Go.RowKit

set_option maxRecDepth 100000 in
set_option maxHeartbeats 4000000 in
theorem walk_ChipNil (w : World) (a0 : Int) (w0 : (Lit.int .i64 a0).wf = true) (a1 : Int) (w1 : (Lit.int .u64 a1).wf = true) (A2 : Option Addr) (n2 c2 : Nat) (z2 : List Int) (r2 : Reads w w.heap.size 1 A2 n2 (z2.map (Value.int .u8))) (l2 : z2.length = n2) (nc2 : n2 ≤ c2) (cm2 : c2 ≤ maxLen) (rc2 : c2 * 1 ≤ 140737488351232) (w2 : ∀ z ∈ z2, (Lit.int .u8 z).wf = true) :
    Calls Try.prog 8 #[.int .i64 a0, .int .u64 a1, .slice A2 n2 c2] w fun e w' => e = .returned (.bool true) ∧ Below w.heap.size w w' := by
  clear w0 w1 w2 r2 l2 nc2 cm2 rc2
  go_enter Try.func8, Try.ntmps8
  go_wp2_with fail
  refine (first_any w).mono ?_
  rintro e u1 ⟨rfl, hb⟩
  have Hb := Lib.hid hb
  clear hb
  go_wp2_with fail
  refine (set_nil _ a1 a0).mono ?_
  rintro e w' ⟨rfl, rfl⟩
  go_wp2_with fail
  refine (jump_nil _ a0).mono ?_
  rintro e w' ⟨rfl, rfl⟩
  go_wp2_with fail
  refine (stack_nil _).mono ?_
  rintro e w' ⟨rfl, rfl⟩
  go_wp2_with fail
  refine (load_nil _ a1).mono ?_
  rintro e u2 ⟨rfl, q2, rfl⟩
  go_wp2_with fail
  refine (reg_nil _ a0).mono ?_
  rintro e w' ⟨rfl, rfl⟩
  go_wp2_with fail
  refine (pc_nil _).mono ?_
  rintro e w' ⟨rfl, rfl⟩
  go_wp2_with fail
  refine (store_nil _ a1 a1).mono ?_
  rintro e u3 ⟨rfl, q3, rfl⟩
  go_wp2_with fail
  refine (enter_nil _).mono ?_
  rintro e u4 ⟨rfl, q4, rfl⟩
  go_wp2_with fail
  refine (push_nil _ a1).mono ?_
  rintro e w' ⟨rfl, rfl⟩
  go_wp2_with fail
  refine (restack_nil _ a1 _).mono ?_
  rintro e w' ⟨rfl, rfl⟩
  go_wp2_with fail
  refine (step_nil _).mono ?_
  rintro e u5 ⟨rfl, hb5⟩
  go_wp2_with fail
  go_ret
  have hb4 := below_drewN Hb.out (q2 + q3 + q4)
  exact ⟨rfl, hb4.trans (hb5.mono hb4.size)⟩
end Go.Proofs.Ytnnlhhokljjghaa
