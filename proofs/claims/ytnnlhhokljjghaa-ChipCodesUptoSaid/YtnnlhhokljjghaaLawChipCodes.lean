/- The law ChipCodes answers true for every input of bulk at most 1048576, and its arguments read as they did: the given statement ChipCodesUptoSaid. No condition. -/
import Derived.Test.YtnnlhhokljjghaaRows
import Derived.Test.YtnnlhhokljjghaaCodesL
import Derived.Test.YtnnlhhokljjghaaOpenM
import Derived.JoinedCond
import Derived.Deep.CondSized
set_option linter.unusedVariables false
set_option linter.unusedSimpArgs false
set_option linter.unusedVariables false
set_option linter.unusedSimpArgs false
namespace Go.Proofs.Ytnnlhhokljjghaa.lawChipCodes
open Go.ChangeShapes Go.WideShapes Go.ChangeAt Go.RowKit

set_option maxRecDepth 100000 in
theorem lifted (os : Os) (started : os.Started) (H : Type) (enc : TypeId × Value → H) (F : Stop.Interp) :
    ReturnsInHanded {} Try.checked os 3 .any ((Rows.OpenSpec.upto Rows.chipCodesSpec).pre6 enc Try.prog Try.f3 Rows.chipCodesUptoRow.domain false) (((Rows.OpenSpec.upto Rows.chipCodesSpec).at F).post enc Try.prog Try.f3 false true false false) := by
  refine returnsInHanded_of_cond_sized (C := Try.checked) (s := Rows.OpenSpec.upto Rows.chipCodesSpec) (k := Rows.uptoSmall) rfl own started (by kernel_rfl) Try.func3
    (OpenSpec.witness (enc := enc) (C := Try.checked) (s := Rows.OpenSpec.upto Rows.chipCodesSpec) (k := Rows.uptoSmall) rfl false ⟨#[], #[.slice none 0 0, .slice none 0 0], []⟩ 8 (by kernel_rfl) (by kernel_rfl) (by kernel_rfl)
      (x := ([.nil, .nil], [], [])) (by kernel_rfl) rfl (by kernel_rfl)) ?_
  intro W base args ds gs before hval0 hW _ hk hsz0 _
  have hval : ∀ (j : Nat) t v, Try.f3.params[j]? = some t → args[j]? = some v → Value.okWide Try.prog W .any base t v := hval0
  have hW' : DataW.Whole enc Try.prog Try.f3.params.toList Rows.chipCodesSpec.vars false W args.toList ds gs before := hW
  obtain ⟨p, q, hA0, hV, rfl, hfz, hnd⟩ := hW
  have hA : DataW.TrodAll enc Try.prog W 0 (fun _ => true) true Try.f3.params.toList args.toList ds p := hA0
  have hsz : (DataW.weightsEach Try.prog (Try.f3.params.toList ++ Rows.chipCodesSpec.plain.varTypes Try.prog) (ds ++ gs)).all (· ≤ reachBytes) = true := hsz0
  rw [Try.params3] at hA hval hsz
  obtain ⟨v0, vs0, d0, ds0, p0, q0, hargs, rfl, rfl, h0, r_0⟩ := trodAll_cons hA
  obtain ⟨v1, vs1, d1, ds1, p1, q1, rfl, rfl, rfl, h1, r_1⟩ := trodAll_cons r_0
  obtain ⟨rfl, rfl, rfl⟩ := trodAll_nil r_1
  obtain rfl : args = #[v0, v1] := by cases args; simp_all
  obtain ⟨rfl, rfl⟩ := trodVars_none hV
  have hb := bulk_max hk
  have hb0 : Rows.uptoBulk d0 ≤ 1048576 := Nat.le_trans (bulk_part (by simp)) hb
  have hb1 : Rows.uptoBulk d1 ≤ 1048576 := Nat.le_trans (bulk_part (by simp)) hb
  have k0 := h0
  have lt0 := lt_of_trod k0
  have k1 := h1
  have lt1 := lt_of_trod k1
  obtain ⟨A0, n0, c0, z0, rfl, r0, l0, nc0, cm0, rc0, w0, u0⟩ := open_mins (hval 0 22 v0 rfl rfl) h0 (small_of_each hsz (j := 0) rfl rfl)
  obtain ⟨A1, n1, c1, z1, rfl, r1, l1, nc1, cm1, rc1, w1⟩ := open_reads (by_ := 1) Try.underlying23 Try.underlying5 (by kernel_rfl) (by kernel_rfl) (hval 1 23 v1 rfl rfl) h1 hsz (j := 1) rfl rfl
  have u1 : n1 ≤ Rows.uptoBulk d1 := by
    obtain ⟨fuel, hf⟩ := h1
    exact bulk_slice Try.underlying23 (c := c1) hf
  have w1' : ∀ z ∈ z1, 0 ≤ z ∧ z < 256 := fun z hz => by have h := bounds_u8 (w1 z hz); omega
  have u0' : n0 ≤ 1048576 := Nat.le_trans u0 hb0
  have u1' : n1 ≤ 1048576 := Nat.le_trans u1 hb1
  refine (walk_ChipCodes W A0 n0 c0 z0 r0 l0 nc0 cm0 u0' w0 A1 n1 c1 z1 r1 l1 nc1 cm1 u1' w1').mono fun e W' ⟨he, bel⟩ => ?_
  subst he
  show ∃ v, Ending.returned (.bool true) = .returned v ∧ Rows.chipCodesSpec.post enc Try.prog Try.f3 false true false false W _ v W'
  exact ⟨_, rfl, _, _, _, [], _, [], hW', trodAll_mk1 (shut_bool Try.underlying4 _), (trodAll_cons_mk (Below.trod laidOut (by kernel_rfl) (of_decide_eq_true (by kernel_rfl)) k0 bel lt0) (trodAll_cons_mk (Below.trod laidOut (by kernel_rfl) (of_decide_eq_true (by kernel_rfl)) k1 bel lt1) trodAll_mk0)), rfl, bel.frame _, fun h => by cases h⟩

/-- THE GIVEN STATEMENT -/
theorem proved : Rows.ChipCodesUptoSaid :=
  OpenClaim.holds_of_cond 3 Try.f3 rfl rfl rfl rfl rfl rfl rfl ⟨rfl, rfl, rfl, rfl, rfl⟩ rfl rfl rfl rfl rfl (by kernel_rfl) Try.func3 (by kernel_rfl)
    (of_decide_eq_true (by kernel_rfl)) (by unfold Func.isWrapper; first | (rw [if_pos (by decide +kernel)]; kernel_rfl) | (rw [if_neg (by decide +kernel)]; exact ⟨rfl, rfl⟩))
    (fun os started H enc _ F => lifted os started H enc F)
end Go.Proofs.Ytnnlhhokljjghaa.lawChipCodes
