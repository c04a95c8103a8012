/- Walk of what is answered ahead of everything else: a stack of four words is moved. No condition. -/
import Derived.Test.YtndmhnmclogpcaaMove2
set_option linter.unusedVariables false
set_option linter.unusedSimpArgs false
namespace Go.Proofs.Ytndmhnmclogpcaa
open Go.RowKit

section
variable {w w' : World} {lo p : Nat} {cv sv : Value} {regs : List Int} {pc base : Int} {ws : List Int}
theorem ChipAt.keepB (h : ChipAt w lo p cv sv regs pc base ws) (hk : Keeps (fun i => i = p) w w') : Below lo w w' := hk.toBelow (by have := h.low; have := h.lt; omega) fun i e => by rw [e]; exact h.low
theorem ChipAt.keepS (h : ChipAt w lo p cv sv regs pc base ws) (hk : Keeps (fun i => sv.ownBlock = some i) w w') : Below lo w w' := hk.toBelow (by have := h.low; have := h.lt; omega) fun i e => (h.row.lt i e).1
theorem ChipAt.loLt (h : ChipAt w lo p cv sv regs pc base ws) : lo ≤ w.heap.size := by have := h.low; have := h.lt; omega
end
set_option maxRecDepth 100000 in
set_option maxHeartbeats 1000000 in
theorem first_any (w : World) : Calls Try.prog 7 #[] w fun e w' => e = .returned (.bool true) ∧ Below w.heap.size w w' := by
  have hm0 : MayP 1024 32 := by unfold MayP; decide
  have hm1 : MayP 4096 64 := by unfold MayP; decide
  have Hm0 := Lib.hid hm0
  have Hm1 := Lib.hid hm1
  clear hm1 hm0
  go_enter Try.func7, Try.ntmps7
  go_wp2_with fail
  refine (new_in w 1024 32 Hm0.out).mono ?_
  rintro e w1 ⟨p, sv, rfl, h1, hb1⟩
  have h1' : ChipAt w1 w.heap.size p (.slice none 0 0) sv (regs0 1056) 0 1024 [0, 0, 0, 0] := h1
  have H1' := Lib.hid h1'
  have Hb1 := Lib.hid hb1
  clear hb1 h1'
  clear h1
  go_wp2_with fail
  refine (set_in H1'.out 14 1040 (by omega) (by unfold U64; omega) _ rfl).mono ?_
  rintro e w2 ⟨rfl, h2, hk2⟩
  have h2' : ChipAt w2 w.heap.size p (.slice none 0 0) sv (regs0 1040) 0 1024 [0, 0, 0, 0] := h2
  have hb2 := Hb1.out.trans (H1'.out.keepB hk2)
  have H2' := Lib.hid h2'
  have Hb2 := Lib.hid hb2
  clear hb2 h2'
  clear h2 hk2
  go_wp2_with fail
  refine (store_in H2'.out 2 1048 (by simp) (by unfold U64; omega) 1040 (by omega)).mono ?_
  rintro e w3 ⟨rfl, h3, hk3⟩
  have h3' : ChipAt w3 w.heap.size p (.slice none 0 0) sv (regs0 1040) 0 1024 [0, 0, 1048, 0] := h3
  have hb3 := Hb2.out.trans (H2'.out.keepS hk3)
  have h4 := h3'.below ((Below.refl w3.heap.size w3).alloc (Nat.le_refl _) (.cells #[.int .u64 1040] 29))
  have hb4 := hb3.alloc h3'.loLt (.cells #[.int .u64 1040] 29)
  have hr4 : Reads (w3.alloc (.cells #[.int .u64 1040] 29)) (w3.heap.size + 1) 1 (some ⟨w3.heap.size, 0, none⟩) 1 (([1040] : List Int).map (Value.int .u64)) := Reads.new1 _ _ _
  have H4 := Lib.hid h4
  have Hb4 := Lib.hid hb4
  have Hr4 := Lib.hid hr4
  clear hr4 hb4 h4
  clear h3 hk3 h3' hb3
  go_wp2_with fail
  refine (move_any H4.out 4096 64 (by unfold U64; omega) 2 2 rfl rfl (by omega) (by omega) 3104 (by rw [IntKind.wrap_u64]; decide) (w3.heap.size + 1) (by simp) _ 1 1 [1040] Hr4.out rfl (by omega) (by omega) (by intro a ha; simp at ha; rw [ha]; unfold U64; omega) none 0 0 [] Reads.none_ rfl (Nat.le_refl _) (by omega) nofun).mono ?_
  rintro e w5 hpost
  obtain ⟨rfl, sv5, h5, hk5⟩ : e = .returned (.int .i64 0) ∧ ∃ sv', ChipAt w5 w.heap.size p (.slice none 0 0) sv' (regsW 1024 1056 3104 [] (regs0 1040) 1040) 0 4096 (movedW 1024 1056 3104 [1040] [0, 0, 1048, 0] 2 6) ∧ Keeps (fun i => i = p) (w3.alloc (.cells #[.int .u64 1040] 29)) w5 := by
    rcases hpost with ⟨_, he, sv', hc, hk, _⟩ | ⟨hno, _⟩
    · exact ⟨he, sv', hc, hk⟩
    · refine absurd ⟨?_, ?_, Hm1.out⟩ hno
      · intro a ha
        simp only [List.mem_singleton] at ha
        subst ha
        unfold okA
        decide
      · intro r hr; cases hr
  have hb5 := Hb4.out.trans (H4.out.keepB hk5)
  have H5 := Lib.hid h5
  have Hb5 := Lib.hid hb5
  clear hb5 h5
  clear hk5 hpost
  go_wp2_with fail
  refine (load_in H5.out 6 4152 rfl 4144 (by omega)).mono ?_
  rintro e w6 ⟨rfl, q, rfl⟩
  have h6 := H5.out.drewN q
  have hb6 := below_drewN Hb5.out q
  have H6 := Lib.hid h6
  have Hb6 := Lib.hid hb6
  clear hb6 h6
  go_wp2_with fail
  refine (reg_in H6.out 14 4144 rfl 14 rfl).mono ?_
  rintro e w7 ⟨rfl, rfl⟩
  go_wp2_with fail
  go_ret
  exact ⟨rfl, Hb6.out⟩
end Go.Proofs.Ytndmhnmclogpcaa
