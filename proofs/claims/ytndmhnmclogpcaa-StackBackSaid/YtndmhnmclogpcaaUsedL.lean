/- The law StackUsed: what is in use is what lies from SP to the end, and stays as much in a move. No condition. -/
import Derived.Test.YtndmhnmclogpcaaFirstS
import Derived.Test.YtndmhnmclogpcaaOpen
set_option linter.unusedVariables false
set_option linter.unusedSimpArgs false
namespace Go.Proofs.Ytndmhnmclogpcaa
open Go.RowKit

theorem cut_at (a : Int) (L : Nat) (h0 : 0 < L) (h1 : L ≤ 160000000) : ∃ k : Nat, k < L ∧ wrap64 ((IntKind.u64.wrap a).tmod (L : Int)) = (k : Int) := by
  have hu : 0 ≤ IntKind.u64.wrap a := by rw [IntKind.wrap_u64]; omega
  have hb := Int.emod_nonneg (IntKind.u64.wrap a) (show (L : Int) ≠ 0 by omega)
  have hc := Int.emod_lt_of_pos (IntKind.u64.wrap a) (show (0 : Int) < L by omega)
  refine ⟨(IntKind.u64.wrap a % (L : Int)).toNat, by omega, ?_⟩
  rw [Int.tmod_eq_emod_of_nonneg hu, Int.toNat_of_nonneg hb, IntWalk.wrap64_in _ ⟨by omega, by omega⟩]
theorem regsW_sp (base E y s : Int) (S regs : List Int) : (regsW base E y S regs s).getD 14 0 = IntKind.u64.wrap (s + y) := rfl
theorem movedW_length (base E y : Int) (S ws : List Int) (m z : Nat) : (movedW base E y S ws m z).length = z + (ws.length - m) := by rw [movedW, List.length_append, List.length_replicate, tail_length]
set_option maxRecDepth 100000 in
set_option maxHeartbeats 1000000 in
theorem walk_StackUsed (w : World) (a0 : Int) (w0 : (Lit.int .i64 a0).wf = true) (a1 : Int) (w1 : (Lit.int .i64 a1).wf = true) (a2 : Int) (w2 : (Lit.int .i64 a2).wf = true) :
    Calls Try.prog 5 #[.int .i64 a0, .int .i64 a1, .int .i64 a2] w fun e w' => e = .returned (.bool true) ∧ Below w.heap.size w w' := by
  obtain ⟨n, hn, q0⟩ := cut_at a0 200 (by omega) (by omega)
  obtain ⟨k, hk, q1⟩ := cut_at a1 (n + 1) (by omega) (by omega)
  obtain ⟨j, hj, q2⟩ := cut_at a2 50 (by omega) (by omega)
  have q0' : wrap64 ((IntKind.u64.wrap a0).tmod 200) = (n : Int) := q0
  have q1' : wrap64 ((IntKind.u64.wrap a1).tmod ((n : Int) + 1)) = (k : Int) := q1
  have q2' : wrap64 ((IntKind.u64.wrap a2).tmod 50) = (j : Int) := q2
  have hm0 : MayP 1048576 (8 * (n : Int)) := by unfold MayP; omega
  obtain ⟨N, hN⟩ : ∃ N : Nat, 8 * (k : Int) + 8 * (j : Int) = N := ⟨8 * k + 8 * j, by omega⟩
  have hm1 : MayP 4194304 N := by unfold MayP; omega
  have hz : (List.replicate (8 * (n : Int) / 8).toNat (0 : Int)) = List.replicate n 0 := by congr 1; omega
  have hkn : (k : Int) ≤ n := by omega
  have hbS := fun sv : Value => sv
  have Hm0 := Lib.hid hm0
  have Hm1 := Lib.hid hm1
  have Hz := Lib.hid hz
  clear hz hm1 hm0
  clear w0 w1 w2 q0 q1 q2 hbS
  go_enter Try.func5, Try.ntmps5
  go_wp2_with fail
  refine (first_any _).mono ?_
  rintro e w3 ⟨rfl, hb3⟩
  have hs3 := hb3.size
  have Hb3 := Lib.hid hb3
  clear hb3
  go_wp2_with fail
  refine (new_in w3 1048576 (8 * (n : Int)) Hm0.out).mono ?_
  rintro e w4 ⟨p, sv, rfl, h4, hb4⟩
  rw [Hz.out] at h4
  have h4' := h4.lower hs3
  have hb4' := Hb3.out.trans (hb4.mono hs3)
  have H4' := Lib.hid h4'
  have Hb4' := Lib.hid hb4'
  clear hb4' h4'
  clear h4 hb4
  go_wp2_with fail
  refine (reg_in H4'.out 14 (1048576 + 8 * (n : Int)) rfl 14 rfl).mono ?_
  rintro e w5 ⟨rfl, rfl⟩
  go_wp2_with fail
  obtain ⟨s, hs⟩ : ∃ s : Int, 1048576 + 8 * (n : Int) - 8 * k = s := ⟨_, rfl⟩
  rw [hs]
  refine (set_in H4'.out 14 s (by omega) (by unfold U64; omega) 14 rfl).mono ?_
  rintro e w6 ⟨rfl, h6, hk6⟩
  have h6' : ChipAt w6 w.heap.size p (.slice none 0 0) sv (regs0 s) 0 1048576 (List.replicate n 0) := h6
  have hb6 := Hb4'.out.trans (H4'.out.keepB hk6)
  have hu6 : usedP (regs0 s) 1048576 (List.replicate n 0) := by unfold usedP; rw [List.length_replicate]; show 1048576 ≤ s ∧ s ≤ _; omega
  have he6 : (1048576 : Int) + 8 * (List.replicate n (0 : Int)).length - (regs0 s).getD 14 0 = 8 * k := by rw [List.length_replicate]; show (1048576 : Int) + 8 * n - s = _; omega
  have hs1 : s ≤ 1048576 + 8 * n := by omega
  have hs2 : 1048576 ≤ s := by omega
  have H6' := Lib.hid h6'
  have Hb6 := Lib.hid hb6
  have Hu6 := Lib.hid hu6
  have He6 := Lib.hid he6
  have Hs := Lib.hid hs
  clear hs he6 hu6 hb6 h6'
  clear h6 hk6
  go_wp2_with fail
  refine (used_in H6'.out Hu6.out).mono ?_
  rintro e w7 ⟨rfl, hb7⟩
  rw [He6.out]
  have h7 := H6'.out.below hb7
  have hb7' := Hb6.out.trans (hb7.mono H6'.out.loLt)
  obtain ⟨y, hy⟩ : ∃ y, y = IntKind.u64.wrap (4194304 + (N : Int) - (1048576 + 8 * (List.replicate n (0 : Int)).length)) := ⟨_, rfl⟩
  have hy2 : y = 4194304 + N - (1048576 + 8 * n) := by rw [hy, List.length_replicate, IntKind.wrap_u64]; omega
  have H7 := Lib.hid h7
  have Hb7' := Lib.hid hb7'
  have Hy := Lib.hid hy
  have Hy2 := Lib.hid hy2
  clear hy2 hy hb7' h7
  clear hb7
  go_wp2_with fail
  refine (move_any H7.out 4194304 N (by unfold U64; omega) (n - k) k (by rw [List.length_replicate]; omega) (by show s = _; have := Hs.out; omega) (by omega) (by omega) y Hy.out 0 (Nat.zero_le _) none 0 0 [] Reads.none_ rfl (Nat.le_refl _) (by omega) (by intro a ha; cases ha) none 0 0 [] Reads.none_ rfl (Nat.le_refl _) (by omega) nofun).mono ?_
  rintro e w8 hpost
  obtain ⟨rfl, sv8, regs8, ws8, h8, hk8, hr8, hl8⟩ : e = .returned (.int .i64 0) ∧ ∃ sv' regs' ws', ChipAt w8 w.heap.size p (.slice none 0 0) sv' regs' 0 4194304 ws' ∧ Keeps (fun i => i = p) w7 w8 ∧ regs'.getD 14 0 = 4194304 + N - 8 * k ∧ ws'.length = k + j := by
    rcases hpost with ⟨_, he, sv', hc, hk, _⟩ | ⟨hno, _⟩
    · refine ⟨he, sv', _, _, hc, hk, ?_, ?_⟩
      · rw [regsW_sp]
        show IntKind.u64.wrap (s + y) = _
        have := Hs.out
        rw [Hy2.out, IntKind.wrap_u64]; omega
      · rw [movedW_length, List.length_replicate]; omega
    · refine absurd ⟨?_, ?_, Hm1.out⟩ hno
      · intro a ha; cases ha
      · intro r hr; cases hr
  have hb8 := Hb7'.out.trans (H7.out.keepB hk8)
  have hu8 : usedP regs8 4194304 ws8 := by unfold usedP; rw [hr8, hl8]; omega
  have he8 : (4194304 : Int) + 8 * ws8.length - regs8.getD 14 0 = 8 * k := by rw [hr8, hl8]; omega
  have H8 := Lib.hid h8
  have Hb8 := Lib.hid hb8
  have Hu8 := Lib.hid hu8
  have He8 := Lib.hid he8
  have Hl8 := Lib.hid hl8
  clear hl8 he8 hu8 hb8 h8
  clear hpost hk8 hr8
  go_wp2_with fail
  refine (used_in H8.out Hu8.out).mono ?_
  rintro e w9 ⟨rfl, hb9⟩
  rw [He8.out]
  have h9 := H8.out.below hb9
  have hb9' := Hb8.out.trans (hb9.mono H8.out.loLt)
  have H9 := Lib.hid h9
  have Hb9' := Lib.hid hb9'
  clear hb9' h9
  clear hb9
  go_wp2_with fail
  refine (set_in H9.out 14 4194296 (by omega) (by unfold U64; omega) _ rfl).mono ?_
  rintro e w10 ⟨rfl, h10, hk10⟩
  have hb10 := Hb9'.out.trans (H9.out.keepB hk10)
  have hu10 : ¬ usedP (regs8.set 14 4194296) 4194304 ws8 := by
    unfold usedP
    rw [List.getD_eq_getElem?_getD, getElem?_set_lt (by rw [H9.out.len]; omega), if_pos rfl]
    simp
  have H10 := Lib.hid h10
  have Hb10 := Lib.hid hb10
  have Hu10 := Lib.hid hu10
  clear hu10 hb10 h10
  clear hk10
  go_wp2_with fail
  refine (used_out H10.out Hu10.out).mono ?_
  rintro e w11 ⟨rfl, hb11⟩
  have hb11' := Hb10.out.trans (hb11.mono H10.out.loLt)
  have Hb11' := Lib.hid hb11'
  clear hb11'
  clear hb11
  go_wp2_with fail
  go_ret
  exact ⟨rfl, Hb11'.out⟩
end Go.Proofs.Ytndmhnmclogpcaa
