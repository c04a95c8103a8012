/- Walks of the machine's new stack, of a new machine without code, of how much is in use. Conditions: the machine lies in memory. -/
import Derived.Test.YtndmhnmclogpcaaChip3
set_option linter.unusedVariables false
set_option linter.unusedSimpArgs false
namespace Go.Proofs.Ytndmhnmclogpcaa
open Go.RowKit

theorem ChipAt.lower {w : World} {lo lo' p : Nat} {cv sv : Value} {regs : List Int} {pc base : Int} {ws : List Int} (h : ChipAt w lo p cv sv regs pc base ws) (hl : lo' ≤ lo) : ChipAt w lo' p cv sv regs pc base ws :=
  ⟨h.blk, h.len, h.u64, h.pcI, by have := h.low; omega, own_base h.row hl, h.wok, h.fit⟩
set_option maxRecDepth 100000 in
set_option maxHeartbeats 1000000 in
theorem restack_in {w : World} {lo p : Nat} {cv sv : Value} {regs : List Int} {pc base : Int} {ws : List Int} (h : ChipAt w lo p cv sv regs pc base ws) (A : Option Addr) (n c : Nat) (ws' : List Int) (B : Nat) (hr : Reads w B 1 A n (byteVals (flat ws'))) (hn : n = 8 * ws'.length) (hB : B ≤ w.heap.size)
    (hA : A = none → c = 0) (hw : ∀ x ∈ ws', U64 x) (base' : Int) (hm : MayP base' n) :
    Calls Try.prog 27 #[.pointer (some ⟨p, 0, none⟩), .int .u64 base', .slice A n c] w fun e w' => e = .returned (.int .i64 0) ∧ ∃ sv', ChipAt w' lo p cv sv' regs pc base' ws' ∧ Keeps (fun i => i = p) w w' ∧ ∀ k, sv'.ownBlock = some k → w.heap.size ≤ k := by
  have hlt := h.lt
  have hlow := h.low
  have hm5 : n ≤ 65536 := by have := hm.2.2.2.2.1; omega
  have hfit : 8 ≤ base' ∧ base' ≤ 281474976710656 ∧ base' % 8 = 0 ∧ 8 * ws'.length ≤ 65536 := ⟨hm.1, hm.2.1, hm.2.2.1, by omega⟩
  have H := Lib.hid h
  have Hr := Lib.hid hr
  have Hm := Lib.hid hm
  have Hfit := Lib.hid hfit
  have Hw := Lib.hid hw
  have Hn := Lib.hid hn
  clear hn hw hfit hm hr h
  go_enter Try.func27, Try.ntmps27
  go_wp2_with fail
  refine (may_yes _ base' _ Hm.out).mono ?_
  rintro e w1 ⟨rfl, rfl⟩
  go_wp2_with fail
  refine (clone_any A n c (flat ws') w B Hr.out (by omega) hB hA).mono ?_
  rintro e w2 ⟨sv', rfl, hown2, hb2⟩
  obtain ⟨A2, c2, rfl, _, _, _⟩ := own_any hown2
  have h2 := H.out.below hb2
  have hs2 := hb2.size
  have hset := h2.setStack (by rw [← Hn.out]; exact own_base hown2 (by omega)) Hw.out Hfit.out
  have hk := (Keeps.setCell (S := fun i => i = p) (Keeps.setCell (S := fun i => i = p) (Keeps.of_below hb2 (Nat.le_refl _)) (p := ⟨p, 18, none⟩) (.inl rfl) (.int .u64 base')) (p := ⟨p, 19, none⟩) (.inl rfl) (.slice A2 n c2))
  have hge : ∀ k, (Value.slice A2 n c2).ownBlock = some k → w.heap.size ≤ k := fun k e => (hown2.lt k e).1
  have k18 := h2.base_
  have f18 := h2.free 18
  have k19 := h2.stack_
  have f19 := h2.free 19
  have Hset := Lib.hid hset
  have Hk := Lib.hid hk
  have Hge := Lib.hid hge
  clear hge hk hset
  clear h2 hown2 hb2
  go_wp2_with fail
  go_ret
  exact ⟨rfl, _, Hset.out, Hk.out, Hge.out⟩
set_option maxRecDepth 100000 in
set_option maxHeartbeats 400000 in
theorem restack_out (w : World) (p : Nat) (base' : Int) (A : Option Addr) (n c : Nat) (hb : 0 ≤ base') (hm : ¬ MayP base' n) (hn : n ≤ maxLen) :
    Calls Try.prog 27 #[.pointer (some ⟨p, 0, none⟩), .int .u64 base', .slice A n c] w fun e w' => e = .returned (.int .i64 2) ∧ w = w' := by
  unfold maxLen at hn
  have Hm := Lib.hid hm
  clear hm
  go_enter Try.func27, Try.ntmps27
  go_wp2_with fail
  refine (may_no _ base' _ hb Hm.out).mono ?_
  rintro e w1 ⟨rfl, rfl⟩
  go_wp2_with fail
  go_ret
  exact ⟨rfl, rfl⟩
set_option maxRecDepth 100000 in
set_option maxHeartbeats 400000 in
theorem restack_nil (w : World) (base' : Int) (v : Value) :
    Calls Try.prog 27 #[.pointer none, .int .u64 base', v] w fun e w' => e = .returned (.int .i64 1) ∧ w = w' := by
  go_enter Try.func27, Try.ntmps27
  go_wp2_with fail
  go_ret
  exact ⟨rfl, rfl⟩
set_option maxRecDepth 100000 in
set_option maxHeartbeats 400000 in
theorem decode_nil (w : World) : Calls Try.prog 21 #[.slice none 0 0] w fun e w' => e = .returned (.tuple #[.slice none 0 0, .int .i64 0]) ∧ w = w' := by
  go_enter Try.func21, Try.ntmps21
  go_wp2_with fail
  refine wp_loop_rounds 1 ?_
  rw [rounds_succ]
  go_wp2_with fail
  go_ret2
  exact ⟨rfl, rfl⟩
def regs0 (t : Int) : List Int := [0, 0, 0, 0, 0, 0, 0, 0, 0, 0, 0, 0, 0, 0, t, 0]
theorem flat_zero (k : Nat) : byteVals (flat (List.replicate k 0)) = List.replicate (8 * k) (Value.int .u8 0) := by
  induction k with
  | zero => rfl
  | succ k ih =>
    have e : byteVals (bytesLE 8 0) = List.replicate 8 (Value.int .u8 0) := by rfl
    rw [List.replicate_succ, flat, List.flatMap_cons, byteVals, List.map_append, ← byteVals, ← byteVals, e, ← flat, ih, List.replicate_append_replicate]
    congr 1
    omega
set_option maxRecDepth 100000 in
set_option maxHeartbeats 1000000 in
theorem new_in (w : World) (base size : Int) (hm : MayP base size) :
    Calls Try.prog 8 #[.slice none 0 0, .int .u64 base, .int .i64 size] w fun e w' => ∃ p sv, e = .returned (.tuple #[.pointer (some ⟨p, 0, none⟩), .int .i64 0]) ∧ ChipAt w' w.heap.size p (.slice none 0 0) sv (regs0 (base + size)) 0 base (List.replicate (size / 8).toNat 0) ∧ Below w.heap.size w w' := by
  obtain ⟨i0, hi0, hz0, hz1, hz2⟩ := info_parts infoU8
  obtain ⟨h1, h2, h3, h4, h5, h6⟩ := id hm
  obtain ⟨n, rfl⟩ := Int.eq_ofNat_of_zero_le h4
  have hmk : ∀ W : World, (Instr.makeSlice 33 (.int .i64 (n : Int)) (.int .i64 (n : Int))).run Try.prog W = .ok (.slice (some ⟨W.heap.size, 0, none⟩) n n) (W.alloc (.cells (madeCells #[.int .u8 0] n) 5)) := fun W => by
    have h := run_make_rowN (P := Try.prog) 33 5 i0 _ Try.underlying33 hi0 hz0 .i64 .i64 n n (Nat.le_refl _) (by rw [hz2]; omega) (by omega) W
    rw [hz1, Nat.mul_one] at h
    exact h
  have Hm := Lib.hid hm
  have H6 := Lib.hid h6
  have H3 := Lib.hid h3
  clear h3 h6 hm
  go_enter Try.func8, Try.ntmps8
  go_wp2_with fail
  refine (decode_nil _).mono ?_
  rintro e w1 ⟨rfl, rfl⟩
  go_wp2_with fail
  refine (may_yes _ base _ Hm.out).mono ?_
  rintro e w1 ⟨rfl, rfl⟩
  go_wp2_with fail
  go_ret2
  obtain ⟨k, hk⟩ : ∃ k : Nat, n = 8 * k := ⟨n / 8, by have := H6.out; omega⟩
  have e : ((n : Int) / 8).toNat = k := by omega
  have hB0 : Blk (w.alloc (.cells (madeCells #[.int .u8 0] n) 5)) w.heap.size 5 (madeCells #[.int .u8 0] n) := Blk.new w _ _
  refine ⟨w.heap.size + 1, .slice (some ⟨w.heap.size, 0, none⟩) n n, rfl, ⟨Blk.new2 w _ _ _, rfl, ?_, by omega, by omega, ?_, ?_, ?_⟩, ((Below.refl _ _).alloc (Nat.le_refl _) _).alloc (by simp) _⟩
  · intro r hr
    simp only [regs0, List.mem_cons, List.not_mem_nil, or_false] at hr
    unfold U64
    omega
  · rw [e, flat_zero, List.length_replicate, ← hk]
    exact own_of_blk (hB0.alloc _) (Nat.le_refl _) (toList_madeCells_one _ _) (by simp) (by unfold maxLen; omega)
  · intro x hx
    rw [List.eq_of_mem_replicate hx]
    unfold U64; omega
  · rw [e, List.length_replicate]
    exact ⟨h1, h2, H3.out, by omega⟩
theorem ChipAt.sp {w : World} {lo p : Nat} {cv sv : Value} {regs : List Int} {pc base : Int} {ws : List Int} (h : ChipAt w lo p cv sv regs pc base ws) : regs[14]? = some (regs.getD 14 0) ∧ U64 (regs.getD 14 0) := by
  have hl : 14 < regs.length := by rw [h.len]; omega
  have e : regs[14]? = some (regs.getD 14 0) := by simp [List.getD_eq_getElem?_getD, List.getElem?_eq_getElem hl]
  exact ⟨e, h.u64 _ (List.mem_of_getElem? e)⟩
end Go.Proofs.Ytndmhnmclogpcaa
