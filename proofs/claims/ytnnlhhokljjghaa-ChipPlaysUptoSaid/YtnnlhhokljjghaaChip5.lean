/- The machine's methods Pc, Jump, Push, nil machines; New with code. Conditions: the machine lies in memory. -/
import Derived.Test.YtnnlhhokljjghaaStepP
set_option linter.unusedVariables false
set_option linter.unusedSimpArgs false
namespace Go.Proofs.Ytnnlhhokljjghaa
open Go.RowKit

set_option maxRecDepth 100000 in
set_option maxHeartbeats 1000000 in
theorem pc_in {w : World} {lo p : Nat} {cv sv : Value} {regs : List Int} {pc base : Int} {ws : List Int} (h : ChipAt w lo p cv sv regs pc base ws) :
    Calls Try.prog 21 #[.pointer (some ⟨p, 0, none⟩)] w fun e w' => e = .returned (.int .i64 pc) ∧ w = w' := by
  have kp := h.pc_
  clear h
  go_enter Try.func21, Try.ntmps21
  go_wp2_with fail
  go_ret
  exact ⟨rfl, rfl⟩
set_option maxRecDepth 100000 in
set_option maxHeartbeats 1000000 in
theorem pc_nil (w : World) :
    Calls Try.prog 21 #[.pointer none] w fun e w' => e = .returned (.int .i64 0) ∧ w = w' := by
  go_enter Try.func21, Try.ntmps21
  go_wp2_with fail
  go_ret
  exact ⟨rfl, rfl⟩
set_option maxRecDepth 100000 in
set_option maxHeartbeats 1000000 in
theorem jump_in {w : World} {lo p : Nat} {cv sv : Value} {regs : List Int} {pc base : Int} {ws : List Int} (h : ChipAt w lo p cv sv regs pc base ws) (v : Int) (hv : -9223372036854775808 ≤ v ∧ v ≤ 9223372036854775807) :
    Calls Try.prog 27 #[.pointer (some ⟨p, 0, none⟩), .int .i64 v] w fun e w' => e = .returned (.tuple #[]) ∧ ChipAt w' lo p cv sv regs v base ws ∧ Keeps (fun k => k = p) w w' := by
  have hset := h.setPc hv
  have kp := h.pc_
  have fp := h.free 17
  have Hset := Lib.hid hset
  clear hset
  clear h hv
  go_enter Try.func27, Try.ntmps27
  go_wp2_with fail
  go_end0
  exact ⟨rfl, Hset.out, Keeps.setCell (S := fun k => k = p) (Keeps.refl _ w) (p := ⟨p, 17, none⟩) (.inl rfl) _⟩
set_option maxRecDepth 100000 in
set_option maxHeartbeats 1000000 in
theorem jump_nil (w : World) (v : Int) :
    Calls Try.prog 27 #[.pointer none, .int .i64 v] w fun e w' => e = .returned (.tuple #[]) ∧ w = w' := by
  go_enter Try.func27, Try.ntmps27
  go_wp2_with fail
  go_end0
  exact ⟨rfl, rfl⟩
set_option maxRecDepth 100000 in
set_option maxHeartbeats 1000000 in
theorem at_nil (w : World) (a : Int) :
    Calls Try.prog 35 #[.pointer none, .int .u64 a] w fun e w' => e = .returned (.int .i64 (-1)) ∧ ∃ q, w' = w.drewN q := by
  go_enter Try.func35, Try.ntmps35
  go_upto_region 1 with fail
  go_quiet (fail)
  go_wp2_with fail
  go_ret
  exact ⟨rfl, _, rfl⟩
set_option maxRecDepth 100000 in
set_option maxHeartbeats 1000000 in
theorem load_nil (w : World) (a : Int) :
    Calls Try.prog 19 #[.pointer none, .int .u64 a] w fun e w' => e = .returned (.tuple #[.int .u64 0, .bool false]) ∧ ∃ q, w' = w.drewN q := by
  go_enter Try.func19, Try.ntmps19
  go_wp2_with fail
  refine (at_nil _ a).mono ?_
  rintro e w1 ⟨rfl, q, rfl⟩
  go_wp2_with fail
  go_ret2
  exact ⟨rfl, q, rfl⟩
set_option maxRecDepth 100000 in
set_option maxHeartbeats 1000000 in
theorem store_nil (w : World) (a v : Int) :
    Calls Try.prog 18 #[.pointer none, .int .u64 a, .int .u64 v] w fun e w' => e = .returned (.bool false) ∧ ∃ q, w' = w.drewN q := by
  go_enter Try.func18, Try.ntmps18
  go_wp2_with fail
  refine (at_nil _ a).mono ?_
  rintro e w1 ⟨rfl, q, rfl⟩
  go_wp2_with fail
  go_ret
  exact ⟨rfl, q, rfl⟩
set_option maxRecDepth 100000 in
set_option maxHeartbeats 1000000 in
theorem push_nil (w : World) (v : Int) :
    Calls Try.prog 29 #[.pointer none, .int .u64 v] w fun e w' => e = .returned (.bool false) ∧ w = w' := by
  go_enter Try.func29, Try.ntmps29
  go_wp2_with fail
  go_ret
  exact ⟨rfl, rfl⟩
set_option maxRecDepth 100000 in
set_option maxHeartbeats 1000000 in
theorem enter_nil (w : World) :
    Calls Try.prog 20 #[.pointer none] w fun e w' => e = .returned (.bool false) ∧ ∃ q, w' = w.drewN q := by
  go_enter Try.func20, Try.ntmps20
  go_upto_region 1 with fail
  go_quiet (fail)
  go_wp2_with fail
  go_ret
  exact ⟨rfl, _, rfl⟩
set_option maxRecDepth 100000 in
set_option maxHeartbeats 1000000 in
theorem push_out {w : World} {lo p : Nat} {cv sv : Value} {regs : List Int} {pc base : Int} {ws : List Int} (h : ChipAt w lo p cv sv regs pc base ws) (v : Int) (hn : ∀ k : Nat, k < ws.length → (regs.getD 14 0 - 8) % 18446744073709551616 ≠ base + 8 * k) :
    Calls Try.prog 29 #[.pointer (some ⟨p, 0, none⟩), .int .u64 v] w fun e w' => e = .returned (.bool false) ∧ ∃ q, w' = w.drewN q := by
  obtain ⟨sp, hsp⟩ : ∃ sp, regs[14]? = some sp := ⟨_, List.getElem?_eq_getElem (by rw [h.len]; omega)⟩
  have hgs : regs.getD 14 0 = sp := by rw [List.getD_eq_getElem?_getD, hsp, Option.getD_some]
  have usp := h.u64 _ (List.mem_of_getElem? hsp)
  have k14 : w.cell? ⟨p, 15, none⟩ = some (.int .u64 sp) := h.reg hsp
  rw [hgs] at hn
  obtain ⟨a, ha⟩ : ∃ a, IntKind.u64.wrap (sp - 8) = a := ⟨_, rfl⟩
  have ha2 : (sp - 8) % 18446744073709551616 = a := by rw [← ha, IntKind.wrap_u64]
  rw [ha2] at hn
  have hau : U64 a := by rw [← ha2]; unfold U64; omega
  have H := Lib.hid h
  have Hn := Lib.hid hn
  have Hau := Lib.hid hau
  have Ha2 := Lib.hid ha2
  have Hsp := Lib.hid hsp
  have Hgs := Lib.hid hgs
  clear hgs hsp ha2 hau hn h
  go_enter Try.func29, Try.ntmps29
  go_wp2_with fail
  refine (store_out H.out a v Hau.out Hn.out).mono ?_
  rintro e w1 ⟨rfl, q, rfl⟩
  go_wp2_with fail
  go_ret
  exact ⟨rfl, q, rfl⟩
set_option maxRecDepth 100000 in
set_option maxHeartbeats 1000000 in
theorem push_in {w : World} {lo p : Nat} {cv sv : Value} {regs : List Int} {pc base : Int} {ws : List Int} (h : ChipAt w lo p cv sv regs pc base ws) (k : Nat) (v : Int) (hk : k < ws.length) (hv : U64 v) (hn : (regs.getD 14 0 - 8) % 18446744073709551616 = base + 8 * k) :
    Calls Try.prog 29 #[.pointer (some ⟨p, 0, none⟩), .int .u64 v] w fun e w' => e = .returned (.bool true) ∧ ChipAt w' lo p cv sv (regs.set 14 (base + 8 * k)) pc base (ws.set k v) ∧ Keeps (fun i => i = p ∨ sv.ownBlock = some i) w w' := by
  obtain ⟨sp, hsp⟩ : ∃ sp, regs[14]? = some sp := ⟨_, List.getElem?_eq_getElem (by rw [h.len]; omega)⟩
  have hgs : regs.getD 14 0 = sp := by rw [List.getD_eq_getElem?_getD, hsp, Option.getD_some]
  have usp := h.u64 _ (List.mem_of_getElem? hsp)
  have k14 : w.cell? ⟨p, 15, none⟩ = some (.int .u64 sp) := h.reg hsp
  rw [hgs] at hn
  obtain ⟨a, ha⟩ : ∃ a, IntKind.u64.wrap (sp - 8) = a := ⟨_, rfl⟩
  have ha2 : (sp - 8) % 18446744073709551616 = a := by rw [← ha, IntKind.wrap_u64]
  have hab : a = base + 8 * k := by rw [← ha2, hn]
  have hau : U64 a := by rw [← ha2]; unfold U64; omega
  rw [← hab]
  have H := Lib.hid h
  have Hn := Lib.hid hn
  have Hau := Lib.hid hau
  have Ha2 := Lib.hid ha2
  have Hab := Lib.hid hab
  have Hgs := Lib.hid hgs
  have Hsp := Lib.hid hsp
  clear hsp hgs hab ha2 hau hn h
  go_enter Try.func29, Try.ntmps29
  go_wp2_with fail
  refine (store_in H.out k v hk hv a Hab.out).mono ?_
  rintro e w1 ⟨rfl, hC1, hK1⟩
  have k15 : w1.cell? ⟨p, 15, none⟩ = some (.int .u64 sp) := hC1.reg Hsp.out
  have f15 : w1.frozen? ⟨p, 15, none⟩ = false := hC1.free 15
  have hset := hC1.setReg (r := 14) (by omega) Hau.out
  clear k14
  have HC1 := Lib.hid hC1
  have HK1 := Lib.hid hK1
  have Hset := Lib.hid hset
  clear hset hK1 hC1
  go_upto_region 3 with fail
  go_region
  go_wp2_with fail
  go_ret
  exact ⟨rfl, Hset.out.drewN 1, ((HK1.out.mono (fun _ _ h => .inr h)).setCell (p := ⟨p, 15, none⟩) (.inl (.inl rfl)) _).drew⟩
end Go.Proofs.Ytnnlhhokljjghaa
