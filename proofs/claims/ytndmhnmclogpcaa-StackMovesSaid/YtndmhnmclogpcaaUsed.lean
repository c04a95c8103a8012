/- Walk of stack.Used. Conditions: the machine lies in memory. -/
import Derived.Test.YtndmhnmclogpcaaChip4
set_option linter.unusedVariables false
set_option linter.unusedSimpArgs false
namespace Go.Proofs.Ytndmhnmclogpcaa
open Go.RowKit

def usedP (regs : List Int) (base : Int) (ws : List Int) : Prop := base ≤ regs.getD 14 0 ∧ regs.getD 14 0 ≤ base + 8 * ws.length
set_option maxRecDepth 100000 in
set_option maxHeartbeats 1000000 in
theorem used_in {w : World} {lo p : Nat} {cv sv : Value} {regs : List Int} {pc base : Int} {ws : List Int} (h : ChipAt w lo p cv sv regs pc base ws) (hu : usedP regs base ws) :
    Calls Try.prog 15 #[.pointer (some ⟨p, 0, none⟩)] w fun e w' => e = .returned (.tuple #[.int .i64 (base + 8 * ws.length - regs.getD 14 0), .bool true]) ∧ Below w.heap.size w w' := by
  obtain ⟨hsp, hsu⟩ := h.sp
  obtain ⟨u1, u2⟩ := hu
  obtain ⟨f1, f2, f3, f4⟩ := h.fit
  unfold U64 at hsu
  obtain ⟨s, hs⟩ : ∃ s, s = regs.getD 14 0 := ⟨_, rfl⟩
  rw [← hs] at u1 u2 hsu hsp ⊢
  obtain ⟨n, hn⟩ : ∃ n, n = 8 * ws.length := ⟨_, rfl⟩
  have u2' : s ≤ base + n := by omega
  have e1 : base + 8 * ws.length - s = base + n - s := by omega
  rw [e1]
  have d1 : ¬ s < base := by omega
  have d2 : ¬ base + n < s := by omega
  have hn4 : n ≤ 65536 := by omega
  obtain ⟨hs0, hs1⟩ := hsu
  have H := Lib.hid h
  have Hsp := Lib.hid hsp
  have Hs := Lib.hid hs
  have Hn := Lib.hid hn
  have He1 := Lib.hid e1
  clear e1 hn hs hsp h
  clear u2 f4
  go_enter Try.func15, Try.ntmps15
  go_wp2_with fail
  refine (stack_in H.out).mono ?_
  rintro e w1 ⟨tv, rfl, hown, hb⟩
  rw [← Hn.out] at hown
  obtain ⟨A, c, rfl, _, hc, _⟩ := own_any hown
  have h1 := H.out.below hb
  unfold maxLen at hc
  have H1 := Lib.hid h1
  have Hb := Lib.hid hb
  clear hb h1
  clear hown
  go_wp2_with fail
  refine (reg_in H1.out 14 s Hsp.out _ rfl).mono ?_
  rintro e w2 ⟨rfl, rfl⟩
  go_wp2_with fail
  go_ret2
  exact ⟨rfl, Hb.out⟩
set_option maxRecDepth 100000 in
set_option maxHeartbeats 1000000 in
theorem used_out {w : World} {lo p : Nat} {cv sv : Value} {regs : List Int} {pc base : Int} {ws : List Int} (h : ChipAt w lo p cv sv regs pc base ws) (hu : ¬ usedP regs base ws) :
    Calls Try.prog 15 #[.pointer (some ⟨p, 0, none⟩)] w fun e w' => e = .returned (.tuple #[.int .i64 0, .bool false]) ∧ Below w.heap.size w w' := by
  obtain ⟨hsp, hsu⟩ := h.sp
  obtain ⟨f1, f2, f3, f4⟩ := h.fit
  unfold U64 at hsu
  unfold usedP at hu
  obtain ⟨s, hs⟩ : ∃ s, s = regs.getD 14 0 := ⟨_, rfl⟩
  rw [← hs] at hu hsu hsp
  obtain ⟨n, hn⟩ : ∃ n, n = 8 * ws.length := ⟨_, rfl⟩
  have hn4 : n ≤ 65536 := by omega
  have hcase : s < base ∨ ¬ s < base ∧ base + n < s := by omega
  obtain ⟨hs0, hs1⟩ := hsu
  have H := Lib.hid h
  have Hsp := Lib.hid hsp
  have Hs := Lib.hid hs
  have Hn := Lib.hid hn
  clear hn hs hsp h
  clear hu f4
  rcases hcase with d1 | ⟨d1, d2⟩
  all_goals
    go_enter Try.func15, Try.ntmps15
    go_wp2_with fail
    refine (stack_in H.out).mono ?_
    rintro e w1 ⟨tv, rfl, hown, hb⟩
    rw [← Hn.out] at hown
    obtain ⟨A, c, rfl, _, hc, _⟩ := own_any hown
    have h1 := H.out.below hb
    unfold maxLen at hc
    have H1 := Lib.hid h1
    have Hb := Lib.hid hb
    clear hb h1
    clear hown
    go_wp2_with fail
    refine (reg_in H1.out 14 s Hsp.out _ rfl).mono ?_
    rintro e w2 ⟨rfl, rfl⟩
    go_wp2_with fail
    go_ret2
    exact ⟨rfl, Hb.out⟩
set_option maxRecDepth 100000 in
set_option maxHeartbeats 400000 in
theorem used_nil (w : World) : Calls Try.prog 15 #[.pointer none] w fun e w' => e = .returned (.tuple #[.int .i64 0, .bool false]) ∧ w = w' := by
  go_enter Try.func15, Try.ntmps15
  go_wp2_with fail
  refine (stack_nil _).mono ?_
  rintro e w1 ⟨rfl, rfl⟩
  go_wp2_with fail
  refine (reg_nil _ 14).mono ?_
  rintro e w1 ⟨rfl, rfl⟩
  go_wp2_with fail
  go_ret2
  exact ⟨rfl, rfl⟩
end Go.Proofs.Ytndmhnmclogpcaa
