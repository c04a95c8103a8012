/- Walk of stack.Move. Conditions: the machine lies in memory, the lists too. -/
import Derived.Test.YtndmhnmclogpcaaMoveP
import Derived.Maps.OwnOps
set_option linter.unusedVariables false
set_option linter.unusedSimpArgs false
namespace Go.Proofs.Ytndmhnmclogpcaa
open Go.RowKit Go.Maps

set_option maxRecDepth 100000 in
set_option maxHeartbeats 400000 in
theorem move_nil (w : World) (base' size : Int) (v1 v2 : Value) :
    Calls Try.prog 13 #[.pointer none, .int .u64 base', .int .i64 size, v1, v2] w fun e w' => e = .returned (.int .i64 1) ∧ w = w' := by
  go_enter Try.func13, Try.ntmps13
  go_wp2_with fail
  go_ret
  exact ⟨rfl, rfl⟩
/-- may a stack be moved into so many bytes, by its registers? -/
def MoveOk (regs : List Int) (base : Int) (ws : List Int) (size : Int) : Prop := usedP regs base ws ∧ (base + 8 * ws.length - regs.getD 14 0) % 8 = 0 ∧ base + 8 * ws.length - regs.getD 14 0 ≤ size ∧ 0 ≤ size ∧ size ≤ 65536
set_option maxRecDepth 100000 in
set_option maxHeartbeats 2000000 in
theorem move_bad {w : World} {lo p : Nat} {cv sv : Value} {regs : List Int} {pc base : Int} {ws : List Int} (h : ChipAt w lo p cv sv regs pc base ws) (base' size : Int) (v1 v2 : Value) (hb' : U64 base') (hs : -9223372036854775808 ≤ size ∧ size ≤ 9223372036854775807) (hbad : ¬ MoveOk regs base ws size) :
    Calls Try.prog 13 #[.pointer (some ⟨p, 0, none⟩), .int .u64 base', .int .i64 size, v1, v2] w fun e w' => e = .returned (.int .i64 2) ∧ Below w.heap.size w w' := by
  obtain ⟨hsp, hsu⟩ := h.sp
  obtain ⟨f1, f2, f3, f4⟩ := h.fit
  unfold U64 at hsu hb'
  unfold MoveOk at hbad
  obtain ⟨hs0, hs1⟩ := hs
  obtain ⟨s, hse⟩ : ∃ s, s = regs.getD 14 0 := ⟨_, rfl⟩
  obtain ⟨n, hn⟩ : ∃ n, n = 8 * ws.length := ⟨_, rfl⟩
  rw [← hse] at hbad hsu hsp
  have hn4 : n ≤ 65536 := by omega
  obtain ⟨u, hu⟩ : ∃ u : Int, u = base + n - s := ⟨_, rfl⟩
  have hu2 : base + 8 * ws.length - s = u := by omega
  rw [hu2] at hbad
  obtain ⟨r, hr⟩ : ∃ r, u.tmod 8 = r := ⟨_, rfl⟩
  by_cases huse : usedP regs base ws
  · have huu : 0 ≤ u := by unfold usedP at huse; rw [← hse] at huse; omega
    have hu3 : u ≤ 65536 := by unfold usedP at huse; rw [← hse] at huse; omega
    have hr' : r = u % 8 := by rw [← hr, Int.tmod_eq_emod_of_nonneg huu]
    have hcase : r ≠ 0 ∨ r = 0 ∧ size < u ∨ r = 0 ∧ u ≤ size ∧ size < 0 ∨ r = 0 ∧ u ≤ size ∧ 0 ≤ size ∧ 65536 < size := by
      by_cases h1 : u % 8 = 0 <;> by_cases h2 : u ≤ size <;> by_cases h3 : 0 ≤ size <;> by_cases h4 : size ≤ 65536
      all_goals first | omega | (exfalso; exact hbad ⟨huse, h1, h2, h3, h4⟩)
    obtain ⟨hb0, hb1⟩ := hb'
    have H := Lib.hid h
    have Hsp := Lib.hid hsp
    have Hn := Lib.hid hn
    have Hse := Lib.hid hse
    have Hu := Lib.hid hu
    have Hu2 := Lib.hid hu2
    have Huse := Lib.hid huse
    clear huse hu2 hu hse hn hsp h
    clear hbad f4 hr' hsu
    rcases hcase with h1 | ⟨h1, h2⟩ | ⟨h1, h2, h3⟩ | ⟨h1, h2, h3, h4⟩
    · have hd : (r != 0) = true := by simp only [bne_iff_ne, bne_eq_false_iff_eq, ne_eq]; omega
      go_enter Try.func13, Try.ntmps13
      go_wp2_with fail
      refine (stack_in H.out).mono ?_
      rintro e w1 ⟨tv, rfl, hown, hb⟩
      rw [← Hn.out] at hown
      obtain ⟨A, c, rfl, _, hc, _⟩ := own_any hown
      have h1' := H.out.below hb
      have hs' := hb.size
      unfold maxLen at hc
      have H1' := Lib.hid h1'
      have Hb := Lib.hid hb
      clear hb h1'
      clear hown
      go_wp2_with fail
      refine (used_in H1'.out Huse.out).mono ?_
      rintro e w2 ⟨rfl, hb2⟩
      rw [← Hse.out, Hu2.out]
      have h2' := H1'.out.below hb2
      have hbb := Hb.out.trans (hb2.mono hs')
      have H2' := Lib.hid h2'
      have Hbb := Lib.hid hbb
      clear hbb h2'
      clear hb2
      go_wp2_with fail
      refine (reg_in H2'.out 14 s Hsp.out _ rfl).mono ?_
      rintro e w3 ⟨rfl, rfl⟩
      go_wp2_with fail
      go_ret
      exact ⟨rfl, Hbb.out⟩
    · have hd : (r != 0) = false ∧ size < u := by simp only [bne_iff_ne, bne_eq_false_iff_eq, ne_eq]; omega
      go_enter Try.func13, Try.ntmps13
      go_wp2_with fail
      refine (stack_in H.out).mono ?_
      rintro e w1 ⟨tv, rfl, hown, hb⟩
      rw [← Hn.out] at hown
      obtain ⟨A, c, rfl, _, hc, _⟩ := own_any hown
      have h1' := H.out.below hb
      have hs' := hb.size
      unfold maxLen at hc
      have H1' := Lib.hid h1'
      have Hb := Lib.hid hb
      clear hb h1'
      clear hown
      go_wp2_with fail
      refine (used_in H1'.out Huse.out).mono ?_
      rintro e w2 ⟨rfl, hb2⟩
      rw [← Hse.out, Hu2.out]
      have h2' := H1'.out.below hb2
      have hbb := Hb.out.trans (hb2.mono hs')
      have H2' := Lib.hid h2'
      have Hbb := Lib.hid hbb
      clear hbb h2'
      clear hb2
      go_wp2_with fail
      refine (reg_in H2'.out 14 s Hsp.out _ rfl).mono ?_
      rintro e w3 ⟨rfl, rfl⟩
      go_wp2_with fail
      go_ret
      exact ⟨rfl, Hbb.out⟩
    · have hd : (r != 0) = false ∧ ¬ size < u ∧ size < 0 := by simp only [bne_iff_ne, bne_eq_false_iff_eq, ne_eq]; omega
      go_enter Try.func13, Try.ntmps13
      go_wp2_with fail
      refine (stack_in H.out).mono ?_
      rintro e w1 ⟨tv, rfl, hown, hb⟩
      rw [← Hn.out] at hown
      obtain ⟨A, c, rfl, _, hc, _⟩ := own_any hown
      have h1' := H.out.below hb
      have hs' := hb.size
      unfold maxLen at hc
      have H1' := Lib.hid h1'
      have Hb := Lib.hid hb
      clear hb h1'
      clear hown
      go_wp2_with fail
      refine (used_in H1'.out Huse.out).mono ?_
      rintro e w2 ⟨rfl, hb2⟩
      rw [← Hse.out, Hu2.out]
      have h2' := H1'.out.below hb2
      have hbb := Hb.out.trans (hb2.mono hs')
      have H2' := Lib.hid h2'
      have Hbb := Lib.hid hbb
      clear hbb h2'
      clear hb2
      go_wp2_with fail
      refine (reg_in H2'.out 14 s Hsp.out _ rfl).mono ?_
      rintro e w3 ⟨rfl, rfl⟩
      go_wp2_with fail
      go_ret
      exact ⟨rfl, Hbb.out⟩
    · have hd : (r != 0) = false ∧ ¬ size < u ∧ ¬ size < 0 ∧ 65536 < size := by simp only [bne_iff_ne, bne_eq_false_iff_eq, ne_eq]; omega
      go_enter Try.func13, Try.ntmps13
      go_wp2_with fail
      refine (stack_in H.out).mono ?_
      rintro e w1 ⟨tv, rfl, hown, hb⟩
      rw [← Hn.out] at hown
      obtain ⟨A, c, rfl, _, hc, _⟩ := own_any hown
      have h1' := H.out.below hb
      have hs' := hb.size
      unfold maxLen at hc
      have H1' := Lib.hid h1'
      have Hb := Lib.hid hb
      clear hb h1'
      clear hown
      go_wp2_with fail
      refine (used_in H1'.out Huse.out).mono ?_
      rintro e w2 ⟨rfl, hb2⟩
      rw [← Hse.out, Hu2.out]
      have h2' := H1'.out.below hb2
      have hbb := Hb.out.trans (hb2.mono hs')
      have H2' := Lib.hid h2'
      have Hbb := Lib.hid hbb
      clear hbb h2'
      clear hb2
      go_wp2_with fail
      refine (reg_in H2'.out 14 s Hsp.out _ rfl).mono ?_
      rintro e w3 ⟨rfl, rfl⟩
      go_wp2_with fail
      go_ret
      exact ⟨rfl, Hbb.out⟩
  · obtain ⟨hb0, hb1⟩ := hb'
    have H := Lib.hid h
    have Hsp := Lib.hid hsp
    have Hn := Lib.hid hn
    have Hse := Lib.hid hse
    have Hu := Lib.hid hu
    have Hu2 := Lib.hid hu2
    have Huse := Lib.hid huse
    clear huse hu2 hu hse hn hsp h
    clear hbad f4 hsu hr
    go_enter Try.func13, Try.ntmps13
    go_wp2_with fail
    refine (stack_in H.out).mono ?_
    rintro e w1 ⟨tv, rfl, hown, hb⟩
    rw [← Hn.out] at hown
    obtain ⟨A, c, rfl, _, hc, _⟩ := own_any hown
    have h1' := H.out.below hb
    have hs' := hb.size
    unfold maxLen at hc
    have H1' := Lib.hid h1'
    have Hb := Lib.hid hb
    clear hb h1'
    clear hown
    go_wp2_with fail
    refine (used_out H1'.out Huse.out).mono ?_
    rintro e w2 ⟨rfl, hb2⟩
    have h2' := H1'.out.below hb2
    have hbb := Hb.out.trans (hb2.mono hs')
    have H2' := Lib.hid h2'
    have Hbb := Lib.hid hbb
    clear hbb h2'
    clear hb2
    go_wp2_with fail
    refine (reg_in H2'.out 14 s Hsp.out _ rfl).mono ?_
    rintro e w3 ⟨rfl, rfl⟩
    go_wp2_with fail
    go_ret
    exact ⟨rfl, Hbb.out⟩
end Go.Proofs.Ytndmhnmclogpcaa
