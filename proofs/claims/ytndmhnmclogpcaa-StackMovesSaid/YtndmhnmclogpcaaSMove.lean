/- Walk of the document's Move of a stack: what it refuses. Conditions: the machine and the lists lie in memory. -/
import Derived.Test.YtndmhnmclogpcaaSRefN
import Derived.Test.YtndmhnmclogpcaaMoveP
set_option linter.unusedVariables false
set_option linter.unusedSimpArgs false
namespace Go.Proofs.Ytndmhnmclogpcaa
open Go.RowKit

/-- may the stack be moved, by its pointer and the new place? -/
def RMoveOk (regs : List Int) (base : Int) (ws : List Int) (base' size : Int) : Prop := MayP base' size ∧ base ≤ regs.getD 14 0 ∧ regs.getD 14 0 ≤ base + 8 * ws.length ∧ regs.getD 14 0 % 8 = 0 ∧ base + 8 * ws.length - regs.getD 14 0 ≤ size
set_option maxRecDepth 100000 in
set_option maxHeartbeats 4000000 in
theorem rmove_bad {w : World} {lo q rg wg : Nat} {cv : Value} {regs : List Int} {pc base : Int} {ws : List Int} (h : RefAt w lo q rg wg cv regs pc base ws) (base' size : Int) (v1 v2 : Value) (hb' : U64 base') (hs : -9223372036854775808 ≤ size ∧ size ≤ 9223372036854775807) (hbad : ¬ RMoveOk regs base ws base' size) :
    Calls Try.prog 18 #[.pointer (some ⟨q, 0, none⟩), .int .u64 base', .int .i64 size, v1, v2] w fun e w' => e = .returned (.int .i64 2) ∧ ∃ d, w' = w.drewN d := by
  obtain ⟨sp, hsp⟩ : ∃ sp, regs[14]? = some sp := ⟨_, List.getElem?_eq_getElem (by rw [h.len]; omega)⟩
  have hgs : regs.getD 14 0 = sp := by rw [List.getD_eq_getElem?_getD, hsp, Option.getD_some]
  obtain ⟨u0, u1⟩ := h.u64 _ (List.mem_of_getElem? hsp)
  obtain ⟨f1, f2, f3, f4⟩ := h.fit
  obtain ⟨s0, s1⟩ := hs
  obtain ⟨b0, b1⟩ := id hb'
  have kb := h.base_
  have kw := h.words_
  have kr := h.regs_
  have k14 : w.cell? ⟨rg, 14, none⟩ = some (.int .u64 sp) := h.reg hsp
  obtain ⟨n, hn⟩ : ∃ n, ws.length = n := ⟨_, rfl⟩
  unfold RMoveOk at hbad
  rw [hgs, hn] at hbad
  rw [hn] at kw f4
  obtain ⟨r, hr⟩ : ∃ r, sp.tmod 8 = r := ⟨_, rfl⟩
  have hr8 : r = sp % 8 := by rw [← hr, Int.tmod_eq_emod_of_nonneg u0]
  by_cases hm : MayP base' size
  · have h6 := hm.2.2.2
    obtain ⟨m4, m5, m6⟩ := h6
    have hcase : sp < base ∨ (¬ sp < base ∧ base + 8 * (n : Int) < sp) ∨ (¬ sp < base ∧ ¬ base + 8 * (n : Int) < sp ∧ (r != 0) = true) ∨ (¬ sp < base ∧ ¬ base + 8 * (n : Int) < sp ∧ (r != 0) = false ∧ size < base + 8 * (n : Int) - sp) := by
      by_cases g1 : sp < base
      · exact .inl g1
      by_cases g2 : base + 8 * (n : Int) < sp
      · exact .inr (.inl ⟨g1, g2⟩)
      by_cases g3 : r = 0
      · refine .inr (.inr (.inr ⟨g1, g2, by simpa using g3, ?_⟩))
        by_cases g4 : size < base + 8 * (n : Int) - sp
        · exact g4
        · exact absurd ⟨hm, by omega, by omega, by omega, by omega⟩ hbad
      · exact .inr (.inr (.inl ⟨g1, g2, by simpa using g3⟩))
    have Hm := Lib.hid hm
    have Hm6 := Lib.hid m6
    have Hf3 := Lib.hid f3
    clear f3 m6 hm
    clear hbad hr8 h hn hgs hsp hb'
    rcases hcase with g1 | ⟨g1, g2⟩ | ⟨g1, g2, g3⟩ | ⟨g1, g2, g3, g4⟩
    all_goals
      go_enter Try.func18, Try.ntmps18
      go_upto_region 1 with fail
      go_quiet (fail)
      go_wp2_with fail
      refine (rmay_yes _ base' size Hm.out).mono ?_
      rintro e w1 ⟨rfl, rfl⟩
      go_wp2_with fail
      go_ret
      exact ⟨rfl, _, rfl⟩
  · have Hm := Lib.hid hm
    have Hf3 := Lib.hid f3
    clear f3 hm
    clear hbad hr8 h hn hgs hsp hb'
    go_enter Try.func18, Try.ntmps18
    go_upto_region 1 with fail
    go_quiet (fail)
    go_wp2_with fail
    refine (rmay_no _ base' size b0 Hm.out).mono ?_
    rintro e w1 ⟨rfl, rfl⟩
    go_wp2_with fail
    go_ret
    exact ⟨rfl, _, rfl⟩
end Go.Proofs.Ytndmhnmclogpcaa
