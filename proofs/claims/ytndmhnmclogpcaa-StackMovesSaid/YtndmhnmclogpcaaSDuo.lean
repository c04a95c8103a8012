/- Both machines side by side, their moves, the program counter. Conditions: the machines and the lists lie in memory. -/
import Derived.Test.YtndmhnmclogpcaaSMove2
import Derived.Test.YtndmhnmclogpcaaFirstS
set_option linter.unusedVariables false
set_option linter.unusedSimpArgs false
namespace Go.Proofs.Ytndmhnmclogpcaa
open Go.RowKit

set_option maxRecDepth 100000 in
set_option maxHeartbeats 400000 in
theorem pc_in {w : World} {lo p : Nat} {cv sv : Value} {regs : List Int} {pc base : Int} {ws : List Int} (h : ChipAt w lo p cv sv regs pc base ws) :
    Calls Try.prog 20 #[.pointer (some ⟨p, 0, none⟩)] w fun e w' => e = .returned (.int .i64 pc) ∧ w = w' := by
  have kp := h.pc_
  clear h
  go_enter Try.func20, Try.ntmps20
  go_wp2_with fail
  go_ret
  exact ⟨rfl, rfl⟩
theorem conv_readsS (w : World) {B n c : Nat} {A : Option Addr} {xs : List Int} (h : Reads w B 1 A n (byteVals xs)) : (convert 33 9 (.slice A n c)).run Try.prog w = .ok (.string (strOfNums xs)) w :=
  run_conv_reads w _ _ _ Try.underlying33 Try.underlying5 Try.underlying9 h
theorem conv_ownS {w : World} {base n : Nat} {sv : Value} {xs : List Int} (h : w.ownsRow base 5 1 sv n (byteVals xs)) : (convert 33 9 sv).run Try.prog w = .ok (.string (strOfNums xs)) w := by
  obtain ⟨A, c, rfl, _, _, hr⟩ := own_any h
  exact conv_readsS w hr
/-- both machines, each in a state of its own -/
structure Duo (w : World) (lo p : Nat) (sv : Value) (q rg wg : Nat) (regs : List Int) (base : Int) (ws : List Int) (regs2 : List Int) (base2 : Int) (ws2 : List Int) : Prop where
  chip : ChipAt w lo p (.slice none 0 0) sv regs 0 base ws
  ref : RefAt w lo q rg wg (.slice none 0 0) regs2 0 base2 ws2
section
variable {w w' : World} {lo p : Nat} {sv : Value} {q rg wg : Nat} {regs : List Int} {base : Int} {ws regs2 : List Int} {base2 : Int} {ws2 : List Int}
/-- the chip is called -/
theorem Duo.chipTo {sv' : Value} {regs' : List Int} {base' : Int} {ws' : List Int} (h : Duo w lo p sv q rg wg regs base ws regs2 base2 ws2) (hC : ChipAt w' lo p (.slice none 0 0) sv' regs' 0 base' ws') (hk : Keeps (fun i => i = p ∨ sv.ownBlock = some i) w w') :
    Duo w' lo p sv' q rg wg regs' base' ws' regs2 base2 ws2 ∧ Below lo w w' := by
  have n1 := own_blk_ne h.chip.row h.ref.blk (by decide)
  have n2 := own_blk_ne h.chip.row h.ref.rblk (by decide)
  have n3 := own_blk_ne h.chip.row h.ref.wblk (by decide)
  have m1 := h.chip.blk.ne_ h.ref.blk (by decide)
  have m2 := h.chip.blk.ne_ h.ref.rblk (by decide)
  have m3 := h.chip.blk.ne_ h.ref.wblk (by decide)
  refine ⟨⟨hC, h.ref.keep hk ?_ ?_ ?_⟩, hk.toBelow h.chip.loLt (fun i hi => ?_)⟩
  · rintro (e | e)
    · exact m1 e.symm
    · exact n1 e
  · rintro (e | e)
    · exact m2 e.symm
    · exact n2 e
  · rintro (e | e)
    · exact m3 e.symm
    · exact n3 e
  · rcases hi with e | e
    · rw [e]; exact h.chip.low
    · exact (h.chip.row.lt i e).1
/-- the document's machine is called -/
theorem Duo.refTo {wg' : Nat} {regs' : List Int} {base' : Int} {ws' : List Int} (h : Duo w lo p sv q rg wg regs base ws regs2 base2 ws2) (hR : RefAt w' lo q rg wg' (.slice none 0 0) regs' 0 base' ws') (hk : Keeps (RefS q rg wg) w w') :
    Duo w' lo p sv q rg wg' regs base ws regs' base' ws' ∧ Below lo w w' := by
  have n1 := own_blk_ne h.chip.row h.ref.blk (by decide)
  have n2 := own_blk_ne h.chip.row h.ref.rblk (by decide)
  have n3 := own_blk_ne h.chip.row h.ref.wblk (by decide)
  have m1 := h.chip.blk.ne_ h.ref.blk (by decide)
  have m2 := h.chip.blk.ne_ h.ref.rblk (by decide)
  have m3 := h.chip.blk.ne_ h.ref.wblk (by decide)
  refine ⟨⟨h.chip.keep hk ?_ (fun k hk2 => ?_), hR⟩, h.ref.keepR hk⟩
  · rintro (e | e | e)
    · exact m1 e
    · exact m2 e
    · exact m3 e
  · rintro (e | e | e)
    · exact n1 (e ▸ hk2)
    · exact n2 (e ▸ hk2)
    · exact n3 (e ▸ hk2)
theorem Duo.below (h : Duo w lo p sv q rg wg regs base ws regs2 base2 ws2) (hb : Below w.heap.size w w') : Duo w' lo p sv q rg wg regs base ws regs2 base2 ws2 := ⟨h.chip.below hb, h.ref.below hb⟩
theorem Duo.drewN (h : Duo w lo p sv q rg wg regs base ws regs2 base2 ws2) (k : Nat) : Duo (w.drewN k) lo p sv q rg wg regs base ws regs2 base2 ws2 := ⟨h.chip.drewN k, h.ref.drewN k⟩
end
/-- a move asked for -/
structure MoveD where
  base : Int
  size : Int
  WA : Option Addr
  wn : Nat
  wc : Nat
  words : List Int
  RA : Option Addr
  rn : Nat
  rc : Nat
  rs : List Int
/-- a move that came in -/
structure MoveIn (w : World) (B : Nat) (m : MoveD) : Prop where
  ub : U64 m.base
  us : -9223372036854775808 ≤ m.size ∧ m.size ≤ 9223372036854775807
  rd : Reads w B 1 m.WA m.wn (m.words.map (Value.int .u64))
  wl : m.words.length = m.wn
  wcap : m.wn ≤ m.wc ∧ m.wn ≤ 140737488351232
  wu : ∀ a ∈ m.words, U64 a
  rr : Reads w B 1 m.RA m.rn (m.rs.map (Value.int .i64))
  rl : m.rs.length = m.rn
  rcap : m.rn ≤ m.rc ∧ m.rn ≤ 140737488351232
theorem MoveIn.below {w w' : World} {B : Nat} {m : MoveD} (h : MoveIn w B m) (hb : Below B w w') : MoveIn w' B m := ⟨h.ub, h.us, h.rd.below hb, h.wl, h.wcap, h.wu, h.rr.below hb, h.rl, h.rcap⟩
theorem MoveIn.more {w : World} {B B' : Nat} {m : MoveD} (h : MoveIn w B m) (hB : B ≤ B') : MoveIn w B' m := ⟨h.ub, h.us, h.rd.more hB, h.wl, h.wcap, h.wu, h.rr.more hB, h.rl, h.rcap⟩
/-- both machines' Move, as one piece of data -/
def BothMove (lo : Nat) (regs : List Int) (base : Int) (ws : List Int) (m : MoveD) (r : Int) (regs' : List Int) (base' : Int) (ws' : List Int) : Prop :=
  (∀ {w : World} {p : Nat} {sv : Value}, ChipAt w lo p (.slice none 0 0) sv regs 0 base ws → MoveIn w lo m →
    Calls Try.prog 13 #[.pointer (some ⟨p, 0, none⟩), .int .u64 m.base, .int .i64 m.size, .slice m.WA m.wn m.wc, .slice m.RA m.rn m.rc] w fun e w' => ∃ sv', e = .returned (.int .i64 r) ∧ ChipAt w' lo p (.slice none 0 0) sv' regs' 0 base' ws' ∧ Keeps (fun i => i = p ∨ sv.ownBlock = some i) w w') ∧
  (∀ {w : World} {q rg wg : Nat}, RefAt w lo q rg wg (.slice none 0 0) regs 0 base ws → MoveIn w lo m →
    Calls Try.prog 18 #[.pointer (some ⟨q, 0, none⟩), .int .u64 m.base, .int .i64 m.size, .slice m.WA m.wn m.wc, .slice m.RA m.rn m.rc] w fun e w' => ∃ wg', e = .returned (.int .i64 r) ∧ RefAt w' lo q rg wg' (.slice none 0 0) regs' 0 base' ws' ∧ Keeps (RefS q rg wg) w w')
theorem both_move (lo : Nat) (regs : List Int) (base : Int) (ws : List Int) (m : MoveD) (hf : base % 8 = 0) : ∃ r regs' base' ws', BothMove lo regs base ws m r regs' base' ws' := by
  by_cases hok : MoveOk regs base ws m.size
  · obtain ⟨⟨u1, u2⟩, k1, k2, k3, k4⟩ := id hok
    obtain ⟨N, hN⟩ := Int.eq_ofNat_of_zero_le k3
    obtain ⟨mm, hmm⟩ : ∃ mm : Nat, regs.getD 14 0 = base + 8 * mm := ⟨((regs.getD 14 0 - base) / 8).toNat, by omega⟩
    obtain ⟨U, hU⟩ : ∃ U, ws.length = mm + U := ⟨ws.length - mm, by omega⟩
    have hUN : 8 * U ≤ N := by omega
    have hNm : N ≤ 65536 := by omega
    have hp : ∀ {w : World} {p : Nat} {sv : Value}, ChipAt w lo p (.slice none 0 0) sv regs 0 base ws → MoveIn w lo m →
        Calls Try.prog 13 #[.pointer (some ⟨p, 0, none⟩), .int .u64 m.base, .int .i64 m.size, .slice m.WA m.wn m.wc, .slice m.RA m.rn m.rc] w fun e w' => MovePost w lo p (.slice none 0 0) regs 0 base ws m.base N m.words m.rs mm ((N - 8 * U) / 8) (IntKind.u64.wrap (m.base + N - (base + 8 * ws.length))) e w' := fun h hi => by
      rw [hN]
      exact move_any h m.base N hi.ub mm U hU hmm hUN hNm _ rfl lo h.loLt m.WA m.wn m.wc m.words hi.rd hi.wl hi.wcap.1 hi.wcap.2 hi.wu m.RA m.rn m.rc m.rs hi.rr hi.rl hi.rcap.1 hi.rcap.2 (fun ad e hn => by
        obtain ⟨ad', e', hlt, _⟩ := hi.rr.2 hn
        rw [e] at e'
        injection e' with e'
        subst e'
        have := h.low
        omega)
    by_cases hmay : MayP m.base N
    · have hr : ∀ {w : World} {q rg wg : Nat}, RefAt w lo q rg wg (.slice none 0 0) regs 0 base ws → MoveIn w lo m → _ := fun h hi =>
        rmove_any h m.base N hi.ub mm U hU hmm hUN hmay (IntKind.u64.wrap (m.base + N - (base + 8 * ws.length))) rfl lo h.loLt m.WA m.wn m.wc m.words hi.rd hi.wl hi.wcap.1 hi.wcap.2 hi.wu (Nat.le_refl _) m.RA m.rn m.rc m.rs hi.rr hi.rl hi.rcap.1 hi.rcap.2
      by_cases hall : MoveAll (regs.getD 14 0) (base + 8 * ws.length) m.words m.rs m.base N
      · refine ⟨0, regsW base (base + 8 * ws.length) (IntKind.u64.wrap (m.base + N - (base + 8 * ws.length))) m.rs regs (regs.getD 14 0), m.base, movedW base (base + 8 * ws.length) (IntKind.u64.wrap (m.base + N - (base + 8 * ws.length))) m.words ws mm ((N - 8 * U) / 8), fun h hi => (hp h hi).mono fun e w' hpost => ?_, fun h hi => ?_⟩
        · rcases hpost with ⟨_, he, sv', hc, hk, _⟩ | ⟨hno, _⟩
          · exact ⟨sv', he, hc, hk.mono fun i _ hi => .inl hi⟩
          · exact absurd hall hno
        · rw [hN]
          refine (hr h hi).mono fun e w' hpost => ?_
          rcases hpost with ⟨_, he, wg', hc, hk⟩ | ⟨hno, _⟩
          · exact ⟨wg', he, hc, hk⟩
          · exact absurd hall hno
      · refine ⟨2, regs, base, ws, fun h hi => (hp h hi).mono fun e w' hpost => ?_, fun h hi => ?_⟩
        · rcases hpost with ⟨ha, _⟩ | ⟨_, he, hb⟩
          · exact absurd ha hall
          · exact ⟨_, he, h.below hb, Keeps.of_below hb (Nat.le_refl _)⟩
        · rw [hN]
          refine (hr h hi).mono fun e w' hpost => ?_
          rcases hpost with ⟨ha, _⟩ | ⟨_, he, hb⟩
          · exact absurd ha hall
          · exact ⟨_, he, h.below hb, Keeps.of_below hb (Nat.le_refl _)⟩
    · refine ⟨2, regs, base, ws, fun h hi => (hp h hi).mono fun e w' hpost => ?_, fun h hi => ?_⟩
      · rcases hpost with ⟨ha, _⟩ | ⟨_, he, hb⟩
        · exact absurd ha.2.2 hmay
        · exact ⟨_, he, h.below hb, Keeps.of_below hb (Nat.le_refl _)⟩
      · refine (rmove_bad h m.base m.size _ _ hi.ub hi.us (fun hh => hmay (hN ▸ hh.1))).mono fun e w' hpost => ?_
        obtain ⟨he, d, rfl⟩ := hpost
        exact ⟨_, he, h.drewN d, Keeps.of_below (below_drewN (Below.refl _ _) d) (Nat.le_refl _)⟩
  · refine ⟨2, regs, base, ws, fun h hi => (move_bad h m.base m.size _ _ hi.ub hi.us hok).mono fun e w' hpost => ?_, fun h hi => (rmove_bad h m.base m.size _ _ hi.ub hi.us (fun hh => hok ?_)).mono fun e w' hpost => ?_⟩
    · obtain ⟨he, hb⟩ := hpost
      exact ⟨_, he, h.below hb, Keeps.of_below hb (Nat.le_refl _)⟩
    · obtain ⟨hm, h1, h2, h3, h4⟩ := hh
      obtain ⟨_, _, _, m4, m5, m6⟩ := hm
      exact ⟨⟨h1, h2⟩, by omega, h4, m4, m5⟩
    · obtain ⟨he, d, rfl⟩ := hpost
      exact ⟨_, he, h.drewN d, Keeps.of_below (below_drewN (Below.refl _ _) d) (Nat.le_refl _)⟩
end Go.Proofs.Ytndmhnmclogpcaa
