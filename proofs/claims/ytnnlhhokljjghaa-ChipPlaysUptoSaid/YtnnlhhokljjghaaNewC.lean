/- New with code, bad arguments; Decode of odd lengths. Conditions: the bytes lie in memory. -/
import Derived.Test.YtnnlhhokljjghaaPlainM
import Derived.Test.YtnnlhhokljjghaaStepP
set_option linter.unusedVariables false
set_option linter.unusedSimpArgs false
namespace Go.Proofs.Ytnnlhhokljjghaa
open Go.RowKit

set_option maxRecDepth 100000 in
set_option maxHeartbeats 1000000 in
theorem decode_odd (A : Option Addr) (n c : Nat) (w : World) (hn : n ≤ maxLen) (h8 : n % 8 ≠ 0) :
    Calls Try.prog 13 #[.slice A n c] w fun e w' => e = .returned (.tuple #[.slice none 0 0, .int .i64 200]) ∧ w = w' := by
  have hm8 : ((n : Int) % 8 != 0) = true := by simp; omega
  unfold maxLen at hn
  clear h8
  go_enter Try.func13, Try.ntmps13
  go_wp2_with fail
  go_ret2
  exact ⟨rfl, rfl⟩
set_option maxRecDepth 100000 in
set_option maxHeartbeats 1000000 in
theorem new_codeX (w : World) (base size : Int) (hm : MayP base size) (A : Option Addr) (n c : Nat) (xs : List Int) (l : List MInstD) (B : Nat) (hr : Reads w B 1 A n (byteVals xs)) (hl : xs.length = n) (hnc : n ≤ c) (hc : c ≤ maxLen) (hn : n ≤ 10000000000) (hB : B ≤ w.heap.size) (hb : ∀ x ∈ xs, 0 ≤ x ∧ x < 256) (h8 : n % 8 = 0) (hd : decM (n / 8) xs = some l) :
    Calls Try.prog 15 #[.slice A n c, .int .u64 base, .int .i64 size] w fun e w' => ∃ lo p A2 c2 sv, e = .returned (.tuple #[.pointer (some ⟨p, 0, none⟩), .int .i64 0]) ∧ ChipAt w' lo p (.slice A2 l.length c2) sv (regs0 (base + size)) 0 base (List.replicate (size / 8).toNat 0) ∧ CodeM w' lo A2 c2 l ∧ w.heap.size ≤ lo ∧ Below w.heap.size w w' ∧ ∀ ad, A2 = some ad → w.heap.size ≤ ad.block := by
  obtain ⟨i0, hi0, hz0, hz1, hz2⟩ := info_parts infoU8
  obtain ⟨h1, h2, h3, h4, h5, h6⟩ := id hm
  obtain ⟨s, rfl⟩ := Int.eq_ofNat_of_zero_le h4
  obtain ⟨hll, hlg⟩ := decM_all (n / 8) xs l hd hb
  have hmk : ∀ W : World, (Instr.makeSlice 23 (.int .i64 (s : Int)) (.int .i64 (s : Int))).run Try.prog W = .ok (.slice (some ⟨W.heap.size, 0, none⟩) s s) (W.alloc (.cells (madeCells #[.int .u8 0] s) 5)) := fun W => by
    have h := run_make_rowN (P := Try.prog) 23 5 i0 _ Try.underlying23 hi0 hz0 .i64 .i64 s s (Nat.le_refl _) (by rw [hz2]; omega) (by omega) W
    rw [hz1, Nat.mul_one] at h
    exact h
  have Hm := Lib.hid hm
  have H6 := Lib.hid h6
  have H3 := Lib.hid h3
  have Hr := Lib.hid hr
  have Hb := Lib.hid hb
  have Hd := Lib.hid hd
  have Hll := Lib.hid hll
  have Hlg := Lib.hid hlg
  have Hl := Lib.hid hl
  clear hl hlg hll hd hb hr h3 h6 hm
  go_enter Try.func15, Try.ntmps15
  go_wp2_with fail
  refine (decode_any A n c xs w B Hr.out Hl.out hnc hc hn hB Hb.out h8).mono ?_
  rintro e w1 ⟨hres, hb1⟩
  rcases hres with ⟨l2, cv, hd2, rfl, hown⟩ | ⟨hd2, _⟩
  case inr => rw [Hd.out] at hd2; cases hd2
  rw [Hd.out] at hd2
  injection hd2 with hd2
  subst hd2
  obtain ⟨A2, c2, rfl, hn2, hc2, hrd⟩ := own_any hown
  have hblk : ∀ ad, A2 = some ad → w.heap.size ≤ ad.block := fun ad e => by subst e; exact (hown.lt _ rfl).1
  have Hown := Lib.hid hown
  have Hrd := Lib.hid hrd
  have Hb1 := Lib.hid hb1
  have Hblk := Lib.hid hblk
  clear hblk hb1 hrd hown
  go_wp2_with fail
  refine (may_yes _ base _ Hm.out).mono ?_
  rintro e w2 ⟨rfl, rfl⟩
  go_wp2_with fail
  go_ret2
  obtain ⟨k, hk⟩ : ∃ k : Nat, s = 8 * k := ⟨s / 8, by have := H6.out; omega⟩
  have e : ((s : Int) / 8).toNat = k := by omega
  have hB0 : Blk (w1.alloc (.cells (madeCells #[.int .u8 0] s) 5)) w1.heap.size 5 (madeCells #[.int .u8 0] s) := Blk.new w1 _ _
  have hlen : n / 8 = l.length := Hll.out.symm
  rw [hlen]
  refine ⟨w1.heap.size, w1.heap.size + 1, A2, c2, .slice (some ⟨w1.heap.size, 0, none⟩) s s, rfl, ⟨Blk.new2 w1 _ _ _, rfl, ?_, by omega, by omega, ?_, ?_, ?_⟩, ⟨by rw [← hlen]; exact hn2, by rw [← hlen]; omega, ?_, fun i hi => (Hlg.out i hi).1, fun i hi => (Hlg.out i hi).2⟩, Hb1.out.size, (Hb1.out.alloc Hb1.out.size _).alloc (by have := Hb1.out.size; simp; omega) _, Hblk.out⟩
  · intro r hr
    simp only [regs0, List.mem_cons, List.not_mem_nil, or_false] at hr
    unfold U64
    omega
  · rw [e, flat_zero, List.length_replicate, ← hk]
    exact own_of_blk (hB0.alloc _) (Nat.le_refl _) (toList_madeCells_one _ _) (by simp) (by unfold maxLen; omega)
  · intro x hx
    rw [List.eq_of_mem_replicate hx]
    unfold U64; omega
  · rw [e, List.length_replicate]
    exact ⟨h1, h2, H3.out, by omega⟩
  · rw [← hlen]
    exact (Hrd.out).keep fun p hp => ((((Below.refl w1.heap.size w1).alloc (Nat.le_refl _) _).alloc (by simp) _).cell hp)
theorem new_code (w : World) (base size : Int) (hm : MayP base size) (A : Option Addr) (n c : Nat) (xs : List Int) (l : List MInstD) (B : Nat) (hr : Reads w B 1 A n (byteVals xs)) (hl : xs.length = n) (hnc : n ≤ c) (hc : c ≤ maxLen) (hn : n ≤ 10000000000) (hB : B ≤ w.heap.size) (hb : ∀ x ∈ xs, 0 ≤ x ∧ x < 256) (h8 : n % 8 = 0) (hd : decM (n / 8) xs = some l) :
    Calls Try.prog 15 #[.slice A n c, .int .u64 base, .int .i64 size] w fun e w' => ∃ lo p A2 c2 sv, e = .returned (.tuple #[.pointer (some ⟨p, 0, none⟩), .int .i64 0]) ∧ ChipAt w' lo p (.slice A2 l.length c2) sv (regs0 (base + size)) 0 base (List.replicate (size / 8).toNat 0) ∧ CodeM w' lo A2 c2 l ∧ w.heap.size ≤ lo ∧ Below w.heap.size w w' :=
  (new_codeX w base size hm A n c xs l B hr hl hnc hc hn hB hb h8 hd).mono fun e w' ⟨lo, p, A2, c2, sv, h1, h2, h3, h4, h5, _⟩ => ⟨lo, p, A2, c2, sv, h1, h2, h3, h4, h5⟩
set_option maxRecDepth 100000 in
set_option maxHeartbeats 1000000 in
theorem new_arg (w : World) (base size : Int) (hb0 : 0 ≤ base) (hm : ¬ MayP base size) (A : Option Addr) (n c : Nat) (xs : List Int) (l : List MInstD) (B : Nat) (hr : Reads w B 1 A n (byteVals xs)) (hl : xs.length = n) (hnc : n ≤ c) (hc : c ≤ maxLen) (hn : n ≤ 10000000000) (hB : B ≤ w.heap.size) (hb : ∀ x ∈ xs, 0 ≤ x ∧ x < 256) (h8 : n % 8 = 0) (hd : decM (n / 8) xs = some l) :
    Calls Try.prog 15 #[.slice A n c, .int .u64 base, .int .i64 size] w fun e w' => e = .returned (.tuple #[.pointer none, .int .i64 2]) ∧ Below w.heap.size w w' := by
  have Hm := Lib.hid hm
  have Hr := Lib.hid hr
  have Hb := Lib.hid hb
  have Hd := Lib.hid hd
  have Hl := Lib.hid hl
  clear hl hd hb hr hm
  go_enter Try.func15, Try.ntmps15
  go_wp2_with fail
  refine (decode_any A n c xs w B Hr.out Hl.out hnc hc hn hB Hb.out h8).mono ?_
  rintro e w1 ⟨hres, hb1⟩
  rcases hres with ⟨l2, cv, hd2, rfl, hown⟩ | ⟨hd2, _⟩
  case inr => rw [Hd.out] at hd2; cases hd2
  clear hown hd2
  go_wp2_with fail
  refine (may_no _ base _ hb0 Hm.out).mono ?_
  rintro e w2 ⟨rfl, rfl⟩
  go_wp2_with fail
  go_ret2
  exact ⟨rfl, hb1⟩
end Go.Proofs.Ytnnlhhokljjghaa
