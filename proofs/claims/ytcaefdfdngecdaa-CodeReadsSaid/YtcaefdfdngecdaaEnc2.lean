/- Walk of the writer of one instruction. Conditions: the instruction's numbers fit their kinds; the bytes written so far are the call's own. -/
import Derived.Test.YtcaefdfdngecdaaEnc1
import Derived.Deep.DeepMust
import Derived.KernelRfl
import Derived.Deep.RegionHeld3
import Derived.Deep.DeepCutAuto
set_option linter.unusedVariables false
set_option linter.unusedSimpArgs false
namespace Go.Proofs.Ytcaefdfdngecdaa
open Go.RowKit

def u64Of (a : Int) : Int := IntKind.u64.wrap a
def encI (i : InstrD) : List Int := i.op :: (if widthV i.op = 8 then bytesLE 8 i.imm else bytesLE (widthV i.op).toNat (u64Of i.arg))
def okI (i : InstrD) : Bool := decide (0 ≤ widthV i.op ∧ (widthV i.op = 8 ∧ i.arg = 0 ∨ ¬ widthV i.op = 8 ∧ i.imm = 0 ∧ 0 ≤ i.arg ∧ i.arg < 2 ^ (8 * (widthV i.op).toNat)))
theorem box_instr (w : World) (i : InstrD) : Blk (w.alloc (.cells #[.int .u8 i.op, .int .i64 i.arg, .int .u64 i.imm] 49)) w.heap.size 49 #[.int .u8 i.op, .int .i64 i.arg, .int .u64 i.imm] := Blk.new w _ _
set_option maxHeartbeats 1000000 in
theorem instr_eight (base m : Nat) (bv : Value) (xs : List Int) (op arg imm : Int) (w : World) (hown : w.ownsRow base 5 1 bv m (byteVals xs)) (hbase : base ≤ w.heap.size) (hm : m ≤ 140737488350000) (hi : U64 imm) (hw : widthV op = 8) :
    Calls Try.prog 35 #[bv, .agg #[.int .u8 op, .int .i64 arg, .int .u64 imm]] w fun e w' => ∃ sv, e = .returned (.tuple #[sv, .bool (arg == 0)]) ∧ w'.ownsRow base 5 1 sv (m + 9) (byteVals (xs ++ op :: bytesLE 8 imm)) ∧ Grows w w' bv sv := by
  obtain ⟨i0, hi0, hz0, hz1, hz2⟩ := info_parts infoU8
  have hblk := Blk.new w 49 #[.int .u8 op, .int .i64 arg, .int .u64 imm]
  have HB := Lib.hid hblk
  have HW := Lib.hid hw
  have hc0 : (w.alloc (.cells #[.int .u8 op, .int .i64 arg, .int .u64 imm] 49)).cell? ⟨w.heap.size, 0, none⟩ = some (.int .u8 op) := hblk.cell 0
  have hg0 : Grows w (w.alloc (.cells #[.int .u8 op, .int .i64 arg, .int .u64 imm] 49)) bv bv := (Grows.refl w bv).alloc _
  have hown1 := hown.alloc (.cells #[.int .u8 op, .int .i64 arg, .int .u64 imm] 49)
  clear hblk hw
  go_enter Try.func35, Try.ntmps35
  go_wp2_with fail
  refine (width_as op 8 _ HW.out).mono ?_
  rintro e w' ⟨rfl, rfl⟩
  go_wp2_with (first
    | (at_builtin
       go_must (refine wpList_append_any _ rfl (.tmp 21) (.tmp 24) _ rfl base 5 i0 _ 1 1 Try.underlying22 hi0 hz0 hz1 hz2 rfl (by omega) bv m (byteVals xs) rfl (hown1.alloc _) (w.heap.size + 2) (some ⟨w.heap.size + 1, 0, none⟩) 1 1 [.int .u8 op] rfl ?c0 ?c1 ?c2 ?c3 ?c4 ?_)
       case c0 => exact Reads.newAt _ (by simp) _ _
       case c1 => intro u hu; simp only [List.mem_singleton] at hu; subst hu; rfl
       case c2 => simp only [maxLen]; omega
       case c3 => omega
       case c4 => simp; omega
       intro v2 w2 hown2 hg2 hat2))
  have hne1 : bv.ownBlock ≠ some w.heap.size := fun h => by have := (hown.lt _ h).2; omega
  have hne2 : v2.ownBlock ≠ some w.heap.size := fun h => by
    rcases hat2 with e | e
    · rw [e] at h; exact hne1 h
    · rw [e] at h; injection h with h; simp only [World.size_alloc] at h; omega
  have hB2 : Blk w2 w.heap.size 49 #[.int .u8 op, .int .i64 arg, .int .u64 imm] := (HB.out.alloc _).grown hg2 (Ne.symm hne1)
  have hgr2 : Grows w w2 bv v2 := (hg0.alloc _).step hg2 hat2
  have hd1 : w2.cell? ⟨w.heap.size, 1, none⟩ = some (.int .i64 arg) := hB2.cell 1
  have hd2 : w2.cell? ⟨w.heap.size, 2, none⟩ = some (.int .u64 imm) := hB2.cell 2
  have hsz2 := hgr2.size
  clear hg2 hat2 hc0 hg0 hown1
  go_region_held3 (fun W => W.cell? ⟨w.heap.size, 1, none⟩ = some (.int .i64 arg) ∧ W.cell? ⟨w.heap.size, 2, none⟩ = some (.int .u64 imm))
    (first
      | (have hb := hgr3.blk hB2.drew hne2
         exact ⟨hb.cell 1, hb.cell 2⟩)
      | exact ⟨hd1, hd2⟩)
    (first | (go_at_call 34; refine (put_own base (m + 1) v2 (xs ++ [op]) imm 8 _ ?_ (by simp; omega) (by omega) hi (by omega) (by omega)).mono ?_; (simpa [byteVals] using hown2.drew); rintro e w3 ⟨sv, rfl, hown3, hgr3⟩))
  go_wp2_with fail
  go_ret2
  refine ⟨sv, rfl, ?_, hgr2.drew.trans hgr3⟩
  simpa [byteVals, Nat.add_assoc] using hown3

set_option maxHeartbeats 1000000 in
theorem instr_0p (base m : Nat) (bv : Value) (xs : List Int) (op arg : Int) (w : World) (hown : w.ownsRow base 5 1 bv m (byteVals xs)) (hbase : base ≤ w.heap.size) (hm : m ≤ 140737488350000) (hw : widthV op = 0) (hI : I64 arg) (hs : 0 ≤ arg) :
    Calls Try.prog 35 #[bv, .agg #[.int .u8 op, .int .i64 arg, .int .u64 0]] w fun e w' => ∃ sv, e = .returned (.tuple #[sv, .bool (decide (0 ≤ arg) && decide (arg < 1))]) ∧ w'.ownsRow base 5 1 sv (m + 1 + 0) (byteVals (xs ++ op :: bytesLE 0 (u64Of arg))) ∧ Grows w w' bv sv := by
  obtain ⟨i0, hi0, hz0, hz1, hz2⟩ := info_parts infoU8
  have hblk := Blk.new w 49 #[.int .u8 op, .int .i64 arg, .int .u64 0]
  have HB := Lib.hid hblk
  have HW := Lib.hid hw
  have hc0 : (w.alloc (.cells #[.int .u8 op, .int .i64 arg, .int .u64 0] 49)).cell? ⟨w.heap.size, 0, none⟩ = some (.int .u8 op) := hblk.cell 0
  have hg0 : Grows w (w.alloc (.cells #[.int .u8 op, .int .i64 arg, .int .u64 0] 49)) bv bv := (Grows.refl w bv).alloc _
  have hown1 := hown.alloc (.cells #[.int .u8 op, .int .i64 arg, .int .u64 0] 49)
  have hcx : (w.alloc (.cells #[.int .u8 op, .int .i64 arg, .int .u64 0] 49)).cell? ⟨w.heap.size, 2, none⟩ = some (.int .u64 0) := hblk.cell 2
  unfold I64 at hI
  obtain ⟨hI0, hI1⟩ := hI
  have hD : decide (0 ≤ arg) = true := by simpa using hs
  clear hblk hw
  go_enter Try.func35, Try.ntmps35
  go_wp2_with fail
  refine (width_as op 0 _ HW.out).mono ?_
  rintro e w' ⟨rfl, rfl⟩
  go_wp2_with (first
    | (at_builtin
       go_must (refine wpList_append_any _ rfl (.tmp 21) (.tmp 24) _ rfl base 5 i0 _ 1 1 Try.underlying22 hi0 hz0 hz1 hz2 rfl (by omega) bv m (byteVals xs) rfl (hown1.alloc _) (w.heap.size + 2) (some ⟨w.heap.size + 1, 0, none⟩) 1 1 [.int .u8 op] rfl ?c0 ?c1 ?c2 ?c3 ?c4 ?_)
       case c0 => exact Reads.newAt _ (by simp) _ _
       case c1 => intro u hu; simp only [List.mem_singleton] at hu; subst hu; rfl
       case c2 => simp only [maxLen]; omega
       case c3 => omega
       case c4 => simp; omega
       intro v2 w2 hown2 hg2 hat2))
  have hne1 : bv.ownBlock ≠ some w.heap.size := fun h => by have := (hown.lt _ h).2; omega
  have hne2 : v2.ownBlock ≠ some w.heap.size := fun h => by
    rcases hat2 with e | e
    · rw [e] at h; exact hne1 h
    · rw [e] at h; injection h with h; simp only [World.size_alloc] at h; omega
  have hB2 : Blk w2 w.heap.size 49 #[.int .u8 op, .int .i64 arg, .int .u64 0] := (HB.out.alloc _).grown hg2 (Ne.symm hne1)
  have hgr2 : Grows w w2 bv v2 := (hg0.alloc _).step hg2 hat2
  have hd1 : w2.cell? ⟨w.heap.size, 1, none⟩ = some (.int .i64 arg) := hB2.cell 1
  have hd2 : w2.cell? ⟨w.heap.size, 2, none⟩ = some (.int .u64 0) := hB2.cell 2
  have hsz2 := hgr2.size
  clear hg2 hat2 hc0 hcx hg0 hown1
  go_region_held3 (fun W => W.cell? ⟨w.heap.size, 1, none⟩ = some (.int .i64 arg) ∧ W.cell? ⟨w.heap.size, 2, none⟩ = some (.int .u64 0))
    (first
      | (have hb := hgr3.blk hB2.drew hne2
         exact ⟨hb.cell 1, hb.cell 2⟩)
      | exact ⟨hd1, hd2⟩)
    (first | (go_at_call 34; refine (put_own base (m + 1) v2 (xs ++ [op]) (u64Of arg) 0 _ ?_ (by simp; omega) (by omega) (by unfold u64Of U64; rw [IntKind.wrap_u64]; omega) (by omega) (by omega)).mono ?_; (simpa [byteVals] using hown2.drew); rintro e w3 ⟨sv, rfl, hown3, hgr3⟩))
  go_wp2_with fail
  go_ret2
  refine ⟨sv, by first | rfl | (simp [hD, show IntKind.i64.wrap (2 ^ min (IntKind.u64.wrap (IntKind.i64.wrap 0)).toNat 64) = 1 from by kernel_rfl]), ?_, hgr2.drew.trans hgr3⟩
  simpa [byteVals, Nat.add_assoc] using hown3
set_option maxHeartbeats 1000000 in
theorem instr_1p (base m : Nat) (bv : Value) (xs : List Int) (op arg : Int) (w : World) (hown : w.ownsRow base 5 1 bv m (byteVals xs)) (hbase : base ≤ w.heap.size) (hm : m ≤ 140737488350000) (hw : widthV op = 1) (hI : I64 arg) (hs : 0 ≤ arg) :
    Calls Try.prog 35 #[bv, .agg #[.int .u8 op, .int .i64 arg, .int .u64 0]] w fun e w' => ∃ sv, e = .returned (.tuple #[sv, .bool (decide (0 ≤ arg) && decide (arg < 256))]) ∧ w'.ownsRow base 5 1 sv (m + 1 + 1) (byteVals (xs ++ op :: bytesLE 1 (u64Of arg))) ∧ Grows w w' bv sv := by
  obtain ⟨i0, hi0, hz0, hz1, hz2⟩ := info_parts infoU8
  have hblk := Blk.new w 49 #[.int .u8 op, .int .i64 arg, .int .u64 0]
  have HB := Lib.hid hblk
  have HW := Lib.hid hw
  have hc0 : (w.alloc (.cells #[.int .u8 op, .int .i64 arg, .int .u64 0] 49)).cell? ⟨w.heap.size, 0, none⟩ = some (.int .u8 op) := hblk.cell 0
  have hg0 : Grows w (w.alloc (.cells #[.int .u8 op, .int .i64 arg, .int .u64 0] 49)) bv bv := (Grows.refl w bv).alloc _
  have hown1 := hown.alloc (.cells #[.int .u8 op, .int .i64 arg, .int .u64 0] 49)
  have hcx : (w.alloc (.cells #[.int .u8 op, .int .i64 arg, .int .u64 0] 49)).cell? ⟨w.heap.size, 2, none⟩ = some (.int .u64 0) := hblk.cell 2
  unfold I64 at hI
  obtain ⟨hI0, hI1⟩ := hI
  have hD : decide (0 ≤ arg) = true := by simpa using hs
  clear hblk hw
  go_enter Try.func35, Try.ntmps35
  go_wp2_with fail
  refine (width_as op 1 _ HW.out).mono ?_
  rintro e w' ⟨rfl, rfl⟩
  go_wp2_with (first
    | (at_builtin
       go_must (refine wpList_append_any _ rfl (.tmp 21) (.tmp 24) _ rfl base 5 i0 _ 1 1 Try.underlying22 hi0 hz0 hz1 hz2 rfl (by omega) bv m (byteVals xs) rfl (hown1.alloc _) (w.heap.size + 2) (some ⟨w.heap.size + 1, 0, none⟩) 1 1 [.int .u8 op] rfl ?c0 ?c1 ?c2 ?c3 ?c4 ?_)
       case c0 => exact Reads.newAt _ (by simp) _ _
       case c1 => intro u hu; simp only [List.mem_singleton] at hu; subst hu; rfl
       case c2 => simp only [maxLen]; omega
       case c3 => omega
       case c4 => simp; omega
       intro v2 w2 hown2 hg2 hat2))
  have hne1 : bv.ownBlock ≠ some w.heap.size := fun h => by have := (hown.lt _ h).2; omega
  have hne2 : v2.ownBlock ≠ some w.heap.size := fun h => by
    rcases hat2 with e | e
    · rw [e] at h; exact hne1 h
    · rw [e] at h; injection h with h; simp only [World.size_alloc] at h; omega
  have hB2 : Blk w2 w.heap.size 49 #[.int .u8 op, .int .i64 arg, .int .u64 0] := (HB.out.alloc _).grown hg2 (Ne.symm hne1)
  have hgr2 : Grows w w2 bv v2 := (hg0.alloc _).step hg2 hat2
  have hd1 : w2.cell? ⟨w.heap.size, 1, none⟩ = some (.int .i64 arg) := hB2.cell 1
  have hd2 : w2.cell? ⟨w.heap.size, 2, none⟩ = some (.int .u64 0) := hB2.cell 2
  have hsz2 := hgr2.size
  clear hg2 hat2 hc0 hcx hg0 hown1
  go_region_held3 (fun W => W.cell? ⟨w.heap.size, 1, none⟩ = some (.int .i64 arg) ∧ W.cell? ⟨w.heap.size, 2, none⟩ = some (.int .u64 0))
    (first
      | (have hb := hgr3.blk hB2.drew hne2
         exact ⟨hb.cell 1, hb.cell 2⟩)
      | exact ⟨hd1, hd2⟩)
    (first | (go_at_call 34; refine (put_own base (m + 1) v2 (xs ++ [op]) (u64Of arg) 1 _ ?_ (by simp; omega) (by omega) (by unfold u64Of U64; rw [IntKind.wrap_u64]; omega) (by omega) (by omega)).mono ?_; (simpa [byteVals] using hown2.drew); rintro e w3 ⟨sv, rfl, hown3, hgr3⟩))
  go_wp2_with fail
  go_ret2
  refine ⟨sv, by first | rfl | (simp [hD, show IntKind.i64.wrap (2 ^ min (IntKind.u64.wrap (IntKind.i64.wrap 8)).toNat 64) = 256 from by kernel_rfl]), ?_, hgr2.drew.trans hgr3⟩
  simpa [byteVals, Nat.add_assoc] using hown3
set_option maxHeartbeats 1000000 in
theorem instr_2p (base m : Nat) (bv : Value) (xs : List Int) (op arg : Int) (w : World) (hown : w.ownsRow base 5 1 bv m (byteVals xs)) (hbase : base ≤ w.heap.size) (hm : m ≤ 140737488350000) (hw : widthV op = 2) (hI : I64 arg) (hs : 0 ≤ arg) :
    Calls Try.prog 35 #[bv, .agg #[.int .u8 op, .int .i64 arg, .int .u64 0]] w fun e w' => ∃ sv, e = .returned (.tuple #[sv, .bool (decide (0 ≤ arg) && decide (arg < 65536))]) ∧ w'.ownsRow base 5 1 sv (m + 1 + 2) (byteVals (xs ++ op :: bytesLE 2 (u64Of arg))) ∧ Grows w w' bv sv := by
  obtain ⟨i0, hi0, hz0, hz1, hz2⟩ := info_parts infoU8
  have hblk := Blk.new w 49 #[.int .u8 op, .int .i64 arg, .int .u64 0]
  have HB := Lib.hid hblk
  have HW := Lib.hid hw
  have hc0 : (w.alloc (.cells #[.int .u8 op, .int .i64 arg, .int .u64 0] 49)).cell? ⟨w.heap.size, 0, none⟩ = some (.int .u8 op) := hblk.cell 0
  have hg0 : Grows w (w.alloc (.cells #[.int .u8 op, .int .i64 arg, .int .u64 0] 49)) bv bv := (Grows.refl w bv).alloc _
  have hown1 := hown.alloc (.cells #[.int .u8 op, .int .i64 arg, .int .u64 0] 49)
  have hcx : (w.alloc (.cells #[.int .u8 op, .int .i64 arg, .int .u64 0] 49)).cell? ⟨w.heap.size, 2, none⟩ = some (.int .u64 0) := hblk.cell 2
  unfold I64 at hI
  obtain ⟨hI0, hI1⟩ := hI
  have hD : decide (0 ≤ arg) = true := by simpa using hs
  clear hblk hw
  go_enter Try.func35, Try.ntmps35
  go_wp2_with fail
  refine (width_as op 2 _ HW.out).mono ?_
  rintro e w' ⟨rfl, rfl⟩
  go_wp2_with (first
    | (at_builtin
       go_must (refine wpList_append_any _ rfl (.tmp 21) (.tmp 24) _ rfl base 5 i0 _ 1 1 Try.underlying22 hi0 hz0 hz1 hz2 rfl (by omega) bv m (byteVals xs) rfl (hown1.alloc _) (w.heap.size + 2) (some ⟨w.heap.size + 1, 0, none⟩) 1 1 [.int .u8 op] rfl ?c0 ?c1 ?c2 ?c3 ?c4 ?_)
       case c0 => exact Reads.newAt _ (by simp) _ _
       case c1 => intro u hu; simp only [List.mem_singleton] at hu; subst hu; rfl
       case c2 => simp only [maxLen]; omega
       case c3 => omega
       case c4 => simp; omega
       intro v2 w2 hown2 hg2 hat2))
  have hne1 : bv.ownBlock ≠ some w.heap.size := fun h => by have := (hown.lt _ h).2; omega
  have hne2 : v2.ownBlock ≠ some w.heap.size := fun h => by
    rcases hat2 with e | e
    · rw [e] at h; exact hne1 h
    · rw [e] at h; injection h with h; simp only [World.size_alloc] at h; omega
  have hB2 : Blk w2 w.heap.size 49 #[.int .u8 op, .int .i64 arg, .int .u64 0] := (HB.out.alloc _).grown hg2 (Ne.symm hne1)
  have hgr2 : Grows w w2 bv v2 := (hg0.alloc _).step hg2 hat2
  have hd1 : w2.cell? ⟨w.heap.size, 1, none⟩ = some (.int .i64 arg) := hB2.cell 1
  have hd2 : w2.cell? ⟨w.heap.size, 2, none⟩ = some (.int .u64 0) := hB2.cell 2
  have hsz2 := hgr2.size
  clear hg2 hat2 hc0 hcx hg0 hown1
  go_region_held3 (fun W => W.cell? ⟨w.heap.size, 1, none⟩ = some (.int .i64 arg) ∧ W.cell? ⟨w.heap.size, 2, none⟩ = some (.int .u64 0))
    (first
      | (have hb := hgr3.blk hB2.drew hne2
         exact ⟨hb.cell 1, hb.cell 2⟩)
      | exact ⟨hd1, hd2⟩)
    (first | (go_at_call 34; refine (put_own base (m + 1) v2 (xs ++ [op]) (u64Of arg) 2 _ ?_ (by simp; omega) (by omega) (by unfold u64Of U64; rw [IntKind.wrap_u64]; omega) (by omega) (by omega)).mono ?_; (simpa [byteVals] using hown2.drew); rintro e w3 ⟨sv, rfl, hown3, hgr3⟩))
  go_wp2_with fail
  go_ret2
  refine ⟨sv, by first | rfl | (simp [hD, show IntKind.i64.wrap (2 ^ min (IntKind.u64.wrap (IntKind.i64.wrap 16)).toNat 64) = 65536 from by kernel_rfl]), ?_, hgr2.drew.trans hgr3⟩
  simpa [byteVals, Nat.add_assoc] using hown3
set_option maxHeartbeats 1000000 in
theorem instr_0n (base m : Nat) (bv : Value) (xs : List Int) (op arg : Int) (w : World) (hown : w.ownsRow base 5 1 bv m (byteVals xs)) (hbase : base ≤ w.heap.size) (hm : m ≤ 140737488350000) (hw : widthV op = 0) (hI : I64 arg) (hs : arg < 0) :
    Calls Try.prog 35 #[bv, .agg #[.int .u8 op, .int .i64 arg, .int .u64 0]] w fun e w' => ∃ sv, e = .returned (.tuple #[sv, .bool (decide (0 ≤ arg) && decide (arg < 1))]) ∧ w'.ownsRow base 5 1 sv (m + 1 + 0) (byteVals (xs ++ op :: bytesLE 0 (u64Of arg))) ∧ Grows w w' bv sv := by
  obtain ⟨i0, hi0, hz0, hz1, hz2⟩ := info_parts infoU8
  have hblk := Blk.new w 49 #[.int .u8 op, .int .i64 arg, .int .u64 0]
  have HB := Lib.hid hblk
  have HW := Lib.hid hw
  have hc0 : (w.alloc (.cells #[.int .u8 op, .int .i64 arg, .int .u64 0] 49)).cell? ⟨w.heap.size, 0, none⟩ = some (.int .u8 op) := hblk.cell 0
  have hg0 : Grows w (w.alloc (.cells #[.int .u8 op, .int .i64 arg, .int .u64 0] 49)) bv bv := (Grows.refl w bv).alloc _
  have hown1 := hown.alloc (.cells #[.int .u8 op, .int .i64 arg, .int .u64 0] 49)
  have hcx : (w.alloc (.cells #[.int .u8 op, .int .i64 arg, .int .u64 0] 49)).cell? ⟨w.heap.size, 2, none⟩ = some (.int .u64 0) := hblk.cell 2
  unfold I64 at hI
  obtain ⟨hI0, hI1⟩ := hI
  have hD : decide (0 ≤ arg) = false := by simpa using hs
  clear hblk hw
  go_enter Try.func35, Try.ntmps35
  go_wp2_with fail
  refine (width_as op 0 _ HW.out).mono ?_
  rintro e w' ⟨rfl, rfl⟩
  go_wp2_with (first
    | (at_builtin
       go_must (refine wpList_append_any _ rfl (.tmp 21) (.tmp 24) _ rfl base 5 i0 _ 1 1 Try.underlying22 hi0 hz0 hz1 hz2 rfl (by omega) bv m (byteVals xs) rfl (hown1.alloc _) (w.heap.size + 2) (some ⟨w.heap.size + 1, 0, none⟩) 1 1 [.int .u8 op] rfl ?c0 ?c1 ?c2 ?c3 ?c4 ?_)
       case c0 => exact Reads.newAt _ (by simp) _ _
       case c1 => intro u hu; simp only [List.mem_singleton] at hu; subst hu; rfl
       case c2 => simp only [maxLen]; omega
       case c3 => omega
       case c4 => simp; omega
       intro v2 w2 hown2 hg2 hat2))
  have hne1 : bv.ownBlock ≠ some w.heap.size := fun h => by have := (hown.lt _ h).2; omega
  have hne2 : v2.ownBlock ≠ some w.heap.size := fun h => by
    rcases hat2 with e | e
    · rw [e] at h; exact hne1 h
    · rw [e] at h; injection h with h; simp only [World.size_alloc] at h; omega
  have hB2 : Blk w2 w.heap.size 49 #[.int .u8 op, .int .i64 arg, .int .u64 0] := (HB.out.alloc _).grown hg2 (Ne.symm hne1)
  have hgr2 : Grows w w2 bv v2 := (hg0.alloc _).step hg2 hat2
  have hd1 : w2.cell? ⟨w.heap.size, 1, none⟩ = some (.int .i64 arg) := hB2.cell 1
  have hd2 : w2.cell? ⟨w.heap.size, 2, none⟩ = some (.int .u64 0) := hB2.cell 2
  have hsz2 := hgr2.size
  clear hg2 hat2 hc0 hcx hg0 hown1
  refine wp_region_noPanic ?_
  refine wp_region_held_drew (S := fun W => W.cell? ⟨w.heap.size, 1, none⟩ = some (.int .i64 arg) ∧ W.cell? ⟨w.heap.size, 2, none⟩ = some (.int .u64 0)) (by kernel_rfl) ⟨hd1, hd2⟩ (fun hHeld => ?_)
  refine wpAnyH_take (i := 0) (v := ?_) rfl (by kernel_rfl) (by kernel_rfl) (by kernel_rfl) (fun _ _ _ h => h) (Or.inl ⟨by rfl, ?_⟩) (by assumption) ?_
  rotate_left
  · intro w hSw; (try dsimp only at hSw); go_simp; try with_reducible rfl
  simp only [Act.put, List.getElem_toArray, List.getElem_cons_zero, List.getElem_cons_succ, List.setIfInBounds_toArray, List.set_cons_zero, List.set_cons_succ]
  refine wpAnyH_take (i := 1) (v := ?_) rfl (by kernel_rfl) (by kernel_rfl) (by kernel_rfl) (fun _ _ _ h => h) (Or.inl ⟨by rfl, ?_⟩) (by assumption) ?_
  rotate_left
  · intro w hSw; (try dsimp only at hSw); go_simp; try with_reducible rfl
  simp only [Act.put, List.getElem_toArray, List.getElem_cons_zero, List.getElem_cons_succ, List.setIfInBounds_toArray, List.set_cons_zero, List.set_cons_succ]
  refine wpAnyH_take (i := 2) (v := ?_) rfl (by kernel_rfl) (by kernel_rfl) (by kernel_rfl) (fun _ _ _ h => h) (Or.inl ⟨by rfl, ?_⟩) (by assumption) ?_
  rotate_left
  · intro w hSw; (try dsimp only at hSw); go_simp; try with_reducible rfl
  simp only [Act.put, List.getElem_toArray, List.getElem_cons_zero, List.getElem_cons_succ, List.setIfInBounds_toArray, List.set_cons_zero, List.set_cons_succ]
  refine wpAnyH_take (i := 3) (v := ?_) rfl (by kernel_rfl) (by kernel_rfl) (by kernel_rfl) (fun _ _ _ h => h) (Or.inl ⟨by rfl, ?_⟩) (by assumption) ?_
  rotate_left
  · intro w hSw; (try dsimp only at hSw); go_simp; try with_reducible rfl
  simp only [Act.put, List.getElem_toArray, List.getElem_cons_zero, List.getElem_cons_succ, List.setIfInBounds_toArray, List.set_cons_zero, List.set_cons_succ]
  refine wpAnyH_take (i := 4) (v := ?_) rfl (by kernel_rfl) (by kernel_rfl) (by kernel_rfl) (fun _ _ _ h => h) (Or.inl ⟨by rfl, ?_⟩) (by assumption) ?_
  rotate_left
  · intro w hSw; (try dsimp only at hSw); go_simp; try with_reducible rfl
  simp only [Act.put, List.getElem_toArray, List.getElem_cons_zero, List.getElem_cons_succ, List.setIfInBounds_toArray, List.set_cons_zero, List.set_cons_succ]
  refine wpAnyH_take (i := 6) (v := ?_) rfl (by kernel_rfl) (by kernel_rfl) (by kernel_rfl) (fun _ _ _ h => h) (Or.inl ⟨by rfl, ?_⟩) (by assumption) ?_
  rotate_left
  · intro w hSw; (try dsimp only at hSw); go_simp; try with_reducible rfl
  simp only [Act.put, List.getElem_toArray, List.getElem_cons_zero, List.getElem_cons_succ, List.setIfInBounds_toArray, List.set_cons_zero, List.set_cons_succ]
  refine wpAnyH_take (i := 7) (v := ?_) rfl (by kernel_rfl) (by kernel_rfl) (by kernel_rfl) (fun _ _ _ h => h) (Or.inl ⟨by rfl, ?_⟩) (by assumption) ?_
  rotate_left
  · intro w hSw; (try dsimp only at hSw); go_simp; try with_reducible rfl
  simp only [Act.put, List.getElem_toArray, List.getElem_cons_zero, List.getElem_cons_succ, List.setIfInBounds_toArray, List.set_cons_zero, List.set_cons_succ]
  refine wpAnyH_take (i := 8) (v := ?_) rfl (by kernel_rfl) (by kernel_rfl) (by kernel_rfl) (fun _ _ _ h => h) (Or.inl ⟨by rfl, ?_⟩) (by assumption) ?_
  rotate_left
  · intro w hSw; (try dsimp only at hSw); go_simp; try with_reducible rfl
  simp only [Act.put, List.getElem_toArray, List.getElem_cons_zero, List.getElem_cons_succ, List.setIfInBounds_toArray, List.set_cons_zero, List.set_cons_succ]
  refine wpAnyH_ready (rs := [5]) (by kernel_rfl) (by simp) ?_
  refine AllReadyH.cons rfl (fun K hK => ?_) AllReadyH.nil
  go_simp
  refine (put_own base (m + 1) v2 (xs ++ [op]) (u64Of arg) 0 _ (by simpa [byteVals] using hown2.drew) (by simp; omega) (by omega) (by unfold u64Of U64; rw [IntKind.wrap_u64]; omega) (by omega) (by omega)).mono ?_
  rintro e w3 ⟨sv, rfl, hown3, hgr3⟩
  refine hK.out _ _ (by have hb := hgr3.blk hB2.drew hne2; exact ⟨hb.cell 1, hb.cell 2⟩) (fun hHeld2 => ?_)
  clear hK K hHeld
  try simp only [Act.put, List.getElem_toArray, List.getElem_cons_zero, List.getElem_cons_succ, List.setIfInBounds_toArray, List.set_cons_zero, List.set_cons_succ]
  refine wpAnyH_take (i := 9) (v := ?_) rfl (by kernel_rfl) (by kernel_rfl) (by kernel_rfl) (fun _ _ _ h => h) (Or.inl ⟨by rfl, ?_⟩) (by assumption) ?_
  rotate_left
  · intro w hSw; (try dsimp only at hSw); go_simp; try with_reducible rfl
  simp only [Act.put, List.getElem_toArray, List.getElem_cons_zero, List.getElem_cons_succ, List.setIfInBounds_toArray, List.set_cons_zero, List.set_cons_succ]
  refine wpAnyH_take (i := 10) (v := undef) rfl (by kernel_rfl) (by kernel_rfl) (by kernel_rfl) (fun _ _ _ h => h) (Or.inr ⟨by rfl, rfl⟩) (by assumption) ?_
  simp only [Act.put, List.getElem_toArray, List.getElem_cons_zero, List.getElem_cons_succ, List.setIfInBounds_toArray, List.set_cons_zero, List.set_cons_succ]
  refine wpAnyH_take (i := 11) (v := undef) rfl (by kernel_rfl) (by kernel_rfl) (by kernel_rfl) (fun _ _ _ h => h) (Or.inr ⟨by rfl, rfl⟩) (by assumption) ?_
  simp only [Act.put, List.getElem_toArray, List.getElem_cons_zero, List.getElem_cons_succ, List.setIfInBounds_toArray, List.set_cons_zero, List.set_cons_succ]
  refine wpAnyH_take (i := 12) (v := undef) rfl (by kernel_rfl) (by kernel_rfl) (by kernel_rfl) (fun _ _ _ h => h) (Or.inr ⟨by rfl, rfl⟩) (by assumption) ?_
  simp only [Act.put, List.getElem_toArray, List.getElem_cons_zero, List.getElem_cons_succ, List.setIfInBounds_toArray, List.set_cons_zero, List.set_cons_succ]
  refine wpAnyH_take (i := 13) (v := undef) rfl (by kernel_rfl) (by kernel_rfl) (by kernel_rfl) (fun _ _ _ h => h) (Or.inr ⟨by rfl, rfl⟩) (by assumption) ?_
  simp only [Act.put, List.getElem_toArray, List.getElem_cons_zero, List.getElem_cons_succ, List.setIfInBounds_toArray, List.set_cons_zero, List.set_cons_succ]
  refine wpAnyH_take (i := 14) (v := undef) rfl (by kernel_rfl) (by kernel_rfl) (by kernel_rfl) (fun _ _ _ h => h) (Or.inr ⟨by rfl, rfl⟩) (by assumption) ?_
  simp only [Act.put, List.getElem_toArray, List.getElem_cons_zero, List.getElem_cons_succ, List.setIfInBounds_toArray, List.set_cons_zero, List.set_cons_succ]
  refine wpAnyH_take (i := 15) (v := undef) rfl (by kernel_rfl) (by kernel_rfl) (by kernel_rfl) (fun _ _ _ h => h) (Or.inr ⟨by rfl, rfl⟩) (by assumption) ?_
  simp only [Act.put, List.getElem_toArray, List.getElem_cons_zero, List.getElem_cons_succ, List.setIfInBounds_toArray, List.set_cons_zero, List.set_cons_succ]
  refine wpAnyH_take (i := 16) (v := undef) rfl (by kernel_rfl) (by kernel_rfl) (by kernel_rfl) (fun _ _ _ h => h) (Or.inr ⟨by rfl, rfl⟩) (by assumption) ?_
  simp only [Act.put, List.getElem_toArray, List.getElem_cons_zero, List.getElem_cons_succ, List.setIfInBounds_toArray, List.set_cons_zero, List.set_cons_succ]
  refine wpAnyH_take (i := 17) (v := ?_) rfl (by kernel_rfl) (by kernel_rfl) (by kernel_rfl) (fun _ _ _ h => h) (Or.inl ⟨by rfl, ?_⟩) (by assumption) ?_
  rotate_left
  · intro w hSw; (try dsimp only at hSw); go_simp; try with_reducible rfl
  simp only [Act.put, List.getElem_toArray, List.getElem_cons_zero, List.getElem_cons_succ, List.setIfInBounds_toArray, List.set_cons_zero, List.set_cons_succ]
  refine wpAnyH_take (i := 18) (v := ?_) rfl (by kernel_rfl) (by kernel_rfl) (by kernel_rfl) (fun _ _ _ h => h) (Or.inl ⟨by rfl, ?_⟩) (by assumption) ?_
  rotate_left
  · intro w hSw; (try dsimp only at hSw); go_simp; try with_reducible rfl
  simp only [Act.put, List.getElem_toArray, List.getElem_cons_zero, List.getElem_cons_succ, List.setIfInBounds_toArray, List.set_cons_zero, List.set_cons_succ]
  refine wpAnyH_take (i := 19) (v := ?_) rfl (by kernel_rfl) (by kernel_rfl) (by kernel_rfl) (fun _ _ _ h => h) (Or.inl ⟨by rfl, ?_⟩) (by assumption) ?_
  rotate_left
  · intro w hSw; (try dsimp only at hSw); go_simp; try with_reducible rfl
  simp only [Act.put, List.getElem_toArray, List.getElem_cons_zero, List.getElem_cons_succ, List.setIfInBounds_toArray, List.set_cons_zero, List.set_cons_succ]
  refine wpAnyH_done (by kernel_rfl) ?_ _
  refine NoPanic.normal ?_
  go_wp2_with fail
  go_ret2
  refine ⟨sv, by first | rfl | (simp [hD]), ?_, hgr2.drew.trans hgr3⟩
  simpa [byteVals, Nat.add_assoc] using hown3
set_option maxHeartbeats 1000000 in
theorem instr_1n (base m : Nat) (bv : Value) (xs : List Int) (op arg : Int) (w : World) (hown : w.ownsRow base 5 1 bv m (byteVals xs)) (hbase : base ≤ w.heap.size) (hm : m ≤ 140737488350000) (hw : widthV op = 1) (hI : I64 arg) (hs : arg < 0) :
    Calls Try.prog 35 #[bv, .agg #[.int .u8 op, .int .i64 arg, .int .u64 0]] w fun e w' => ∃ sv, e = .returned (.tuple #[sv, .bool (decide (0 ≤ arg) && decide (arg < 256))]) ∧ w'.ownsRow base 5 1 sv (m + 1 + 1) (byteVals (xs ++ op :: bytesLE 1 (u64Of arg))) ∧ Grows w w' bv sv := by
  obtain ⟨i0, hi0, hz0, hz1, hz2⟩ := info_parts infoU8
  have hblk := Blk.new w 49 #[.int .u8 op, .int .i64 arg, .int .u64 0]
  have HB := Lib.hid hblk
  have HW := Lib.hid hw
  have hc0 : (w.alloc (.cells #[.int .u8 op, .int .i64 arg, .int .u64 0] 49)).cell? ⟨w.heap.size, 0, none⟩ = some (.int .u8 op) := hblk.cell 0
  have hg0 : Grows w (w.alloc (.cells #[.int .u8 op, .int .i64 arg, .int .u64 0] 49)) bv bv := (Grows.refl w bv).alloc _
  have hown1 := hown.alloc (.cells #[.int .u8 op, .int .i64 arg, .int .u64 0] 49)
  have hcx : (w.alloc (.cells #[.int .u8 op, .int .i64 arg, .int .u64 0] 49)).cell? ⟨w.heap.size, 2, none⟩ = some (.int .u64 0) := hblk.cell 2
  unfold I64 at hI
  obtain ⟨hI0, hI1⟩ := hI
  have hD : decide (0 ≤ arg) = false := by simpa using hs
  clear hblk hw
  go_enter Try.func35, Try.ntmps35
  go_wp2_with fail
  refine (width_as op 1 _ HW.out).mono ?_
  rintro e w' ⟨rfl, rfl⟩
  go_wp2_with (first
    | (at_builtin
       go_must (refine wpList_append_any _ rfl (.tmp 21) (.tmp 24) _ rfl base 5 i0 _ 1 1 Try.underlying22 hi0 hz0 hz1 hz2 rfl (by omega) bv m (byteVals xs) rfl (hown1.alloc _) (w.heap.size + 2) (some ⟨w.heap.size + 1, 0, none⟩) 1 1 [.int .u8 op] rfl ?c0 ?c1 ?c2 ?c3 ?c4 ?_)
       case c0 => exact Reads.newAt _ (by simp) _ _
       case c1 => intro u hu; simp only [List.mem_singleton] at hu; subst hu; rfl
       case c2 => simp only [maxLen]; omega
       case c3 => omega
       case c4 => simp; omega
       intro v2 w2 hown2 hg2 hat2))
  have hne1 : bv.ownBlock ≠ some w.heap.size := fun h => by have := (hown.lt _ h).2; omega
  have hne2 : v2.ownBlock ≠ some w.heap.size := fun h => by
    rcases hat2 with e | e
    · rw [e] at h; exact hne1 h
    · rw [e] at h; injection h with h; simp only [World.size_alloc] at h; omega
  have hB2 : Blk w2 w.heap.size 49 #[.int .u8 op, .int .i64 arg, .int .u64 0] := (HB.out.alloc _).grown hg2 (Ne.symm hne1)
  have hgr2 : Grows w w2 bv v2 := (hg0.alloc _).step hg2 hat2
  have hd1 : w2.cell? ⟨w.heap.size, 1, none⟩ = some (.int .i64 arg) := hB2.cell 1
  have hd2 : w2.cell? ⟨w.heap.size, 2, none⟩ = some (.int .u64 0) := hB2.cell 2
  have hsz2 := hgr2.size
  clear hg2 hat2 hc0 hcx hg0 hown1
  refine wp_region_noPanic ?_
  refine wp_region_held_drew (S := fun W => W.cell? ⟨w.heap.size, 1, none⟩ = some (.int .i64 arg) ∧ W.cell? ⟨w.heap.size, 2, none⟩ = some (.int .u64 0)) (by kernel_rfl) ⟨hd1, hd2⟩ (fun hHeld => ?_)
  refine wpAnyH_take (i := 0) (v := ?_) rfl (by kernel_rfl) (by kernel_rfl) (by kernel_rfl) (fun _ _ _ h => h) (Or.inl ⟨by rfl, ?_⟩) (by assumption) ?_
  rotate_left
  · intro w hSw; (try dsimp only at hSw); go_simp; try with_reducible rfl
  simp only [Act.put, List.getElem_toArray, List.getElem_cons_zero, List.getElem_cons_succ, List.setIfInBounds_toArray, List.set_cons_zero, List.set_cons_succ]
  refine wpAnyH_take (i := 1) (v := ?_) rfl (by kernel_rfl) (by kernel_rfl) (by kernel_rfl) (fun _ _ _ h => h) (Or.inl ⟨by rfl, ?_⟩) (by assumption) ?_
  rotate_left
  · intro w hSw; (try dsimp only at hSw); go_simp; try with_reducible rfl
  simp only [Act.put, List.getElem_toArray, List.getElem_cons_zero, List.getElem_cons_succ, List.setIfInBounds_toArray, List.set_cons_zero, List.set_cons_succ]
  refine wpAnyH_take (i := 2) (v := ?_) rfl (by kernel_rfl) (by kernel_rfl) (by kernel_rfl) (fun _ _ _ h => h) (Or.inl ⟨by rfl, ?_⟩) (by assumption) ?_
  rotate_left
  · intro w hSw; (try dsimp only at hSw); go_simp; try with_reducible rfl
  simp only [Act.put, List.getElem_toArray, List.getElem_cons_zero, List.getElem_cons_succ, List.setIfInBounds_toArray, List.set_cons_zero, List.set_cons_succ]
  refine wpAnyH_take (i := 3) (v := ?_) rfl (by kernel_rfl) (by kernel_rfl) (by kernel_rfl) (fun _ _ _ h => h) (Or.inl ⟨by rfl, ?_⟩) (by assumption) ?_
  rotate_left
  · intro w hSw; (try dsimp only at hSw); go_simp; try with_reducible rfl
  simp only [Act.put, List.getElem_toArray, List.getElem_cons_zero, List.getElem_cons_succ, List.setIfInBounds_toArray, List.set_cons_zero, List.set_cons_succ]
  refine wpAnyH_take (i := 4) (v := ?_) rfl (by kernel_rfl) (by kernel_rfl) (by kernel_rfl) (fun _ _ _ h => h) (Or.inl ⟨by rfl, ?_⟩) (by assumption) ?_
  rotate_left
  · intro w hSw; (try dsimp only at hSw); go_simp; try with_reducible rfl
  simp only [Act.put, List.getElem_toArray, List.getElem_cons_zero, List.getElem_cons_succ, List.setIfInBounds_toArray, List.set_cons_zero, List.set_cons_succ]
  refine wpAnyH_take (i := 6) (v := ?_) rfl (by kernel_rfl) (by kernel_rfl) (by kernel_rfl) (fun _ _ _ h => h) (Or.inl ⟨by rfl, ?_⟩) (by assumption) ?_
  rotate_left
  · intro w hSw; (try dsimp only at hSw); go_simp; try with_reducible rfl
  simp only [Act.put, List.getElem_toArray, List.getElem_cons_zero, List.getElem_cons_succ, List.setIfInBounds_toArray, List.set_cons_zero, List.set_cons_succ]
  refine wpAnyH_take (i := 7) (v := ?_) rfl (by kernel_rfl) (by kernel_rfl) (by kernel_rfl) (fun _ _ _ h => h) (Or.inl ⟨by rfl, ?_⟩) (by assumption) ?_
  rotate_left
  · intro w hSw; (try dsimp only at hSw); go_simp; try with_reducible rfl
  simp only [Act.put, List.getElem_toArray, List.getElem_cons_zero, List.getElem_cons_succ, List.setIfInBounds_toArray, List.set_cons_zero, List.set_cons_succ]
  refine wpAnyH_take (i := 8) (v := ?_) rfl (by kernel_rfl) (by kernel_rfl) (by kernel_rfl) (fun _ _ _ h => h) (Or.inl ⟨by rfl, ?_⟩) (by assumption) ?_
  rotate_left
  · intro w hSw; (try dsimp only at hSw); go_simp; try with_reducible rfl
  simp only [Act.put, List.getElem_toArray, List.getElem_cons_zero, List.getElem_cons_succ, List.setIfInBounds_toArray, List.set_cons_zero, List.set_cons_succ]
  refine wpAnyH_ready (rs := [5]) (by kernel_rfl) (by simp) ?_
  refine AllReadyH.cons rfl (fun K hK => ?_) AllReadyH.nil
  go_simp
  refine (put_own base (m + 1) v2 (xs ++ [op]) (u64Of arg) 1 _ (by simpa [byteVals] using hown2.drew) (by simp; omega) (by omega) (by unfold u64Of U64; rw [IntKind.wrap_u64]; omega) (by omega) (by omega)).mono ?_
  rintro e w3 ⟨sv, rfl, hown3, hgr3⟩
  refine hK.out _ _ (by have hb := hgr3.blk hB2.drew hne2; exact ⟨hb.cell 1, hb.cell 2⟩) (fun hHeld2 => ?_)
  clear hK K hHeld
  try simp only [Act.put, List.getElem_toArray, List.getElem_cons_zero, List.getElem_cons_succ, List.setIfInBounds_toArray, List.set_cons_zero, List.set_cons_succ]
  refine wpAnyH_take (i := 9) (v := ?_) rfl (by kernel_rfl) (by kernel_rfl) (by kernel_rfl) (fun _ _ _ h => h) (Or.inl ⟨by rfl, ?_⟩) (by assumption) ?_
  rotate_left
  · intro w hSw; (try dsimp only at hSw); go_simp; try with_reducible rfl
  simp only [Act.put, List.getElem_toArray, List.getElem_cons_zero, List.getElem_cons_succ, List.setIfInBounds_toArray, List.set_cons_zero, List.set_cons_succ]
  refine wpAnyH_take (i := 10) (v := undef) rfl (by kernel_rfl) (by kernel_rfl) (by kernel_rfl) (fun _ _ _ h => h) (Or.inr ⟨by rfl, rfl⟩) (by assumption) ?_
  simp only [Act.put, List.getElem_toArray, List.getElem_cons_zero, List.getElem_cons_succ, List.setIfInBounds_toArray, List.set_cons_zero, List.set_cons_succ]
  refine wpAnyH_take (i := 11) (v := undef) rfl (by kernel_rfl) (by kernel_rfl) (by kernel_rfl) (fun _ _ _ h => h) (Or.inr ⟨by rfl, rfl⟩) (by assumption) ?_
  simp only [Act.put, List.getElem_toArray, List.getElem_cons_zero, List.getElem_cons_succ, List.setIfInBounds_toArray, List.set_cons_zero, List.set_cons_succ]
  refine wpAnyH_take (i := 12) (v := undef) rfl (by kernel_rfl) (by kernel_rfl) (by kernel_rfl) (fun _ _ _ h => h) (Or.inr ⟨by rfl, rfl⟩) (by assumption) ?_
  simp only [Act.put, List.getElem_toArray, List.getElem_cons_zero, List.getElem_cons_succ, List.setIfInBounds_toArray, List.set_cons_zero, List.set_cons_succ]
  refine wpAnyH_take (i := 13) (v := undef) rfl (by kernel_rfl) (by kernel_rfl) (by kernel_rfl) (fun _ _ _ h => h) (Or.inr ⟨by rfl, rfl⟩) (by assumption) ?_
  simp only [Act.put, List.getElem_toArray, List.getElem_cons_zero, List.getElem_cons_succ, List.setIfInBounds_toArray, List.set_cons_zero, List.set_cons_succ]
  refine wpAnyH_take (i := 14) (v := undef) rfl (by kernel_rfl) (by kernel_rfl) (by kernel_rfl) (fun _ _ _ h => h) (Or.inr ⟨by rfl, rfl⟩) (by assumption) ?_
  simp only [Act.put, List.getElem_toArray, List.getElem_cons_zero, List.getElem_cons_succ, List.setIfInBounds_toArray, List.set_cons_zero, List.set_cons_succ]
  refine wpAnyH_take (i := 15) (v := undef) rfl (by kernel_rfl) (by kernel_rfl) (by kernel_rfl) (fun _ _ _ h => h) (Or.inr ⟨by rfl, rfl⟩) (by assumption) ?_
  simp only [Act.put, List.getElem_toArray, List.getElem_cons_zero, List.getElem_cons_succ, List.setIfInBounds_toArray, List.set_cons_zero, List.set_cons_succ]
  refine wpAnyH_take (i := 16) (v := undef) rfl (by kernel_rfl) (by kernel_rfl) (by kernel_rfl) (fun _ _ _ h => h) (Or.inr ⟨by rfl, rfl⟩) (by assumption) ?_
  simp only [Act.put, List.getElem_toArray, List.getElem_cons_zero, List.getElem_cons_succ, List.setIfInBounds_toArray, List.set_cons_zero, List.set_cons_succ]
  refine wpAnyH_take (i := 17) (v := ?_) rfl (by kernel_rfl) (by kernel_rfl) (by kernel_rfl) (fun _ _ _ h => h) (Or.inl ⟨by rfl, ?_⟩) (by assumption) ?_
  rotate_left
  · intro w hSw; (try dsimp only at hSw); go_simp; try with_reducible rfl
  simp only [Act.put, List.getElem_toArray, List.getElem_cons_zero, List.getElem_cons_succ, List.setIfInBounds_toArray, List.set_cons_zero, List.set_cons_succ]
  refine wpAnyH_take (i := 18) (v := ?_) rfl (by kernel_rfl) (by kernel_rfl) (by kernel_rfl) (fun _ _ _ h => h) (Or.inl ⟨by rfl, ?_⟩) (by assumption) ?_
  rotate_left
  · intro w hSw; (try dsimp only at hSw); go_simp; try with_reducible rfl
  simp only [Act.put, List.getElem_toArray, List.getElem_cons_zero, List.getElem_cons_succ, List.setIfInBounds_toArray, List.set_cons_zero, List.set_cons_succ]
  refine wpAnyH_take (i := 19) (v := ?_) rfl (by kernel_rfl) (by kernel_rfl) (by kernel_rfl) (fun _ _ _ h => h) (Or.inl ⟨by rfl, ?_⟩) (by assumption) ?_
  rotate_left
  · intro w hSw; (try dsimp only at hSw); go_simp; try with_reducible rfl
  simp only [Act.put, List.getElem_toArray, List.getElem_cons_zero, List.getElem_cons_succ, List.setIfInBounds_toArray, List.set_cons_zero, List.set_cons_succ]
  refine wpAnyH_done (by kernel_rfl) ?_ _
  refine NoPanic.normal ?_
  go_wp2_with fail
  go_ret2
  refine ⟨sv, by first | rfl | (simp [hD]), ?_, hgr2.drew.trans hgr3⟩
  simpa [byteVals, Nat.add_assoc] using hown3
set_option maxHeartbeats 1000000 in
theorem instr_2n (base m : Nat) (bv : Value) (xs : List Int) (op arg : Int) (w : World) (hown : w.ownsRow base 5 1 bv m (byteVals xs)) (hbase : base ≤ w.heap.size) (hm : m ≤ 140737488350000) (hw : widthV op = 2) (hI : I64 arg) (hs : arg < 0) :
    Calls Try.prog 35 #[bv, .agg #[.int .u8 op, .int .i64 arg, .int .u64 0]] w fun e w' => ∃ sv, e = .returned (.tuple #[sv, .bool (decide (0 ≤ arg) && decide (arg < 65536))]) ∧ w'.ownsRow base 5 1 sv (m + 1 + 2) (byteVals (xs ++ op :: bytesLE 2 (u64Of arg))) ∧ Grows w w' bv sv := by
  obtain ⟨i0, hi0, hz0, hz1, hz2⟩ := info_parts infoU8
  have hblk := Blk.new w 49 #[.int .u8 op, .int .i64 arg, .int .u64 0]
  have HB := Lib.hid hblk
  have HW := Lib.hid hw
  have hc0 : (w.alloc (.cells #[.int .u8 op, .int .i64 arg, .int .u64 0] 49)).cell? ⟨w.heap.size, 0, none⟩ = some (.int .u8 op) := hblk.cell 0
  have hg0 : Grows w (w.alloc (.cells #[.int .u8 op, .int .i64 arg, .int .u64 0] 49)) bv bv := (Grows.refl w bv).alloc _
  have hown1 := hown.alloc (.cells #[.int .u8 op, .int .i64 arg, .int .u64 0] 49)
  have hcx : (w.alloc (.cells #[.int .u8 op, .int .i64 arg, .int .u64 0] 49)).cell? ⟨w.heap.size, 2, none⟩ = some (.int .u64 0) := hblk.cell 2
  unfold I64 at hI
  obtain ⟨hI0, hI1⟩ := hI
  have hD : decide (0 ≤ arg) = false := by simpa using hs
  clear hblk hw
  go_enter Try.func35, Try.ntmps35
  go_wp2_with fail
  refine (width_as op 2 _ HW.out).mono ?_
  rintro e w' ⟨rfl, rfl⟩
  go_wp2_with (first
    | (at_builtin
       go_must (refine wpList_append_any _ rfl (.tmp 21) (.tmp 24) _ rfl base 5 i0 _ 1 1 Try.underlying22 hi0 hz0 hz1 hz2 rfl (by omega) bv m (byteVals xs) rfl (hown1.alloc _) (w.heap.size + 2) (some ⟨w.heap.size + 1, 0, none⟩) 1 1 [.int .u8 op] rfl ?c0 ?c1 ?c2 ?c3 ?c4 ?_)
       case c0 => exact Reads.newAt _ (by simp) _ _
       case c1 => intro u hu; simp only [List.mem_singleton] at hu; subst hu; rfl
       case c2 => simp only [maxLen]; omega
       case c3 => omega
       case c4 => simp; omega
       intro v2 w2 hown2 hg2 hat2))
  have hne1 : bv.ownBlock ≠ some w.heap.size := fun h => by have := (hown.lt _ h).2; omega
  have hne2 : v2.ownBlock ≠ some w.heap.size := fun h => by
    rcases hat2 with e | e
    · rw [e] at h; exact hne1 h
    · rw [e] at h; injection h with h; simp only [World.size_alloc] at h; omega
  have hB2 : Blk w2 w.heap.size 49 #[.int .u8 op, .int .i64 arg, .int .u64 0] := (HB.out.alloc _).grown hg2 (Ne.symm hne1)
  have hgr2 : Grows w w2 bv v2 := (hg0.alloc _).step hg2 hat2
  have hd1 : w2.cell? ⟨w.heap.size, 1, none⟩ = some (.int .i64 arg) := hB2.cell 1
  have hd2 : w2.cell? ⟨w.heap.size, 2, none⟩ = some (.int .u64 0) := hB2.cell 2
  have hsz2 := hgr2.size
  clear hg2 hat2 hc0 hcx hg0 hown1
  refine wp_region_noPanic ?_
  refine wp_region_held_drew (S := fun W => W.cell? ⟨w.heap.size, 1, none⟩ = some (.int .i64 arg) ∧ W.cell? ⟨w.heap.size, 2, none⟩ = some (.int .u64 0)) (by kernel_rfl) ⟨hd1, hd2⟩ (fun hHeld => ?_)
  refine wpAnyH_take (i := 0) (v := ?_) rfl (by kernel_rfl) (by kernel_rfl) (by kernel_rfl) (fun _ _ _ h => h) (Or.inl ⟨by rfl, ?_⟩) (by assumption) ?_
  rotate_left
  · intro w hSw; (try dsimp only at hSw); go_simp; try with_reducible rfl
  simp only [Act.put, List.getElem_toArray, List.getElem_cons_zero, List.getElem_cons_succ, List.setIfInBounds_toArray, List.set_cons_zero, List.set_cons_succ]
  refine wpAnyH_take (i := 1) (v := ?_) rfl (by kernel_rfl) (by kernel_rfl) (by kernel_rfl) (fun _ _ _ h => h) (Or.inl ⟨by rfl, ?_⟩) (by assumption) ?_
  rotate_left
  · intro w hSw; (try dsimp only at hSw); go_simp; try with_reducible rfl
  simp only [Act.put, List.getElem_toArray, List.getElem_cons_zero, List.getElem_cons_succ, List.setIfInBounds_toArray, List.set_cons_zero, List.set_cons_succ]
  refine wpAnyH_take (i := 2) (v := ?_) rfl (by kernel_rfl) (by kernel_rfl) (by kernel_rfl) (fun _ _ _ h => h) (Or.inl ⟨by rfl, ?_⟩) (by assumption) ?_
  rotate_left
  · intro w hSw; (try dsimp only at hSw); go_simp; try with_reducible rfl
  simp only [Act.put, List.getElem_toArray, List.getElem_cons_zero, List.getElem_cons_succ, List.setIfInBounds_toArray, List.set_cons_zero, List.set_cons_succ]
  refine wpAnyH_take (i := 3) (v := ?_) rfl (by kernel_rfl) (by kernel_rfl) (by kernel_rfl) (fun _ _ _ h => h) (Or.inl ⟨by rfl, ?_⟩) (by assumption) ?_
  rotate_left
  · intro w hSw; (try dsimp only at hSw); go_simp; try with_reducible rfl
  simp only [Act.put, List.getElem_toArray, List.getElem_cons_zero, List.getElem_cons_succ, List.setIfInBounds_toArray, List.set_cons_zero, List.set_cons_succ]
  refine wpAnyH_take (i := 4) (v := ?_) rfl (by kernel_rfl) (by kernel_rfl) (by kernel_rfl) (fun _ _ _ h => h) (Or.inl ⟨by rfl, ?_⟩) (by assumption) ?_
  rotate_left
  · intro w hSw; (try dsimp only at hSw); go_simp; try with_reducible rfl
  simp only [Act.put, List.getElem_toArray, List.getElem_cons_zero, List.getElem_cons_succ, List.setIfInBounds_toArray, List.set_cons_zero, List.set_cons_succ]
  refine wpAnyH_take (i := 6) (v := ?_) rfl (by kernel_rfl) (by kernel_rfl) (by kernel_rfl) (fun _ _ _ h => h) (Or.inl ⟨by rfl, ?_⟩) (by assumption) ?_
  rotate_left
  · intro w hSw; (try dsimp only at hSw); go_simp; try with_reducible rfl
  simp only [Act.put, List.getElem_toArray, List.getElem_cons_zero, List.getElem_cons_succ, List.setIfInBounds_toArray, List.set_cons_zero, List.set_cons_succ]
  refine wpAnyH_take (i := 7) (v := ?_) rfl (by kernel_rfl) (by kernel_rfl) (by kernel_rfl) (fun _ _ _ h => h) (Or.inl ⟨by rfl, ?_⟩) (by assumption) ?_
  rotate_left
  · intro w hSw; (try dsimp only at hSw); go_simp; try with_reducible rfl
  simp only [Act.put, List.getElem_toArray, List.getElem_cons_zero, List.getElem_cons_succ, List.setIfInBounds_toArray, List.set_cons_zero, List.set_cons_succ]
  refine wpAnyH_take (i := 8) (v := ?_) rfl (by kernel_rfl) (by kernel_rfl) (by kernel_rfl) (fun _ _ _ h => h) (Or.inl ⟨by rfl, ?_⟩) (by assumption) ?_
  rotate_left
  · intro w hSw; (try dsimp only at hSw); go_simp; try with_reducible rfl
  simp only [Act.put, List.getElem_toArray, List.getElem_cons_zero, List.getElem_cons_succ, List.setIfInBounds_toArray, List.set_cons_zero, List.set_cons_succ]
  refine wpAnyH_ready (rs := [5]) (by kernel_rfl) (by simp) ?_
  refine AllReadyH.cons rfl (fun K hK => ?_) AllReadyH.nil
  go_simp
  refine (put_own base (m + 1) v2 (xs ++ [op]) (u64Of arg) 2 _ (by simpa [byteVals] using hown2.drew) (by simp; omega) (by omega) (by unfold u64Of U64; rw [IntKind.wrap_u64]; omega) (by omega) (by omega)).mono ?_
  rintro e w3 ⟨sv, rfl, hown3, hgr3⟩
  refine hK.out _ _ (by have hb := hgr3.blk hB2.drew hne2; exact ⟨hb.cell 1, hb.cell 2⟩) (fun hHeld2 => ?_)
  clear hK K hHeld
  try simp only [Act.put, List.getElem_toArray, List.getElem_cons_zero, List.getElem_cons_succ, List.setIfInBounds_toArray, List.set_cons_zero, List.set_cons_succ]
  refine wpAnyH_take (i := 9) (v := ?_) rfl (by kernel_rfl) (by kernel_rfl) (by kernel_rfl) (fun _ _ _ h => h) (Or.inl ⟨by rfl, ?_⟩) (by assumption) ?_
  rotate_left
  · intro w hSw; (try dsimp only at hSw); go_simp; try with_reducible rfl
  simp only [Act.put, List.getElem_toArray, List.getElem_cons_zero, List.getElem_cons_succ, List.setIfInBounds_toArray, List.set_cons_zero, List.set_cons_succ]
  refine wpAnyH_take (i := 10) (v := undef) rfl (by kernel_rfl) (by kernel_rfl) (by kernel_rfl) (fun _ _ _ h => h) (Or.inr ⟨by rfl, rfl⟩) (by assumption) ?_
  simp only [Act.put, List.getElem_toArray, List.getElem_cons_zero, List.getElem_cons_succ, List.setIfInBounds_toArray, List.set_cons_zero, List.set_cons_succ]
  refine wpAnyH_take (i := 11) (v := undef) rfl (by kernel_rfl) (by kernel_rfl) (by kernel_rfl) (fun _ _ _ h => h) (Or.inr ⟨by rfl, rfl⟩) (by assumption) ?_
  simp only [Act.put, List.getElem_toArray, List.getElem_cons_zero, List.getElem_cons_succ, List.setIfInBounds_toArray, List.set_cons_zero, List.set_cons_succ]
  refine wpAnyH_take (i := 12) (v := undef) rfl (by kernel_rfl) (by kernel_rfl) (by kernel_rfl) (fun _ _ _ h => h) (Or.inr ⟨by rfl, rfl⟩) (by assumption) ?_
  simp only [Act.put, List.getElem_toArray, List.getElem_cons_zero, List.getElem_cons_succ, List.setIfInBounds_toArray, List.set_cons_zero, List.set_cons_succ]
  refine wpAnyH_take (i := 13) (v := undef) rfl (by kernel_rfl) (by kernel_rfl) (by kernel_rfl) (fun _ _ _ h => h) (Or.inr ⟨by rfl, rfl⟩) (by assumption) ?_
  simp only [Act.put, List.getElem_toArray, List.getElem_cons_zero, List.getElem_cons_succ, List.setIfInBounds_toArray, List.set_cons_zero, List.set_cons_succ]
  refine wpAnyH_take (i := 14) (v := undef) rfl (by kernel_rfl) (by kernel_rfl) (by kernel_rfl) (fun _ _ _ h => h) (Or.inr ⟨by rfl, rfl⟩) (by assumption) ?_
  simp only [Act.put, List.getElem_toArray, List.getElem_cons_zero, List.getElem_cons_succ, List.setIfInBounds_toArray, List.set_cons_zero, List.set_cons_succ]
  refine wpAnyH_take (i := 15) (v := undef) rfl (by kernel_rfl) (by kernel_rfl) (by kernel_rfl) (fun _ _ _ h => h) (Or.inr ⟨by rfl, rfl⟩) (by assumption) ?_
  simp only [Act.put, List.getElem_toArray, List.getElem_cons_zero, List.getElem_cons_succ, List.setIfInBounds_toArray, List.set_cons_zero, List.set_cons_succ]
  refine wpAnyH_take (i := 16) (v := undef) rfl (by kernel_rfl) (by kernel_rfl) (by kernel_rfl) (fun _ _ _ h => h) (Or.inr ⟨by rfl, rfl⟩) (by assumption) ?_
  simp only [Act.put, List.getElem_toArray, List.getElem_cons_zero, List.getElem_cons_succ, List.setIfInBounds_toArray, List.set_cons_zero, List.set_cons_succ]
  refine wpAnyH_take (i := 17) (v := ?_) rfl (by kernel_rfl) (by kernel_rfl) (by kernel_rfl) (fun _ _ _ h => h) (Or.inl ⟨by rfl, ?_⟩) (by assumption) ?_
  rotate_left
  · intro w hSw; (try dsimp only at hSw); go_simp; try with_reducible rfl
  simp only [Act.put, List.getElem_toArray, List.getElem_cons_zero, List.getElem_cons_succ, List.setIfInBounds_toArray, List.set_cons_zero, List.set_cons_succ]
  refine wpAnyH_take (i := 18) (v := ?_) rfl (by kernel_rfl) (by kernel_rfl) (by kernel_rfl) (fun _ _ _ h => h) (Or.inl ⟨by rfl, ?_⟩) (by assumption) ?_
  rotate_left
  · intro w hSw; (try dsimp only at hSw); go_simp; try with_reducible rfl
  simp only [Act.put, List.getElem_toArray, List.getElem_cons_zero, List.getElem_cons_succ, List.setIfInBounds_toArray, List.set_cons_zero, List.set_cons_succ]
  refine wpAnyH_take (i := 19) (v := ?_) rfl (by kernel_rfl) (by kernel_rfl) (by kernel_rfl) (fun _ _ _ h => h) (Or.inl ⟨by rfl, ?_⟩) (by assumption) ?_
  rotate_left
  · intro w hSw; (try dsimp only at hSw); go_simp; try with_reducible rfl
  simp only [Act.put, List.getElem_toArray, List.getElem_cons_zero, List.getElem_cons_succ, List.setIfInBounds_toArray, List.set_cons_zero, List.set_cons_succ]
  refine wpAnyH_done (by kernel_rfl) ?_ _
  refine NoPanic.normal ?_
  go_wp2_with fail
  go_ret2
  refine ⟨sv, by first | rfl | (simp [hD]), ?_, hgr2.drew.trans hgr3⟩
  simpa [byteVals, Nat.add_assoc] using hown3
set_option maxHeartbeats 400000 in
theorem instr_none (bv : Value) (op arg imm : Int) (w : World) (hw : widthV op = -1) :
    Calls Try.prog 35 #[bv, .agg #[.int .u8 op, .int .i64 arg, .int .u64 imm]] w fun e w' => e = .returned (.tuple #[.slice none 0 0, .bool false]) ∧ Below w.heap.size w w' := by
  have HW := Lib.hid hw
  have hc0 : (w.alloc (.cells #[.int .u8 op, .int .i64 arg, .int .u64 imm] 49)).cell? ⟨w.heap.size, 0, none⟩ = some (.int .u8 op) := (Blk.new w 49 #[.int .u8 op, .int .i64 arg, .int .u64 imm]).cell 0
  clear hw
  go_enter Try.func35, Try.ntmps35
  go_wp2_with fail
  refine (width_as op (-1) _ HW.out).mono ?_
  rintro e w' ⟨rfl, rfl⟩
  go_wp2_with fail
  go_ret2
  exact ⟨rfl, (Below.refl _ _).alloc (Nat.le_refl _) _⟩
set_option maxHeartbeats 400000 in
theorem instr_imm0 (bv : Value) (op arg imm : Int) (w : World) (hw : widthV op = 0) (hi : ¬ imm = 0) :
    Calls Try.prog 35 #[bv, .agg #[.int .u8 op, .int .i64 arg, .int .u64 imm]] w fun e w' => e = .returned (.tuple #[.slice none 0 0, .bool false]) ∧ Below w.heap.size w w' := by
  have HW := Lib.hid hw
  have hne : (imm != 0) = true := by simpa using hi
  have hne' : (imm == 0) = false := by simpa using hi
  have hc0 : (w.alloc (.cells #[.int .u8 op, .int .i64 arg, .int .u64 imm] 49)).cell? ⟨w.heap.size, 0, none⟩ = some (.int .u8 op) := (Blk.new w 49 #[.int .u8 op, .int .i64 arg, .int .u64 imm]).cell 0
  have hc2 : (w.alloc (.cells #[.int .u8 op, .int .i64 arg, .int .u64 imm] 49)).cell? ⟨w.heap.size, 2, none⟩ = some (.int .u64 imm) := (Blk.new w 49 #[.int .u8 op, .int .i64 arg, .int .u64 imm]).cell 2
  clear hw hi
  go_enter Try.func35, Try.ntmps35
  go_wp2_with fail
  refine (width_as op 0 _ HW.out).mono ?_
  rintro e w' ⟨rfl, rfl⟩
  go_wp2_with fail
  go_ret2
  exact ⟨rfl, (Below.refl _ _).alloc (Nat.le_refl _) _⟩
set_option maxHeartbeats 400000 in
theorem instr_imm1 (bv : Value) (op arg imm : Int) (w : World) (hw : widthV op = 1) (hi : ¬ imm = 0) :
    Calls Try.prog 35 #[bv, .agg #[.int .u8 op, .int .i64 arg, .int .u64 imm]] w fun e w' => e = .returned (.tuple #[.slice none 0 0, .bool false]) ∧ Below w.heap.size w w' := by
  have HW := Lib.hid hw
  have hne : (imm != 0) = true := by simpa using hi
  have hne' : (imm == 0) = false := by simpa using hi
  have hc0 : (w.alloc (.cells #[.int .u8 op, .int .i64 arg, .int .u64 imm] 49)).cell? ⟨w.heap.size, 0, none⟩ = some (.int .u8 op) := (Blk.new w 49 #[.int .u8 op, .int .i64 arg, .int .u64 imm]).cell 0
  have hc2 : (w.alloc (.cells #[.int .u8 op, .int .i64 arg, .int .u64 imm] 49)).cell? ⟨w.heap.size, 2, none⟩ = some (.int .u64 imm) := (Blk.new w 49 #[.int .u8 op, .int .i64 arg, .int .u64 imm]).cell 2
  clear hw hi
  go_enter Try.func35, Try.ntmps35
  go_wp2_with fail
  refine (width_as op 1 _ HW.out).mono ?_
  rintro e w' ⟨rfl, rfl⟩
  go_wp2_with fail
  go_ret2
  exact ⟨rfl, (Below.refl _ _).alloc (Nat.le_refl _) _⟩
set_option maxHeartbeats 400000 in
theorem instr_imm2 (bv : Value) (op arg imm : Int) (w : World) (hw : widthV op = 2) (hi : ¬ imm = 0) :
    Calls Try.prog 35 #[bv, .agg #[.int .u8 op, .int .i64 arg, .int .u64 imm]] w fun e w' => e = .returned (.tuple #[.slice none 0 0, .bool false]) ∧ Below w.heap.size w w' := by
  have HW := Lib.hid hw
  have hne : (imm != 0) = true := by simpa using hi
  have hne' : (imm == 0) = false := by simpa using hi
  have hc0 : (w.alloc (.cells #[.int .u8 op, .int .i64 arg, .int .u64 imm] 49)).cell? ⟨w.heap.size, 0, none⟩ = some (.int .u8 op) := (Blk.new w 49 #[.int .u8 op, .int .i64 arg, .int .u64 imm]).cell 0
  have hc2 : (w.alloc (.cells #[.int .u8 op, .int .i64 arg, .int .u64 imm] 49)).cell? ⟨w.heap.size, 2, none⟩ = some (.int .u64 imm) := (Blk.new w 49 #[.int .u8 op, .int .i64 arg, .int .u64 imm]).cell 2
  clear hw hi
  go_enter Try.func35, Try.ntmps35
  go_wp2_with fail
  refine (width_as op 2 _ HW.out).mono ?_
  rintro e w' ⟨rfl, rfl⟩
  go_wp2_with fail
  go_ret2
  exact ⟨rfl, (Below.refl _ _).alloc (Nat.le_refl _) _⟩
/-- one instruction written: its bytes behind the others, or a refusal -/
theorem instr_any (base m : Nat) (bv : Value) (xs : List Int) (i : InstrD) (hi : i.Wf) (w : World) (hown : w.ownsRow base 5 1 bv m (byteVals xs)) (hbase : base ≤ w.heap.size) (hm : m ≤ 140737488350000) :
    Calls Try.prog 35 #[bv, .agg #[.int .u8 i.op, .int .i64 i.arg, .int .u64 i.imm]] w fun e w' => ∃ sv, e = .returned (.tuple #[sv, .bool (okI i)]) ∧ Below base w w' ∧ (okI i = true → w'.ownsRow base 5 1 sv (m + (encI i).length) (byteVals (xs ++ encI i)) ∧ Grows w w' bv sv) := by
  obtain ⟨op, arg, imm⟩ := i
  obtain ⟨h0, h1, h2, h3⟩ := hi
  simp only at h0 h1 h2 h3
  have hbel : ∀ {w' : World} {sv : Value}, Grows w w' bv sv → Below base w w' := fun h => h.below hbase (own_ge hown)
  rcases width_cases op with hw | hw | hw | hw | hw
  · have e1 : okI ⟨op, arg, imm⟩ = (arg == 0) := by rw [Bool.eq_iff_iff]; simp [okI, hw]
    have e2 : encI ⟨op, arg, imm⟩ = op :: bytesLE 8 imm := by simp [encI, hw]
    refine (instr_eight base m bv xs op arg imm w hown hbase hm h3 hw).mono fun e w' hh => ?_
    obtain ⟨sv, he, ho, hg⟩ := hh
    rw [e1, e2]
    refine ⟨sv, he, hbel hg, fun _ => ⟨?_, hg⟩⟩
    rw [List.length_cons, bytesLE_length]; exact ho
  · by_cases him : imm = 0
    · subst him
      have e1 : okI ⟨op, arg, 0⟩ = (decide (0 ≤ arg) && decide (arg < 65536)) := by simp [okI, hw]
      have e2 : encI ⟨op, arg, 0⟩ = op :: bytesLE 2 (u64Of arg) := by simp [encI, hw]
      have hmain : Calls Try.prog 35 #[bv, .agg #[.int .u8 op, .int .i64 arg, .int .u64 0]] w fun e w' => ∃ sv, e = .returned (.tuple #[sv, .bool (decide (0 ≤ arg) && decide (arg < 65536))]) ∧ w'.ownsRow base 5 1 sv (m + 1 + 2) (byteVals (xs ++ op :: bytesLE 2 (u64Of arg))) ∧ Grows w w' bv sv := by
        by_cases ha : 0 ≤ arg
        · exact instr_2p base m bv xs op arg w hown hbase hm hw h2 ha
        · exact instr_2n base m bv xs op arg w hown hbase hm hw h2 (by omega)
      refine hmain.mono fun e w' hh => ?_
      obtain ⟨sv, he, ho, hg⟩ := hh
      rw [e1, e2]
      refine ⟨sv, he, hbel hg, fun _ => ⟨?_, hg⟩⟩
      rw [List.length_cons, bytesLE_length, Nat.add_comm 2 1, ← Nat.add_assoc]; exact ho
    · have e1 : okI ⟨op, arg, imm⟩ = false := by simp [okI, hw, him]
      refine (instr_imm2 bv op arg imm w hw him).mono fun e w' hh => ?_
      rw [e1]
      exact ⟨_, hh.1, hh.2.mono hbase, fun h => by cases h⟩
  · by_cases him : imm = 0
    · subst him
      have e1 : okI ⟨op, arg, 0⟩ = (decide (0 ≤ arg) && decide (arg < 256)) := by simp [okI, hw]
      have e2 : encI ⟨op, arg, 0⟩ = op :: bytesLE 1 (u64Of arg) := by simp [encI, hw]
      have hmain : Calls Try.prog 35 #[bv, .agg #[.int .u8 op, .int .i64 arg, .int .u64 0]] w fun e w' => ∃ sv, e = .returned (.tuple #[sv, .bool (decide (0 ≤ arg) && decide (arg < 256))]) ∧ w'.ownsRow base 5 1 sv (m + 1 + 1) (byteVals (xs ++ op :: bytesLE 1 (u64Of arg))) ∧ Grows w w' bv sv := by
        by_cases ha : 0 ≤ arg
        · exact instr_1p base m bv xs op arg w hown hbase hm hw h2 ha
        · exact instr_1n base m bv xs op arg w hown hbase hm hw h2 (by omega)
      refine hmain.mono fun e w' hh => ?_
      obtain ⟨sv, he, ho, hg⟩ := hh
      rw [e1, e2]
      refine ⟨sv, he, hbel hg, fun _ => ⟨?_, hg⟩⟩
      rw [List.length_cons, bytesLE_length, Nat.add_comm 1 1, ← Nat.add_assoc]; exact ho
    · have e1 : okI ⟨op, arg, imm⟩ = false := by simp [okI, hw, him]
      refine (instr_imm1 bv op arg imm w hw him).mono fun e w' hh => ?_
      rw [e1]
      exact ⟨_, hh.1, hh.2.mono hbase, fun h => by cases h⟩
  · by_cases him : imm = 0
    · subst him
      have e1 : okI ⟨op, arg, 0⟩ = (decide (0 ≤ arg) && decide (arg < 1)) := by simp [okI, hw]
      have e2 : encI ⟨op, arg, 0⟩ = op :: bytesLE 0 (u64Of arg) := by simp [encI, hw]
      have hmain : Calls Try.prog 35 #[bv, .agg #[.int .u8 op, .int .i64 arg, .int .u64 0]] w fun e w' => ∃ sv, e = .returned (.tuple #[sv, .bool (decide (0 ≤ arg) && decide (arg < 1))]) ∧ w'.ownsRow base 5 1 sv (m + 1 + 0) (byteVals (xs ++ op :: bytesLE 0 (u64Of arg))) ∧ Grows w w' bv sv := by
        by_cases ha : 0 ≤ arg
        · exact instr_0p base m bv xs op arg w hown hbase hm hw h2 ha
        · exact instr_0n base m bv xs op arg w hown hbase hm hw h2 (by omega)
      refine hmain.mono fun e w' hh => ?_
      obtain ⟨sv, he, ho, hg⟩ := hh
      rw [e1, e2]
      refine ⟨sv, he, hbel hg, fun _ => ⟨?_, hg⟩⟩
      rw [List.length_cons, bytesLE_length, Nat.add_comm 0 1, ← Nat.add_assoc]; exact ho
    · have e1 : okI ⟨op, arg, imm⟩ = false := by simp [okI, hw, him]
      refine (instr_imm0 bv op arg imm w hw him).mono fun e w' hh => ?_
      rw [e1]
      exact ⟨_, hh.1, hh.2.mono hbase, fun h => by cases h⟩
  · have e1 : okI ⟨op, arg, imm⟩ = false := by simp [okI, hw]
    refine (instr_none bv op arg imm w hw).mono fun e w' hh => ?_
    rw [e1]
    exact ⟨_, hh.1, hh.2.mono hbase, fun h => by cases h⟩
theorem instr_yes (base m : Nat) (bv : Value) (xs : List Int) (i : InstrD) (hi : i.Wf) (w : World) (hown : w.ownsRow base 5 1 bv m (byteVals xs)) (hbase : base ≤ w.heap.size) (hm : m ≤ 140737488350000) (hok : okI i = true) :
    Calls Try.prog 35 #[bv, .agg #[.int .u8 i.op, .int .i64 i.arg, .int .u64 i.imm]] w fun e w' => ∃ sv, e = .returned (.tuple #[sv, .bool true]) ∧ w'.ownsRow base 5 1 sv (m + (encI i).length) (byteVals (xs ++ encI i)) ∧ Grows w w' bv sv :=
  (instr_any base m bv xs i hi w hown hbase hm).mono fun e w' ⟨sv, h1, _, h3⟩ => ⟨sv, by rw [hok] at h1; exact h1, h3 hok⟩
theorem instr_not (base m : Nat) (bv : Value) (xs : List Int) (i : InstrD) (hi : i.Wf) (w : World) (hown : w.ownsRow base 5 1 bv m (byteVals xs)) (hbase : base ≤ w.heap.size) (hm : m ≤ 140737488350000) (hok : okI i = false) :
    Calls Try.prog 35 #[bv, .agg #[.int .u8 i.op, .int .i64 i.arg, .int .u64 i.imm]] w fun e w' => ∃ sv, e = .returned (.tuple #[sv, .bool false]) ∧ Below base w w' :=
  (instr_any base m bv xs i hi w hown hbase hm).mono fun e w' ⟨sv, h1, h2, _⟩ => ⟨sv, by rw [hok] at h1; exact h1, h2⟩
theorem encI_le (i : InstrD) : (encI i).length ≤ 9 := by
  unfold encI
  rw [List.length_cons]
  split
  · rw [bytesLE_length]; omega
  · rw [bytesLE_length]; rcases width_cases i.op with h | h | h | h | h <;> simp [h]
theorem encIs_le (is : List InstrD) : (is.flatMap encI).length ≤ 9 * is.length := by
  induction is with
  | nil => simp
  | cons x r ih => have := encI_le x; rw [List.flatMap_cons, List.length_append, List.length_cons]; omega
theorem encIs_snoc (is : List InstrD) (j : Nat) (x : InstrD) (h : is[j]? = some x) : (is.take (j + 1)).flatMap encI = (is.take j).flatMap encI ++ encI x := by
  rw [List.take_add_one, h]; simp
end Go.Proofs.Ytcaefdfdngecdaa
