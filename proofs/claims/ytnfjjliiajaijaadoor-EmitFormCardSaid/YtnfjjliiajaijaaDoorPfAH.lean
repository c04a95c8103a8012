/- Part of the proof, named by its texts: Good EncM MvP LayP EmP. No condition of its own. -/
import Derived.Test.YtnfjjliiajaijaaDoorPfAA
import Derived.Test.YtnfjjliiajaijaaDoorPfAB
import Derived.Test.YtnfjjliiajaijaaDoorPfAG
import Derived.BigQuiet
import Derived.Deep.QuietTactic
import Derived.Deep.DeepCutAuto
import Derived.Lib.BytesEntry
import Derived.Laws.Externs
import Derived.Laws.IdiomStrings
import Derived.Test.YtnfjjliiajaijaaDoorPfAE
import Derived.WalkKit
import Derived.WalkSpells
set_option linter.unusedVariables false
set_option linter.unusedSimpArgs false
set_option maxRecDepth 100000
set_option maxHeartbeats 16000000
namespace Go.Proofs.YtnfjjliiajaijaaDoor
open Go.RowKit
structure zaw where
 op : Int
 d : Int
 a : Int
 b : Int
 imm : Int
def zaW (i : zaw) : List Value := [.int .u8 i.op, .int .i64 i.d, .int .i64 i.a, .int .i64 i.b, .int .i32 i.imm]
structure zaw.Wf (i : zaw) : Prop where
 op : 0 <= i.op /\ i.op <= 255
 d : -9223372036854775808 <= i.d /\ i.d <= 9223372036854775807
 a : -9223372036854775808 <= i.a /\ i.a <= 9223372036854775807
 b : -9223372036854775808 <= i.b /\ i.b <= 9223372036854775807
 imm : -2147483648 <= i.imm /\ i.imm <= 2147483647
def zaS (op : Int) : Option (List Int) :=
 if op = 1 ∨ op = 2 then some [68, 73] else if op = 3 then some [68, 65] else if op = 4 ∨ op = 6 then some [68, 65, 73] else if op = 5 then some [65, 66, 73] else if op = 8 then some [65, 73]
 else if op = 7 ∨ op = 9 ∨ op = 11 ∨ op = 12 then some [73] else if op = 10 then some [] else if op = 13 then some [68, 65, 66, 73] else if 39 <= op /\ op <= 52 then some [68, 65, 66] else none
theorem zih (op : Int) (cs : List Int) (w : World) (h : zaS op = some cs) :
  Calls Tryd.prog 79 #[.int .u8 op] w fun e w' => e = .returned (.tuple #[.string (strOfNums cs), .bool true]) /\ w = w' := by
 by_cases h1 : op = 1 ∨ op = 2 ∨ op = 3 ∨ op = 4 ∨ op = 5 ∨ op = 6 ∨ op = 7 ∨ op = 8 ∨ op = 9 ∨ op = 10 ∨ op = 11 ∨ op = 12 ∨ op = 13
 ·rcases h1 with rfl | rfl | rfl | rfl | rfl | rfl | rfl | rfl | rfl | rfl | rfl | rfl | rfl
  all_goals
   simp only [zaS] at h;simp at h;subst h;go_enter Tryd.func79, Tryd.ntmps79;go_wp2_with fail;go_ret2;exact ⟨by rfl, rfl⟩
 ·have h2 : 39 <= op /\ op <= 52 /\ cs = [68, 65, 66] := by
   unfold zaS at h;rw [if_neg (by omega), if_neg (by omega), if_neg (by omega), if_neg (by omega), if_neg (by omega), if_neg (by omega), if_neg (by omega), if_neg (by omega)] at h
   by_cases h3 : 39 <= op /\ op <= 52
   ·rw [if_pos h3] at h;injection h with h;exact ⟨h3.1, h3.2, h.symm⟩
   ·rw [if_neg h3] at h; cases h
  obtain ⟨g1, g2, rfl⟩ := h2
  have d1 : (op == 1) = false /\ (op == 2) = false /\ (op == 3) = false /\ (op == 4) = false /\ (op == 5) = false /\ (op == 6) = false /\ (op == 7) = false /\ (op == 8) = false /\ (op == 9) = false /\ (op == 10) = false /\ (op == 11) = false /\ (op == 12) = false /\ (op == 13) = false := by
   simp only [beq_eq_false_iff_ne, ne_eq]; omega
  have g3 : (32 : Int) <= op := by omega
  have g4 : (7 : Int) <= op - 32 := by omega
  have g5 : op - 32 <= 20 := by omega
  clear h h1;go_enter Tryd.func79, Tryd.ntmps79;go_wp2_with fail;go_ret2;exact ⟨by rfl, rfl⟩
theorem zii (op : Int) (w : World) (ho : 0 <= op /\ op <= 255) (h : zaS op = none) :
  Calls Tryd.prog 79 #[.int .u8 op] w fun e w' => (∃ s, e = .returned (.tuple #[.string s, .bool false])) /\ w = w' := by
 have h2 : ¬ (1 <= op /\ op <= 13) /\ ¬ (39 <= op /\ op <= 52) := by
  refine ⟨fun h1 => ?_, fun h1 => ?_⟩
  ·have : op = 1 ∨ op = 2 ∨ op = 3 ∨ op = 4 ∨ op = 5 ∨ op = 6 ∨ op = 7 ∨ op = 8 ∨ op = 9 ∨ op = 10 ∨ op = 11 ∨ op = 12 ∨ op = 13 := by omega
   rcases this with rfl | rfl | rfl | rfl | rfl | rfl | rfl | rfl | rfl | rfl | rfl | rfl | rfl <;> simp [zaS] at h
  ·unfold zaS at h;rw [if_neg (by omega), if_neg (by omega), if_neg (by omega), if_neg (by omega), if_neg (by omega), if_neg (by omega), if_neg (by omega), if_neg (by omega), if_pos h1] at h
   cases h
 obtain ⟨g1, g2⟩ := h2
 have d1 : (op == 1) = false /\ (op == 2) = false /\ (op == 3) = false /\ (op == 4) = false /\ (op == 5) = false /\ (op == 6) = false /\ (op == 7) = false /\ (op == 8) = false /\ (op == 9) = false /\ (op == 10) = false /\ (op == 11) = false /\ (op == 12) = false /\ (op == 13) = false := by
  simp only [beq_eq_false_iff_ne, ne_eq]; omega
 have hc : ¬ 32 <= op ∨ (32 <= op /\ ¬ 7 <= op - 32) ∨ (32 <= op /\ 7 <= op - 32 /\ ¬ op - 32 <= 20) := by omega
 clear h g1 g2
 rcases hc with c1 | ⟨c1, c2⟩ | ⟨c1, c2, c3⟩
 all_goals
  go_enter Tryd.func79, Tryd.ntmps79;go_wp2_with fail;go_ret2;exact ⟨⟨_, rfl⟩, rfl⟩
theorem zcD (b n c : Nat) (xs : List Int) (cv : Int) (w : World) (hx : xs.length = n) (hc : ∀ i, i < n -> w.cell? ⟨b, 0 + i, none⟩ = some (.int .u8 (xs.getD i 0))) :
  Calls Tryd.prog 80 #[.slice (some ⟨b, 0, none⟩) n c, .int .u8 cv] w fun e w' => e = .returned (.int .i64 (Lib.indexByte (Lib.bytesOf xs) cv.toNat.toUInt8)) /\ w = w' := by
 go_enter Tryd.func80, Tryd.ntmps80;go_wp2_with fail;rw [run_callFunc_extern Tryd.func88 (by kernel_rfl) (by kernel_rfl) (by kernel_rfl) (e := Extern.BytealgIndexByte.indexByte) (by kernel_rfl), Lib.run_indexByteSlice w b 0 n c xs hx hc cv];simp only [Result.andThen];rw [Oper.upon_value];go_wp2_with fail;go_ret;exact ⟨rfl, rfl⟩
theorem zkO (W : World) (xs : List Int) (hb : ∀ x ∈ xs, 0 <= x /\ x < 256) : ∃ cp W', (convert 9 27 (.string (strOfNums xs))).run Tryd.prog W = .ok (.slice (some ⟨W.heap.size, 0, none⟩) xs.length cp) W' /\
  xs.length <= cp /\ zal W' (W.heap.size + 1) 1 (some ⟨W.heap.size, 0, none⟩) xs.length (zbd xs) /\ Below W.heap.size W W' /\ W'.heap.size = W.heap.size + 1 := by
 have hs := run_bytes_of_string (P := Tryd.prog) W 9 27 5 (strOfNums xs) Tryd.underlying9 Tryd.underlying27 Tryd.underlying5;rw [strOfNums_size] at hs;refine ⟨_, _, hs, by have := grownCap_ge W (strOfNums xs).size 0 5; rw [strOfNums_size] at this; exact this, ⟨by simp [zbd], fun hn => ⟨_, rfl, Nat.lt_succ_self _, fun j u hu => ?_⟩⟩, ((Below.refl W.heap.size W).drew).alloc (Nat.le_refl _) _, by simp⟩;refine World.news_of_block (heap_alloc_new W.drew _) j u ?_;rw [zbd, List.getElem?_map, Option.map_eq_some_iff] at hu;obtain ⟨x, hx, rfl⟩ := hu;have hjl := (List.getElem?_eq_some_iff.1 hx).1;obtain ⟨x0, x1⟩ := hb x (List.mem_of_getElem? hx);simp only [bytesRow, Array.toList_append, Array.toList_map, strOfNums];rw [List.getElem?_append_left (by simpa using hjl), List.getElem?_map, List.getElem?_map, hx];simp only [Option.map_some, Option.some.injEq, Value.int.injEq, true_and];rw [UInt8.toNat_ofNat']
 omega
theorem zho {op : Int} {cs : List Int} (h : zaS op = some cs) : ∀ x ∈ cs, 0 <= x /\ x < 256 := by
 intro x hx;unfold zaS at h
 repeat' split at h
 all_goals first | (cases h; simp at hx; done) | (cases h; simp at hx; omega) | cases h
def zbQ (cs : List Int) (c : Int) : Bool := decide (0 <= Lib.indexByte (Lib.bytesOf cs) c.toNat.toUInt8)
def zap (u : Bool) (reg : Bool) (v : Int) : Bool := (u || v == 0) && (!reg || (decide (0 <= v) && decide (v <= 15)))
def za2 (op imm : Int) : Bool := if op = 11 ∨ op = 12 then decide (0 <= imm) && decide (imm <= 65536) && decide (imm % 8 = 0) else if op = 13 then decide (0 <= imm) else true
def zbt (i : zaw) (cs : List Int) (k : Nat) : Prop := (0 < k -> zap (zbQ cs 68) true i.d = true) /\ (1 < k -> zap (zbQ cs 65) true i.a = true) /\ (2 < k -> zap (zbQ cs 66) true i.b = true) /\ (3 < k -> zap (zbQ cs 73) false i.imm = true)
def zaP (i : zaw) : Bool := match zaS i.op with
 | none => false
 | some cs => zap (zbQ cs 68) true i.d && zap (zbQ cs 65) true i.a && zap (zbQ cs 66) true i.b && zap (zbQ cs 73) false i.imm && za2 i.op i.imm
theorem zlB (i : zaw) (hw : i.Wf) (w : World) :
  Calls Tryd.prog 42 #[.agg (zaW i).toArray] w fun e w' => e = .returned (.bool (zaP i)) /\ Below w.heap.size w w' := by
 obtain ⟨op, d, a, b, imm⟩ := i;obtain ⟨⟨ho0, ho1⟩, ⟨hd0, hd1⟩, ⟨ha0, ha1⟩, ⟨hb0, hb1⟩, ⟨hi0, hi1⟩⟩ := hw;simp only at *;have hP0 := Blk.new w 71 #[.int .u8 op, .int .i64 d, .int .i64 a, .int .i64 b, .int .i32 imm];have hb00 : Below w.heap.size w (w.alloc (.cells #[.int .u8 op, .int .i64 d, .int .i64 a, .int .i64 b, .int .i32 imm] 71)) := (Below.refl _ _).alloc (Nat.le_refl _) _;show Calls Tryd.prog 42 #[.agg #[.int .u8 op, .int .i64 d, .int .i64 a, .int .i64 b, .int .i32 imm]] w _;have kp0 := bc hP0 0;have kp1 := bc hP0 1;have kp2 := bc hP0 2;have kp3 := bc hP0 3;have kp4 := bc hP0 4
 rcases hl : zaS op with _ | cs
 ·have hg : zaP ⟨op, d, a, b, imm⟩ = false := by unfold zaP; simp only [hl]
  obtain ⟨Hg, Hl, Hb00, HP0⟩ := hd4 hg hl hb00 hP0;clear hP0 hb00 hl hg;go_enter Tryd.func42, Tryd.ntmps42;go_wp2_with fail;refine (zii op _ ⟨ho0, ho1⟩ Hl.out).mono ?_;rintro e w1 ⟨⟨s, rfl⟩, rfl⟩;go_wp2_with fail;go_ret;exact ⟨by rw [Hg.out]; rfl, Hb00.out⟩
 ·have hbytes := zho hl;have hQ0 := Blk.new2 w (.cells #[.int .u8 op, .int .i64 d, .int .i64 a, .int .i64 b, .int .i32 imm] 71) 3 #[.int .i64 d, .int .i64 a, .int .i64 b, .int .i64 imm];have hP1 := hP0.alloc (.cells #[.int .i64 d, .int .i64 a, .int .i64 b, .int .i64 imm] 3);have hb01 := hb00.alloc (by simp) (.cells #[.int .i64 d, .int .i64 a, .int .i64 b, .int .i64 imm] 3);obtain ⟨Hl, Hb00, HP0, Hbytes, HQ0, HP1, Hb01⟩ := hd7 hl hb00 hP0 hbytes hQ0 hP1 hb01;clear hb01 hP1 hQ0 hbytes hP0 hb00 hl;go_enter Tryd.func42, Tryd.ntmps42;go_wp2_with fail;refine (zih op cs _ Hl.out).mono ?_;rintro e w1 ⟨rfl, rfl⟩;go_wp2_with fail
  go_loopw [27] (fun i wq => ∃ k : Nat, k <= 4 /\ i = .int .i64 k /\ Blk wq w.heap.size 71 #[.int .u8 op, .int .i64 d, .int .i64 a, .int .i64 b, .int .i32 imm] /\ Blk wq (w.heap.size + 1) 3 #[.int .i64 d, .int .i64 a, .int .i64 b, .int .i64 imm] /\ Below w.heap.size w wq /\ Hid (zbt ⟨op, d, a, b, imm⟩ cs k)) (fun i _ => 4 - (intOf i).toNat)
  case atStart => exact ⟨0, by omega, rfl, HP1.out, HQ0.out, Hb01.out, (show zbt _ _ _ from ⟨by omega, by omega, by omega, by omega⟩)⟩
  case round =>
   obtain ⟨k, hk, rfl, hP, hQ, hbw, hparts⟩ := hrel;clear kp0 kp1 kp2 kp3 kp4
   by_cases hk4 : k < 4
   ·obtain ⟨cp, w5, hcv, hcp, hRd, hb5, hs5⟩ := zkO wr cs Hbytes.out;have hP5 := hP.below hb5 hP.lt;have hQ5 := hQ.below hb5 hQ.lt;have hbw5 := hbw.trans (hb5.mono hbw.size)
    have hcell : ∀ j, j < cs.length -> w5.cell? ⟨wr.heap.size, 0 + j, none⟩ = some (.int .u8 (cs.getD j 0)) := fun j hj => by
     obtain ⟨ad, e1, _, hc⟩ := hRd.2 (by omega);injection e1 with e1;subst e1;have := hc j (.int .u8 (cs.getD j 0)) (by simp [zbd, List.getElem?_eq_getElem hj, List.getD_eq_getElem?_getD])
     rwa [zmJ] at this
    have kq0 := bc hQ 0;have kq1 := bc hQ 1;have kq2 := bc hQ 2;have kq3 := bc hQ 3;obtain ⟨HP, HQ, Hbw, HP5, HQ5, Hbw5, HRd, Hb5⟩ := hd8 hP hQ hbw hP5 hQ5 hbw5 hRd hb5;have Hcell := Lib.hid hcell;clear hcell hb5 hRd hbw5 hQ5 hP5 hbw hQ hP
    rcases (show k = 0 ∨ k = 1 ∨ k = 2 ∨ k = 3 by omega) with rfl | rfl | rfl | rfl
    ·obtain ⟨r, hr⟩ := nm (Lib.indexByte (Lib.bytesOf cs) (68 : Int).toNat.toUInt8)
     have hu : zbQ cs 68 = decide (0 <= r) := by rw [zbQ, hr]
     have Hu := Lib.hid hu;clear hu;go_wp2_with fail;refine (zcD wr.heap.size cs.length cp cs 68 w5 rfl Hcell.out).mono ?_;rintro e w6 ⟨rfl, rfl⟩;rw [<- hr];have Hr := Lib.hid hr;clear hr
     have hcase : (0 <= r /\ ¬ d < 0 /\ ¬ 15 < d) ∨ (0 <= r /\ d < 0) ∨ (0 <= r /\ ¬ d < 0 /\ 15 < d) ∨ (¬ 0 <= r /\ (d != 0) = true) ∨ (¬ 0 <= r /\ (d != 0) = false /\ True) := by
      by_cases g1 : 0 <= r <;> by_cases g2 : d = 0 <;> simp [g1, g2] <;> omega
     rcases hcase with ⟨g1, g2, g3⟩ | ⟨g1, g2⟩ | ⟨g1, g2, g3⟩ | ⟨g1, g2⟩ | ⟨g1, g2, g3⟩
     ·have hok : zap (zbQ cs 68) true d = true := by rw [Hu.out, zap]; simp; omega
      have hp : zbt ⟨op, d, a, b, imm⟩ cs (0 + 1) := ⟨fun _ => hok, fun h => by omega, fun h => by omega, fun h => by omega⟩
      obtain ⟨Hp, Hok⟩ := hd2 hp hok;clear hok hp;go_wp2_with fail;exact ⟨⟨0 + 1, by omega, by go_num, HP5.out, HQ5.out, Hbw5.out, Hp.out⟩, by simp [intOf]⟩
     ·have hno : zap (zbQ cs 68) true d = false := by rw [Hu.out, zap]; simp; omega
      have hg : zaP ⟨op, d, a, b, imm⟩ = false := by unfold zaP; simp only [Hl.out, hno, Bool.false_and, Bool.and_false]
      obtain ⟨Hg, Hno⟩ := hd2 hg hno;clear hno hg;go_wp2_with fail;go_ret;exact ⟨by rw [Hg.out]; rfl, Hbw5.out⟩
     ·have hno : zap (zbQ cs 68) true d = false := by rw [Hu.out, zap]; simp; omega
      have hg : zaP ⟨op, d, a, b, imm⟩ = false := by unfold zaP; simp only [Hl.out, hno, Bool.false_and, Bool.and_false]
      obtain ⟨Hg, Hno⟩ := hd2 hg hno;clear hno hg;go_wp2_with fail;go_ret;exact ⟨by rw [Hg.out]; rfl, Hbw5.out⟩
     ·have hno : zap (zbQ cs 68) true d = false := by
       have g2' : d ≠ 0 := by simpa using g2
       rw [Hu.out, zap]; simp [g1, g2']
      have hg : zaP ⟨op, d, a, b, imm⟩ = false := by unfold zaP; simp only [Hl.out, hno, Bool.false_and, Bool.and_false]
      obtain ⟨Hg, Hno⟩ := hd2 hg hno;clear hno hg;go_wp2_with fail;go_ret;exact ⟨by rw [Hg.out]; rfl, Hbw5.out⟩
     ·have hz : d = 0 := by simpa using g2
      have hok : zap (zbQ cs 68) true d = true := by rw [Hu.out, zap]; simp [hz]
      have g4 : ¬ d < 0 := by omega
      have g5 : ¬ 15 < d := by omega
      have Hz := Lib.hid hz;clear hz
      have hp : zbt ⟨op, d, a, b, imm⟩ cs (0 + 1) := ⟨fun _ => hok, fun h => by omega, fun h => by omega, fun h => by omega⟩
      obtain ⟨Hp, Hok⟩ := hd2 hp hok;clear hok hp;go_wp2_with fail;exact ⟨⟨0 + 1, by omega, by go_num, HP5.out, HQ5.out, Hbw5.out, Hp.out⟩, by simp [intOf]⟩
    ·obtain ⟨r, hr⟩ := nm (Lib.indexByte (Lib.bytesOf cs) (65 : Int).toNat.toUInt8)
     have hu : zbQ cs 65 = decide (0 <= r) := by rw [zbQ, hr]
     have Hu := Lib.hid hu;clear hu;go_wp2_with fail;refine (zcD wr.heap.size cs.length cp cs 65 w5 rfl Hcell.out).mono ?_;rintro e w6 ⟨rfl, rfl⟩;rw [<- hr];have Hr := Lib.hid hr;clear hr
     have hcase : (0 <= r /\ ¬ a < 0 /\ ¬ 15 < a) ∨ (0 <= r /\ a < 0) ∨ (0 <= r /\ ¬ a < 0 /\ 15 < a) ∨ (¬ 0 <= r /\ (a != 0) = true) ∨ (¬ 0 <= r /\ (a != 0) = false /\ True) := by
      by_cases g1 : 0 <= r <;> by_cases g2 : a = 0 <;> simp [g1, g2] <;> omega
     rcases hcase with ⟨g1, g2, g3⟩ | ⟨g1, g2⟩ | ⟨g1, g2, g3⟩ | ⟨g1, g2⟩ | ⟨g1, g2, g3⟩
     ·have hok : zap (zbQ cs 65) true a = true := by rw [Hu.out, zap]; simp; omega
      have hp : zbt ⟨op, d, a, b, imm⟩ cs (1 + 1) := ⟨fun _ => hparts.out.1 (by omega), fun _ => hok, fun h => by omega, fun h => by omega⟩
      obtain ⟨Hp, Hok⟩ := hd2 hp hok;clear hok hp;go_wp2_with fail;exact ⟨⟨1 + 1, by omega, by go_num, HP5.out, HQ5.out, Hbw5.out, Hp.out⟩, by simp [intOf]⟩
     ·have hno : zap (zbQ cs 65) true a = false := by rw [Hu.out, zap]; simp; omega
      have hg : zaP ⟨op, d, a, b, imm⟩ = false := by unfold zaP; simp only [Hl.out, hno, Bool.false_and, Bool.and_false]
      obtain ⟨Hg, Hno⟩ := hd2 hg hno;clear hno hg;go_wp2_with fail;go_ret;exact ⟨by rw [Hg.out]; rfl, Hbw5.out⟩
     ·have hno : zap (zbQ cs 65) true a = false := by rw [Hu.out, zap]; simp; omega
      have hg : zaP ⟨op, d, a, b, imm⟩ = false := by unfold zaP; simp only [Hl.out, hno, Bool.false_and, Bool.and_false]
      obtain ⟨Hg, Hno⟩ := hd2 hg hno;clear hno hg;go_wp2_with fail;go_ret;exact ⟨by rw [Hg.out]; rfl, Hbw5.out⟩
     ·have hno : zap (zbQ cs 65) true a = false := by
       have g2' : a ≠ 0 := by simpa using g2
       rw [Hu.out, zap]; simp [g1, g2']
      have hg : zaP ⟨op, d, a, b, imm⟩ = false := by unfold zaP; simp only [Hl.out, hno, Bool.false_and, Bool.and_false]
      obtain ⟨Hg, Hno⟩ := hd2 hg hno;clear hno hg;go_wp2_with fail;go_ret;exact ⟨by rw [Hg.out]; rfl, Hbw5.out⟩
     ·have hz : a = 0 := by simpa using g2
      have hok : zap (zbQ cs 65) true a = true := by rw [Hu.out, zap]; simp [hz]
      have g4 : ¬ a < 0 := by omega
      have g5 : ¬ 15 < a := by omega
      have Hz := Lib.hid hz;clear hz
      have hp : zbt ⟨op, d, a, b, imm⟩ cs (1 + 1) := ⟨fun _ => hparts.out.1 (by omega), fun _ => hok, fun h => by omega, fun h => by omega⟩
      obtain ⟨Hp, Hok⟩ := hd2 hp hok;clear hok hp;go_wp2_with fail;exact ⟨⟨1 + 1, by omega, by go_num, HP5.out, HQ5.out, Hbw5.out, Hp.out⟩, by simp [intOf]⟩
    ·obtain ⟨r, hr⟩ := nm (Lib.indexByte (Lib.bytesOf cs) (66 : Int).toNat.toUInt8)
     have hu : zbQ cs 66 = decide (0 <= r) := by rw [zbQ, hr]
     have Hu := Lib.hid hu;clear hu;go_wp2_with fail;refine (zcD wr.heap.size cs.length cp cs 66 w5 rfl Hcell.out).mono ?_;rintro e w6 ⟨rfl, rfl⟩;rw [<- hr];have Hr := Lib.hid hr;clear hr
     have hcase : (0 <= r /\ ¬ b < 0 /\ ¬ 15 < b) ∨ (0 <= r /\ b < 0) ∨ (0 <= r /\ ¬ b < 0 /\ 15 < b) ∨ (¬ 0 <= r /\ (b != 0) = true) ∨ (¬ 0 <= r /\ (b != 0) = false /\ True) := by
      by_cases g1 : 0 <= r <;> by_cases g2 : b = 0 <;> simp [g1, g2] <;> omega
     rcases hcase with ⟨g1, g2, g3⟩ | ⟨g1, g2⟩ | ⟨g1, g2, g3⟩ | ⟨g1, g2⟩ | ⟨g1, g2, g3⟩
     ·have hok : zap (zbQ cs 66) true b = true := by rw [Hu.out, zap]; simp; omega
      have hp : zbt ⟨op, d, a, b, imm⟩ cs (2 + 1) := ⟨fun _ => hparts.out.1 (by omega), fun _ => hparts.out.2.1 (by omega), fun _ => hok, fun h => by omega⟩
      obtain ⟨Hp, Hok⟩ := hd2 hp hok;clear hok hp;go_wp2_with fail;exact ⟨⟨2 + 1, by omega, by go_num, HP5.out, HQ5.out, Hbw5.out, Hp.out⟩, by simp [intOf]⟩
     ·have hno : zap (zbQ cs 66) true b = false := by rw [Hu.out, zap]; simp; omega
      have hg : zaP ⟨op, d, a, b, imm⟩ = false := by unfold zaP; simp only [Hl.out, hno, Bool.false_and, Bool.and_false]
      obtain ⟨Hg, Hno⟩ := hd2 hg hno;clear hno hg;go_wp2_with fail;go_ret;exact ⟨by rw [Hg.out]; rfl, Hbw5.out⟩
     ·have hno : zap (zbQ cs 66) true b = false := by rw [Hu.out, zap]; simp; omega
      have hg : zaP ⟨op, d, a, b, imm⟩ = false := by unfold zaP; simp only [Hl.out, hno, Bool.false_and, Bool.and_false]
      obtain ⟨Hg, Hno⟩ := hd2 hg hno;clear hno hg;go_wp2_with fail;go_ret;exact ⟨by rw [Hg.out]; rfl, Hbw5.out⟩
     ·have hno : zap (zbQ cs 66) true b = false := by
       have g2' : b ≠ 0 := by simpa using g2
       rw [Hu.out, zap]; simp [g1, g2']
      have hg : zaP ⟨op, d, a, b, imm⟩ = false := by unfold zaP; simp only [Hl.out, hno, Bool.false_and, Bool.and_false]
      obtain ⟨Hg, Hno⟩ := hd2 hg hno;clear hno hg;go_wp2_with fail;go_ret;exact ⟨by rw [Hg.out]; rfl, Hbw5.out⟩
     ·have hz : b = 0 := by simpa using g2
      have hok : zap (zbQ cs 66) true b = true := by rw [Hu.out, zap]; simp [hz]
      have g4 : ¬ b < 0 := by omega
      have g5 : ¬ 15 < b := by omega
      have Hz := Lib.hid hz;clear hz
      have hp : zbt ⟨op, d, a, b, imm⟩ cs (2 + 1) := ⟨fun _ => hparts.out.1 (by omega), fun _ => hparts.out.2.1 (by omega), fun _ => hok, fun h => by omega⟩
      obtain ⟨Hp, Hok⟩ := hd2 hp hok;clear hok hp;go_wp2_with fail;exact ⟨⟨2 + 1, by omega, by go_num, HP5.out, HQ5.out, Hbw5.out, Hp.out⟩, by simp [intOf]⟩
    ·obtain ⟨r, hr⟩ := nm (Lib.indexByte (Lib.bytesOf cs) (73 : Int).toNat.toUInt8)
     have hu : zbQ cs 73 = decide (0 <= r) := by rw [zbQ, hr]
     have Hu := Lib.hid hu;clear hu;go_wp2_with fail;refine (zcD wr.heap.size cs.length cp cs 73 w5 rfl Hcell.out).mono ?_;rintro e w6 ⟨rfl, rfl⟩;rw [<- hr];have Hr := Lib.hid hr;clear hr
     have hcase : (0 <= r /\ True /\ True) ∨ (0 <= r /\ False) ∨ (0 <= r /\ False /\ False) ∨ (¬ 0 <= r /\ (imm != 0) = true) ∨ (¬ 0 <= r /\ (imm != 0) = false /\ True) := by
      by_cases g1 : 0 <= r <;> by_cases g2 : imm = 0 <;> simp [g1, g2] <;> omega
     rcases hcase with ⟨g1, g2, g3⟩ | ⟨g1, g2⟩ | ⟨g1, g2, g3⟩ | ⟨g1, g2⟩ | ⟨g1, g2, g3⟩
     ·have hok : zap (zbQ cs 73) false imm = true := by rw [Hu.out, zap]; simp; omega
      have hp : zbt ⟨op, d, a, b, imm⟩ cs (3 + 1) := ⟨fun _ => hparts.out.1 (by omega), fun _ => hparts.out.2.1 (by omega), fun _ => hparts.out.2.2.1 (by omega), fun _ => hok⟩
      obtain ⟨Hp, Hok⟩ := hd2 hp hok;clear hok hp;go_wp2_with fail;exact ⟨⟨3 + 1, by omega, by go_num, HP5.out, HQ5.out, Hbw5.out, Hp.out⟩, by simp [intOf]⟩
     ·exact g2.elim
     ·exact g2.elim
     ·have hno : zap (zbQ cs 73) false imm = false := by
       have g2' : imm ≠ 0 := by simpa using g2
       rw [Hu.out, zap]; simp [g1, g2']
      have hg : zaP ⟨op, d, a, b, imm⟩ = false := by unfold zaP; simp only [Hl.out, hno, Bool.false_and, Bool.and_false]
      obtain ⟨Hg, Hno⟩ := hd2 hg hno;clear hno hg;go_wp2_with fail;go_ret;exact ⟨by rw [Hg.out]; rfl, Hbw5.out⟩
     ·have hz : imm = 0 := by simpa using g2
      have hok : zap (zbQ cs 73) false imm = true := by rw [Hu.out, zap]; simp [hz]
      have g4 : ¬ imm < 0 := by omega
      have g5 : ¬ 15 < imm := by omega
      have Hz := Lib.hid hz;clear hz
      have hp : zbt ⟨op, d, a, b, imm⟩ cs (3 + 1) := ⟨fun _ => hparts.out.1 (by omega), fun _ => hparts.out.2.1 (by omega), fun _ => hparts.out.2.2.1 (by omega), fun _ => hok⟩
      obtain ⟨Hp, Hok⟩ := hd2 hp hok;clear hok hp;go_wp2_with fail;exact ⟨⟨3 + 1, by omega, by go_num, HP5.out, HQ5.out, Hbw5.out, Hp.out⟩, by simp [intOf]⟩
   ·obtain rfl : k = 4 := by omega
    obtain ⟨p1, p2, p3, p4⟩ := hparts.out
    have hg : zaP ⟨op, d, a, b, imm⟩ = za2 op imm := by
     unfold zaP;simp only [Hl.out];rw [p1 (by omega), p2 (by omega), p3 (by omega), p4 (by omega)];simp
    have kp0 := bc hP 0;have kp4 := bc hP 4;obtain ⟨Hg, HP, HQ, Hbw⟩ := hd4 hg hP hQ hbw;clear hbw hQ hP hg;clear hparts p1 p2 p3 p4;obtain ⟨r8, hr8⟩ := mn (imm.tmod 8)
    by_cases h13 : op = 11 ∨ op = 12 ∨ op = 13
    ·have h8 : 0 <= imm -> r8 = imm % 8 := fun h => by rw [<- hr8, Int.tmod_eq_emod_of_nonneg h]
     have hc : (0 <= imm /\ imm <= 65536 /\ (r8 == 0) = true) ∨ (0 <= imm /\ imm <= 65536 /\ (r8 == 0) = false) ∨ (0 <= imm /\ ¬ imm <= 65536) ∨ (¬ 0 <= imm /\ True) := by
      by_cases g1 : 0 <= imm <;> by_cases g2 : imm <= 65536 <;> by_cases g3 : r8 = 0 <;> simp [g1, g2, g3]
     have hs1 : (0 <= imm /\ imm <= 65536 /\ (r8 == 0) = true) -> (op = 11 ∨ op = 12) -> za2 op imm = true := fun ⟨g1, g2, g3⟩ g4 => by
      have := h8 g1
      have g3' : r8 = 0 := by simpa using g3
      unfold za2;rw [if_pos g4];simp [g1, g2]; omega
     have hs2 : (0 <= imm /\ imm <= 65536 /\ (r8 == 0) = false) -> (op = 11 ∨ op = 12) -> za2 op imm = false := fun ⟨g1, g2, g3⟩ g4 => by
      have := h8 g1
      have g3' : r8 ≠ 0 := by simpa using g3
      unfold za2;rw [if_pos g4];simp [g1, g2]; omega
     have hs3 : (0 <= imm /\ ¬ imm <= 65536) -> (op = 11 ∨ op = 12) -> za2 op imm = false := fun ⟨g1, g2⟩ g4 => by
      unfold za2; rw [if_pos g4]; simp [g1, g2]
     have hs4 : (¬ 0 <= imm) -> (op = 11 ∨ op = 12 ∨ op = 13) -> za2 op imm = false := fun g1 g4 => by
      unfold za2
      by_cases g5 : op = 11 ∨ op = 12
      ·rw [if_pos g5]; simp [g1]
      ·rw [if_neg g5, if_pos (by omega)]; simp [g1]
     have hs5 : 0 <= imm -> op = 13 -> za2 op imm = true := fun g1 g4 => by
      unfold za2; rw [if_neg (by omega), if_pos g4]; simp [g1]
     obtain ⟨Hs1, Hs2, Hs3, Hs4, Hs5, H8⟩ := hd6 hs1 hs2 hs3 hs4 hs5 h8;clear h8 hs5 hs4 hs3 hs2 hs1
     rcases h13 with rfl | rfl | rfl
     ·rcases hc with ⟨g1, g2, g3⟩ | ⟨g1, g2, g3⟩ | ⟨g1, g2⟩ | ⟨g1, _⟩
      ·have hgg := Hs1.out ⟨g1, g2, g3⟩ (by omega);have Hgg := Lib.hid hgg;clear hgg;go_wp2_with fail;go_ret;exact ⟨by rw [Hg.out, Hgg.out]; rfl, Hbw.out⟩
      ·have hgg := Hs2.out ⟨g1, g2, g3⟩ (by omega);have Hgg := Lib.hid hgg;clear hgg;go_wp2_with fail;go_ret;exact ⟨by rw [Hg.out, Hgg.out]; rfl, Hbw.out⟩
      ·have hgg := Hs3.out ⟨g1, g2⟩ (by omega);have Hgg := Lib.hid hgg;clear hgg;go_wp2_with fail;go_ret;exact ⟨by rw [Hg.out, Hgg.out]; rfl, Hbw.out⟩
      ·have hgg := Hs4.out g1 (by omega);have Hgg := Lib.hid hgg;clear hgg;go_wp2_with fail;go_ret;exact ⟨by rw [Hg.out, Hgg.out]; rfl, Hbw.out⟩
     ·rcases hc with ⟨g1, g2, g3⟩ | ⟨g1, g2, g3⟩ | ⟨g1, g2⟩ | ⟨g1, _⟩
      ·have hgg := Hs1.out ⟨g1, g2, g3⟩ (by omega);have Hgg := Lib.hid hgg;clear hgg;go_wp2_with fail;go_ret;exact ⟨by rw [Hg.out, Hgg.out]; rfl, Hbw.out⟩
      ·have hgg := Hs2.out ⟨g1, g2, g3⟩ (by omega);have Hgg := Lib.hid hgg;clear hgg;go_wp2_with fail;go_ret;exact ⟨by rw [Hg.out, Hgg.out]; rfl, Hbw.out⟩
      ·have hgg := Hs3.out ⟨g1, g2⟩ (by omega);have Hgg := Lib.hid hgg;clear hgg;go_wp2_with fail;go_ret;exact ⟨by rw [Hg.out, Hgg.out]; rfl, Hbw.out⟩
      ·have hgg := Hs4.out g1 (by omega);have Hgg := Lib.hid hgg;clear hgg;go_wp2_with fail;go_ret;exact ⟨by rw [Hg.out, Hgg.out]; rfl, Hbw.out⟩
     ·clear hc
      by_cases g1 : 0 <= imm
      ·have hgg := Hs5.out g1 rfl;have Hgg := Lib.hid hgg;clear hgg;go_wp2_with fail;go_ret;exact ⟨by rw [Hg.out, Hgg.out]; rfl, Hbw.out⟩
      ·have hgg := Hs4.out g1 (by omega);have Hgg := Lib.hid hgg;clear hgg;go_wp2_with fail;go_ret;exact ⟨by rw [Hg.out, Hgg.out]; rfl, Hbw.out⟩
    ·have hgg : za2 op imm = true := by unfold za2; rw [if_neg (by omega), if_neg (by omega)]
     have e1 : (op == 11) = false /\ (op == 12) = false /\ (op == 13) = false := by simp only [beq_eq_false_iff_ne, ne_eq]; omega
     have Hgg := Lib.hid hgg;clear hgg;clear h13 hr8;go_wp2_with fail;go_ret;exact ⟨by rw [Hg.out, Hgg.out]; rfl, Hbw.out⟩
theorem zcL {α β : Type} {f : α -> List β} {c : Nat} (hc : ∀ x, (f x).length = c) : ∀ (l : List α) (k : Nat) (x : α), l[k]? = some x -> ∀ j, j < c -> (l.flatMap f)[k * c + j]? = (f x)[j]?
 | [], k, x, h, j, hj => by simp at h
 | y :: l, 0, x, h, j, hj => by
  simp only [List.getElem?_cons_zero, Option.some.injEq] at h;subst h;rw [List.flatMap_cons, Nat.zero_mul, Nat.zero_add, List.getElem?_append_left (by rw [hc]; exact hj)]
 | y :: l, k + 1, x, h, j, hj => by
  rw [List.getElem?_cons_succ] at h;rw [List.flatMap_cons, List.getElem?_append_right (by rw [hc, Nat.add_mul]; omega), hc, show (k + 1) * c + j - c = k * c + j by rw [Nat.add_mul]; omega];exact zcL hc l k x h j hj
theorem zgc (i : zaw) : (zaW i).length = 5 := rfl
theorem zlp {w : World} {B n : Nat} {ad : Addr} {l : List zaw} (h : zal w B 5 (some ad) n (l.flatMap zaW)) {k : Nat} {i : zaw} (hk : l[k]? = some i) (hn : 0 < n) :
  w.cell? (ad.add (k * 5)) = some (.int .u8 i.op) /\ w.cell? ⟨(ad.add (k * 5)).block, (ad.add (k * 5)).off + 1, none⟩ = some (.int .i64 i.d) /\ w.cell? ⟨(ad.add (k * 5)).block, (ad.add (k * 5)).off + 2, none⟩ = some (.int .i64 i.a) /\
   w.cell? ⟨(ad.add (k * 5)).block, (ad.add (k * 5)).off + 3, none⟩ = some (.int .i64 i.b) /\ w.cell? ⟨(ad.add (k * 5)).block, (ad.add (k * 5)).off + 4, none⟩ = some (.int .i32 i.imm) := by
 obtain ⟨ad', e, _, hc⟩ := h.2 hn;injection e with e;subst e
 have hg := fun j hj => zcL zgc l k i hk j hj
 refine ⟨hc _ _ (hg 0 (by omega)), ?_, ?_, ?_, ?_⟩
 ·rw [zdT ad (k * 5) 1 (by omega)]; exact hc _ _ (hg 1 (by omega))
 ·rw [zdT ad (k * 5) 2 (by omega)]; exact hc _ _ (hg 2 (by omega))
 ·rw [zdT ad (k * 5) 3 (by omega)]; exact hc _ _ (hg 3 (by omega))
 ·rw [zdT ad (k * 5) 4 (by omega)]; exact hc _ _ (hg 4 (by omega))
def zbo (i : zaw) : List Int := [i.op, i.d, i.a, i.b] ++ zcl 4 (i.imm % 4294967296)
theorem zc6 (i : zaw) : (zbo i).length = 8 := by simp [zbo, zcX]
theorem zhv {i : zaw} (h : zaP i = true) : (0 <= i.d /\ i.d <= 15) /\ (0 <= i.a /\ i.a <= 15) /\ (0 <= i.b /\ i.b <= 15) := by
 unfold zaP at h
 rcases hl : zaS i.op with _ | cs
 ·rw [hl] at h; simp at h
 ·rw [hl] at h;simp only [zap, Bool.and_eq_true, Bool.or_eq_true, decide_eq_true_eq, Bool.not_true, Bool.false_eq_true, false_or] at h;obtain ⟨⟨⟨⟨h1, h2⟩, h3⟩, _⟩, _⟩ := h;exact ⟨h1.2, h2.2, h3.2⟩
theorem zjx (A : Option Addr) (n c : Nat) (l : List zaw) (w : World) (B : Nat) (hr : zal w B 5 A n (l.flatMap zaW)) (hl : l.length = n) (hn : n <= 10000000000) (hB : B <= w.heap.size) (hw : ∀ i ∈ l, i.Wf) :
  Calls Tryd.prog 21 #[.slice A n c] w fun e w' => ((l.all zaP = true /\ ∃ sv, e = .returned (.tuple #[sv, .int .i64 0]) /\ w'.ownsRow w.heap.size 5 1 sv (8 * n) (zbd (l.flatMap zbo))) ∨ (l.all zaP = false /\ e = .returned (.tuple #[.slice none 0 0, .int .i64 200]))) /\ Below w.heap.size w w' := by
 obtain ⟨i0, hi0, hz0, hz1, hz2⟩ := info_parts zmV;obtain ⟨Hr, Hl, Hw⟩ := hd3 hr hl hw;clear hw hl hr;go_enter Tryd.func21, Tryd.ntmps21;go_wp2_with fail
 go_loopw [4, 10] (fun s i wq => ∃ k : Nat, k <= n /\ i = .int .i64 k /\ wq.ownsRow w.heap.size 5 1 s (8 * k) (zbd ((l.take k).flatMap zbo)) /\ Below w.heap.size w wq /\ Hid (∀ i ∈ l.take k, zaP i = true)) (fun _ i _ => n - (intOf i).toNat)
 case atStart => exact ⟨0, by omega, rfl, by simpa [zbd] using World.ownsRow_nil _ _ _ _, Below.refl _ _, (show ∀ i ∈ l.take 0, zaP i = true from fun i hi => by simp at hi)⟩
 case round =>
  obtain ⟨k, hk, rfl, hown, hbw, hgood⟩ := hrel
  by_cases hlt : k < n
  ·obtain ⟨i, hik⟩ : ∃ i, l[k]? = some i := ⟨_, List.getElem?_eq_getElem (by have := Hl.out; omega)⟩
   have hrw := Hr.out.below (hbw.mono hB);obtain ⟨ad, hA, _, _⟩ := hrw.2 (by omega);subst hA;obtain ⟨c0, c1, c2, c3, c4⟩ := zlp hrw hik (by omega);have hwf := Hw.out i (List.mem_of_getElem? hik)
   have htake : l.take (k + 1) = l.take k ++ [i] := by rw [List.take_add_one, hik]; rfl
   have hsz := hbw.size;obtain ⟨op, d, a, b, imm⟩ := i;simp only at c0 c1 c2 c3 c4;have hbox := hbw.alloc hsz (.cells #[.int .u8 op, .int .i64 d, .int .i64 a, .int .i64 b, .int .i32 imm] 71);have hP := Blk.new wr 71 #[.int .u8 op, .int .i64 d, .int .i64 a, .int .i64 b, .int .i32 imm];have hO := hown.alloc (.cells #[.int .u8 op, .int .i64 d, .int .i64 a, .int .i64 b, .int .i32 imm] 71);obtain ⟨Hrw, Hik, Hwf, Htake, Hown, Hbw, Hbox, HP⟩ := hd8 hrw hik hwf htake hown hbw hbox hP;have HO := Lib.hid hO;clear hO hP hbox hbw hown htake hwf hik hrw;go_wp2_with fail;refine (zlB ⟨op, d, a, b, imm⟩ Hwf.out _).mono ?_;rintro e w5 ⟨rfl, hb5⟩;have hb5' := Hbox.out.trans (hb5.mono (by simp; omega));have hP5 := HP.out.below hb5 (by simp);have hO5 := zaX HO.out (zah hb5 none) nofun;have kp0 := bc hP5 0;have kp1 := bc hP5 1;have kp2 := bc hP5 2;have kp3 := bc hP5 3;have kp4 := bc hP5 4;have hs5 := hb5'.size
   rcases hg : zaP ⟨op, d, a, b, imm⟩ with _ | _
   ·have hno : l.all zaP = false := by
     rw [List.all_eq_false];exact ⟨_, List.mem_of_getElem? Hik.out, by rw [hg]; simp⟩
    obtain ⟨Hno, Hb5', HP5, HO5, Hg⟩ := hd5 hno hb5' hP5 hO5 hg;clear hg hO5 hP5 hb5' hno;clear hb5 c0 c1 c2 c3 c4;go_wp2_with fail;go_ret2;exact ⟨.inr ⟨Hno.out, rfl⟩, Hb5'.out⟩
   ·obtain ⟨⟨d0, d1⟩, ⟨a0, a1⟩, ⟨b0, b1⟩⟩ := zhv hg;simp only at d0 d1 a0 a1 b0 b1;obtain ⟨i1, i2⟩ := Hwf.out.imm;simp only at i1 i2;obtain ⟨Hb5', HP5, HO5, Hg⟩ := hd4 hb5' hP5 hO5 hg;clear hg hO5 hP5 hb5';clear hb5 c0 c1 c2 c3 c4;obtain ⟨v, hv⟩ := mn (imm % 4294967296)
    have hv0 : 0 <= v /\ v < 4294967296 := by omega
    obtain ⟨v0, v1⟩ := hv0;go_upto_region 8 with fail
    have hby : zbo ⟨op, d, a, b, imm⟩ = [op, d, a, b, v % 256, v / 256 % 256, v / 65536 % 256, v / 16777216] := by
     have e : zcl 4 v = [v % 256, v / 256 % 256, v / 65536 % 256, v / 16777216] := by
      have : v / 16777216 % 256 = v / 16777216 := by omega
      simp [zcl, zhG, List.range_succ, this]
     simp only [zbo];rw [hv, e]; rfl
    have Hby := Lib.hid hby;clear hby
    go_wp2_with (first
     | (at_builtin
        refine zau _ rfl (.tmp 20) (.tmp 43) _ rfl w.heap.size 5 i0 _ 1 1 Tryd.underlying27 hi0 hz0 hz1 hz2 rfl (by omega) _ (8 * k) _ rfl (HO5.out.alloc _) (w5.heap.size + 1) (some ⟨w5.heap.size, 0, none⟩) 8 8 (zbd [op, d, a, b, v % 256, v / 256 % 256, v / 65536 % 256, v / 16777216]) rfl ?c0 ?c1 ?c2 ?c3 ?c4 ?_
        case c0 => exact zal.newS _ rfl _ _ _ _ _ rfl rfl
        case c1 => exact zhF _
        case c2 => simp only [maxLen]; omega
        case c3 => omega
        case c4 => simp; omega
        intro v9 w9 hown9 hg9 hat9))
    have hb9 := (Hb5'.out.alloc (by omega) (.cells #[.int .u8 op, .int .u8 d, .int .u8 a, .int .u8 b, .int .u8 (v % 256), .int .u8 (v / 256 % 256), .int .u8 (v / 65536 % 256), .int .u8 (v / 16777216)] 5)).grown hg9 (by simp; omega) (fun g e => (HO5.out.lt g e).1)
    have hgd : ∀ i ∈ l.take (k + 1), zaP i = true := by
     rw [Htake.out];intro i hi
     rcases List.mem_append.1 hi with h | h
     ·exact hgood.out i h
     ·simp at h; rw [h]; exact Hg.out
    refine ⟨⟨k + 1, by omega, by go_num, ?_, hb9, hgd⟩, by simp [intOf]; omega⟩;rw [Htake.out, List.flatMap_append, show ([⟨op, d, a, b, imm⟩] : List zaw).flatMap zbo = zbo ⟨op, d, a, b, imm⟩ by simp, Hby.out, show 8 * (k + 1) = 8 * k + 8 by omega, zbd, List.map_append, <- zbd, <- zbd];exact hown9
  ·obtain rfl : k = n := by omega
   have hall : l.all zaP = true := by
    rw [List.all_eq_true];intro i hi;exact hgood.out i (by rw [List.take_of_length_le (by have := Hl.out; omega)]; exact hi)
   rw [List.take_of_length_le (by have := Hl.out; omega)] at hown;obtain ⟨Hall, Hown, Hbw⟩ := hd3 hall hown hbw;clear hbw hown hall;go_wp2_with fail;go_ret2;exact ⟨.inl ⟨Hall.out, _, rfl, Hown.out⟩, Hbw.out⟩
abbrev Mv := Int × Int
def zl3 (m : Mv) : List Value := [.int .i64 m.1, .int .i64 m.2]
def za9 (ms : List Mv) : List Value := ms.flatMap zl3
theorem zhg (m : Mv) (ms : List Mv) : za9 (m :: ms) = .int .i64 m.1 :: .int .i64 m.2 :: za9 ms := rfl
theorem zfU (a b : List Mv) : za9 (a ++ b) = za9 a ++ za9 b := by simp [za9]
theorem zfx (ms : List Mv) (k : Nat) (m : Mv) (h : ms[k]? = some m) : (za9 ms)[k * 2]? = some (.int .i64 m.1) /\ (za9 ms)[k * 2 + 1]? = some (.int .i64 m.2) := by
 induction ms generalizing k with
 | nil => simp at h
 | cons x r ih =>
  rw [zhg]
  cases k with
  | zero => simp at h; subst h; exact ⟨rfl, rfl⟩
  | succ k =>
   have h' := ih k (by simpa using h);rw [show (k + 1) * 2 = k * 2 + 1 + 1 by omega]
   simpa using h'
theorem zh7 (ms : List Mv) : ∀ u ∈ za9 ms, u.oneCell' = true := by
 intro u hu;obtain ⟨m, _, hm⟩ := List.mem_flatMap.1 hu;simp [zl3] at hm
 rcases hm with rfl | rfl <;> rfl
def zmz (s : Int) (m : Mv) : Prop := 0 <= m.1 /\ 0 <= m.2 /\ m.1 ≠ s /\ m.2 ≠ s
instance (s : Int) (m : Mv) : Decidable (zmz s m) := by unfold zmz; infer_instance
def okM (ms : List Mv) (s : Int) : Prop := (∀ m ∈ ms, zmz s m) /\ (ms.map (·.1)).Nodup /\ 0 <= s
instance (ms : List Mv) (s : Int) : Decidable (okM ms s) := by unfold okM; infer_instance
def znq (left : List Mv) (m : Mv) : Bool := !left.any fun n => n.2 == m.1
def zmU : Nat -> List Mv -> Int -> List Mv
 | 0, _, _ => []
 | _, [], _ => []
 | fuel + 1, m :: r, s => match (m :: r).findIdx? (znq (m :: r)) with
  | some i => (m :: r)[i]! :: zmU fuel ((m :: r).eraseIdx i) s
  | none => (s, m.1) :: zmU fuel ((m :: r).map fun n => if n.2 == m.1 then (n.1, s) else n) s
def zaL (o n : Nat) : List Int := (List.range n).map fun i : Nat => ((8 * (o + i) : Nat) : Int)
theorem zfm (o n : Nat) : zaL o (n + 1) = zaL o n ++ [((8 * (o + n) : Nat) : Int)] := by simp [zaL, List.range_succ]
theorem zdJ (o n : Nat) : (zaL o n).length = n := by simp [zaL]
def zbL (ns : List zam) (r : Nat) : Bool := ns.any fun x => decide ((r : Int) ∈ zaD x)
def zcK (ns : List zam) (k : Nat) : List Nat := ((List.range k).map (6 + ·)).filter (zbL ns)
theorem zi4 (ns : List zam) (k : Nat) : zcK ns (k + 1) = zcK ns k ++ (if zbL ns (6 + k) then [6 + k] else []) := by
 unfold zcK;rw [List.range_succ, List.map_append, List.filter_append]
 congr 1
 simp [List.filter_cons]
theorem zb7 (ns : List zam) (k : Nat) : (zcK ns k).length <= k := by
 unfold zcK;refine Nat.le_trans (List.length_filter_le _ _) ?_;simp
def zdw : List Nat -> Nat -> List Mv
 | [], _ => []
 | r :: l, o => ((r : Int), ((8 * o : Nat) : Int)) :: zdw l (o + 1)
theorem zf6 : ∀ (l : List Nat) (o r : Nat), zdw (l ++ [r]) o = zdw l o ++ [((r : Int), ((8 * (o + l.length) : Nat) : Int))]
 | [], o, r => rfl
 | x :: l, o, r => by
  rw [List.cons_append, zdw, zdw, zf6 l (o + 1) r, List.cons_append, List.length_cons, show o + 1 + l.length = o + (l.length + 1) by omega]
theorem zg7 : ∀ (l : List Nat) (o : Nat), (zdw l o).length = l.length
 | [], _ => rfl
 | _ :: l, o => by rw [zdw, List.length_cons, zg7 l (o + 1), List.length_cons]
theorem zgA (l : List Int) : ∀ p ∈ zbx l, 0 <= p := by
 have h : ∀ (l o : List Int), (∀ p ∈ o, 0 <= p) -> ∀ p ∈ l.foldl zbv o, 0 <= p := by
  intro l
  induction l with
  | nil => intro o h; exact h
  | cons x l ih =>
   intro o h
   refine ih _ fun p hp => ?_
   unfold zbv at hp
   split at hp
   ·rename_i h2
    rcases List.mem_append.1 hp with h3 | h3
    ·exact h p h3
    ·simp at h3; rw [h3]; exact h2.1
   ·exact h p hp
 exact h l [] (by simp)
theorem zfZ (x : zam) : ∀ p ∈ zaD x, 0 <= p := by
 unfold zaD
 split
 ·exact zgA _
 ·split
  ·exact zgA _
  ·simp
theorem zeE (x : zam) : (zaD x).length <= 2 := by
 unfold zaD
 split
 ·have := zeq [x.d]; simp at this; omega
 ·split
  ·have := zeq [x.d, x.e]; simp at this; omega
  ·simp
def zaG (g : zad) : Nat := g.kinds.length - 16
def zaU (g : zad) : Nat := g.cells.toNat
def zb9 (g : zad) : Nat := (zcK g.nodes 6).length
def zh6 (g : zad) : Nat := if g.result then 1 else 0
def zaF (g : zad) : Nat := 8 * (zaG g + zaU g + zb9 g + zh6 g)
def zdB (g : zad) : Int := if g.result then ((8 * (zaG g + zaU g + zb9 g) : Nat) : Int) else -1
def zl8 (w : World) (base : Nat) (v : Value) (g : zad) : Prop := ∃ sv cv vv, v = .agg #[.int .i64 (zaF g), sv, cv, vv, .int .i64 (zdB g)] /\
 w.ownsRow base 3 1 sv (zaG g) ((zaL 0 (zaG g)).map (Value.int .i64)) /\ w.ownsRow base 3 1 cv (zaU g) ((zaL (zaG g) (zaU g)).map (Value.int .i64)) /\ w.ownsRow base 50 2 vv (zb9 g) (za9 (zdw (zcK g.nodes 6) (zaG g + zaU g)))
def zfY (p : Nat -> Bool) : Array Value := ((List.range 16).map fun r => Value.bool (p r)).toArray
theorem zgS (p : Nat -> Bool) (r : Nat) (h : r < 16) : (zfY p)[r]? = some (.bool (p r)) := by
 unfold zfY;rw [List.getElem?_toArray, List.getElem?_map, List.getElem?_range h]; rfl
theorem zlS (p : Nat -> Bool) (a : Nat) (b : Bool) : (zfY p).setIfInBounds a (.bool b) = zfY fun r => if r = a then b else p r := by
 unfold zfY
 apply Array.ext_getElem?
 intro i;rw [Array.getElem?_setIfInBounds];simp only [List.getElem?_toArray, List.getElem?_map, List.size_toArray, List.length_map, List.length_range]
 by_cases hi : i < 16
 ·rw [List.getElem?_range hi]
  by_cases e : a = i
  ·subst e; simp [hi]
  ·simp [e, show ¬ i = a from fun h => e h.symm]
 ·have h2 : (List.range 16)[i]? = none := List.getElem?_eq_none (by simp; omega);rw [h2]
  split
  ·rw [if_neg (by omega)]; rfl
  ·rfl
theorem zjI : zfY (fun _ => false) = #[.bool false, .bool false, .bool false, .bool false, .bool false, .bool false, .bool false, .bool false, .bool false, .bool false, .bool false, .bool false, .bool false, .bool false, .bool false, .bool false] := rfl
theorem zgX (ns : List zam) (q : Nat) (x : zam) (h : ns[q]? = some x) (r : Nat) : zbL (ns.take (q + 1)) r = (zbL (ns.take q) r || decide ((r : Int) ∈ zaD x)) := by
 unfold zbL;rw [List.take_add_one, h];simp
def ze7 (p : Nat -> Bool) (l : List Int) (r : Nat) : Bool := p r || decide ((r : Int) ∈ l)
theorem zkp (p : Nat -> Bool) : ze7 p [] = p := by funext r; simp [ze7]
theorem zjg (p : Nat -> Bool) (l : List Int) (a : Nat) : (fun r => if r = a then true else ze7 p l r) = ze7 p (l ++ [(a : Int)]) := by
 funext r
 unfold ze7
 by_cases e : r = a
 ·subst e; simp
 ·simp [e, show ¬ (r : Int) = a by omega]
theorem zjJ {p q : Nat -> Bool} (h : ∀ r, r < 16 -> p r = q r) : zfY p = zfY q := by
 unfold zfY
 congr 1
 exact List.map_congr_left fun r hr => by rw [h r (List.mem_range.1 hr)]
theorem zjF {w : World} {g : Nat} {t : TypeId} {p : Nat -> Bool} {a : Addr} {k : IntKind} {z : Int} (h : Blk w g t (zfY p)) (hc : w.cell? a = some (.int k z)) : a.block ≠ g := by
 intro e;unfold Blk at h;unfold World.cell? at hc;rw [e, h] at hc;simp only at hc
 split at hc
 ·cases hc
 ·by_cases hi : a.off < 16
  ·rw [zgS p a.off hi] at hc;injection hc with hc
   cases hc
  ·rw [Array.getElem?_eq_none (by simp [zfY]; omega)] at hc
   cases hc
theorem zhk (ns : List zam) (q : Nat) (x : zam) (h : ns[q]? = some x) : ze7 (zbL (ns.take q)) (zaD x) = zbL (ns.take (q + 1)) := by
 funext r
 rw [zgX ns q x h]; rfl
def zm0 (w : World) (g : Nat) (a b c d e : Value) : World := ((((w.setCell ⟨g, 0, none⟩ a).setCell ⟨g, 1, none⟩ b).setCell ⟨g, 2, none⟩ c).setCell ⟨g, 3, none⟩ d).setCell ⟨g, 4, none⟩ e
theorem ziK {w : World} {H : Nat} {t : TypeId} {z0 z1 z2 z3 z4 : Value} (h : Blk w H t #[z0, z1, z2, z3, z4]) (a b c d e : Value) : Blk (zm0 w H a b c d e) H t #[a, b, c, d, e] :=
 ((((h.set_ 0 a).set_ 1 b).set_ 2 c).set_ 3 d).set_ 4 e
theorem zdS {w : World} {g base size n : Nat} {ty t : TypeId} {cs : Array Value} {v : Value} {xs : List Value} (h : w.ownsRow base ty size v n xs) (hg : Blk w g t cs) (ht : ty ≠ t) (a b c d e : Value) : (zm0 w g a b c d e).ownsRow base ty size v n xs := by
 have hne := zaq h hg ht;exact ownsRow_setCell_other (ownsRow_setCell_other (ownsRow_setCell_other (ownsRow_setCell_other (ownsRow_setCell_other h (a := ⟨g, 0, none⟩) hne a) (a := ⟨g, 1, none⟩) hne b) (a := ⟨g, 2, none⟩) hne c) (a := ⟨g, 3, none⟩) hne d) (a := ⟨g, 4, none⟩) hne e
theorem zgi {w w0 : World} {B g : Nat} (h : Below B w0 w) (hg : B <= g) (a b c d e : Value) : Below B w0 (zm0 w g a b c d e) :=
 ((((h.setCell (p := ⟨g, 0, none⟩) hg a).setCell (p := ⟨g, 1, none⟩) hg b).setCell (p := ⟨g, 2, none⟩) hg c).setCell (p := ⟨g, 3, none⟩) hg d).setCell (p := ⟨g, 4, none⟩) hg e
theorem zdt {fn : Func} {p u : Tmp} {ty : TypeId} {P : Program} (h : fn.results = #[.cell p ty, .tmp u]) (tmps : Array Value) (w : World) (g : Nat) (t : TypeId) (cs : Array Value) (fr : Nat × Nat) (d : Array Field)
  (hp : tmps.getD p undef = .pointer (some ⟨g, 0, none⟩)) (hg : w.heap[g]? = some (.cells cs t fr))
  (hu : P.underlying ty = some (.struct d)) (hi : (P.info? ty).map (·.size) = some cs.size) :
  (results fn tmps).run P w = .ok (.tuple #[.agg cs, tmps.getD u undef]) w := za5 h tmps w g t cs fr d hp hg hu hi
theorem Blk.set_fst {w : World} {g : Nat} {t : TypeId} {s a b c d : Value} (h : Blk w g t #[s, a, b, c, d]) (u : Value) : Blk (w.setCell ⟨g, 0, none⟩ u) g t #[u, a, b, c, d] := by
 have h2 := h.set_ 0 u
 simpa using h2
theorem Blk.set5_1 {w : World} {g : Nat} {t : TypeId} {s a b c d : Value} (h : Blk w g t #[s, a, b, c, d]) (u : Value) : Blk (w.setCell ⟨g, 1, none⟩ u) g t #[s, u, b, c, d] := by
 have h2 := h.set_ 1 u
 simpa using h2
theorem Blk.set5_2 {w : World} {g : Nat} {t : TypeId} {s a b c d : Value} (h : Blk w g t #[s, a, b, c, d]) (u : Value) : Blk (w.setCell ⟨g, 2, none⟩ u) g t #[s, a, u, c, d] := by
 have h2 := h.set_ 2 u
 simpa using h2
theorem Blk.set5_3 {w : World} {g : Nat} {t : TypeId} {s a b c d : Value} (h : Blk w g t #[s, a, b, c, d]) (u : Value) : Blk (w.setCell ⟨g, 3, none⟩ u) g t #[s, a, b, u, d] := by
 have h2 := h.set_ 3 u
 simpa using h2
theorem Blk.set5_4 {w : World} {g : Nat} {t : TypeId} {s a b c d : Value} (h : Blk w g t #[s, a, b, c, d]) (u : Value) : Blk (w.setCell ⟨g, 4, none⟩ u) g t #[s, a, b, c, u] := by
 have h2 := h.set_ 4 u
 simpa using h2
theorem Below.drew' {B : Nat} {a w : World} (h : Below B a w) : Below B a w.drew := ⟨h.os, h.tape, h.output, h.size, h.block⟩
theorem zfb (w : World) (L : Nat) (s : Int) (a b c d : Value) (hL : Blk w L 73 #[.int .i64 s, a, b, c, d]) (hs0 : 0 <= s) (hs1 : s < 1000000) :
  Calls Tryd.prog 37 #[.pointer (some ⟨L, 0, none⟩)] w fun e w' => e = .returned (.int .i64 s) /\ w' = w.setCell ⟨L, 0, none⟩ (.int .i64 (s + 8)) := by
 have h2 := hL.set_fst (.int .i64 (s + 8));have kl0 := bc hL 0;have fl0 := Blk.frozen hL 0;have k2 := h2.cell 0;simp only [List.getElem?_toArray, List.getElem?_cons_zero] at k2;obtain ⟨HL, H2⟩ := hd2 hL h2;clear h2 hL;go_enter Tryd.func37, Tryd.ntmps37;go_wp2_with fail;go_ret;exact ⟨rfl, rfl⟩
structure EmS where
 code : List zaw
 calls : Nat -> Option Nat
 cn : Nat
 sites : List (Nat × List Int)
 jumps : Nat -> Option Nat
 jn : Nat
 labels : Nat -> Option Nat
 ln : Nat
 zeros : List Nat
 nulls : List Nat
def w32 (x : Int) : Int := IntKind.i32.wrap x
def EmS.put (E : EmS) (l : List zaw) : EmS := { E with code := E.code ++ l }
def EmS.jump (E : EmS) (op a label : Nat) : EmS := { E with jumps := upd E.jumps E.code.length label, jn := E.jn + 1, code := E.code ++ [⟨op, 0, a, 0, 0⟩] }
def EmS.mark (E : EmS) (label : Nat) : EmS := { E with labels := upd E.labels label E.code.length, ln := E.ln + 1 }
def zdW (p : Nat) : Int := 8 * ((p : Int) - 16)
def EmS.store (E : EmS) (off : Int) (r : Nat) : EmS := E.put [⟨5, 0, 14, r, w32 off⟩]
def EmS.read (E : EmS) (p into : Nat) : EmS := if p < 16 then E else E.put [⟨4, into, 14, 0, w32 (zdW p)⟩]
def zax (p into : Nat) : Nat := if p < 16 then p else into
def EmS.done (E : EmS) (p r : Nat) : EmS := if p < 16 then E else E.store (zdW p) r
def zjO (v : Int) : Int := IntKind.i32.wrap (IntKind.u32.wrap v)
def zk0 (v : Int) : Bool := !(IntKind.u64.wrap (zjO v) == v)
def EmS.number (E : EmS) (r : Nat) (v : Int) : EmS := if zk0 v then (E.put [⟨1, r, 0, 0, zjO v⟩]).put [⟨2, r, 0, 0, zjO (v / 4294967296)⟩] else E.put [⟨1, r, 0, 0, zjO v⟩]
def EmS.sz (E : EmS) : Nat := E.code.length + E.cn + E.sites.length + E.jn + E.ln + E.zeros.length + E.nulls.length
structure EmX where
 ep : Nat
 fp : Nat
 ga : Addr
 ns : Nat
 nc : Nat
 size : Int
 res : Int
 saves : List Mv
 slv : Value
 clv : Value
 svv : Value
 defers : Bool
 pv : Value
 stv : Value
 fv : Value
def zkM (X : EmX) (cv : Value) (Mc : Nat) (sv : Value) : Array Value := #[cv, X.stv, .map (some Mc), X.fv, sv]
def zeN (X : EmX) (J L : Nat) (zv nv : Value) : Array Value := #[.pointer (some ⟨X.ep, 0, none⟩), .pointer (some X.ga), .int .i64 X.size, X.slv, X.clv, X.svv, .int .i64 X.res, .map (some J), .map (some L), zv, nv, .bool X.defers, X.pv]
def zd9 (l : List Nat) : List Value := l.map fun i => .int .i64 (i : Nat)
def zaC (sites : List (Nat × List Int)) (lvs : List Value) : List Value := (sites.zip lvs).flatMap fun p => [.int .i64 (p.1.1 : Nat), p.2]
def zaM (sites : List (Nat × List Int)) (lvs : List Value) : List It := (sites.zip lvs).map fun p => .row p.2 3 1 p.1.2.length (p.1.2.map (Value.int .i64))
def za1 (X : EmX) (E : EmS) (cv sv zv nv : Value) (Mc J L : Nat) (lvs : List Value) : List It :=
 [.blk X.ep 67 (zkM X cv Mc sv), .row cv 71 5 E.code.length (E.code.flatMap zaW), .map Mc E.cn E.calls,
  .blk X.fp 101 (zeN X J L zv nv), .map J E.jn E.jumps, .map L E.ln E.labels, .row zv 3 1 E.zeros.length (zd9 E.zeros), .row nv 3 1 E.nulls.length (zd9 E.nulls),
  .row X.slv 3 1 X.ns ((zaL 0 X.ns).map (Value.int .i64)), .row X.clv 3 1 X.nc ((zaL X.ns X.nc).map (Value.int .i64)), .row X.svv 50 2 X.saves.length (za9 X.saves), .row sv 112 2 E.sites.length (zaC E.sites lvs)]
def zaz (w : World) (base : Nat) (X : EmX) (E : EmS) (rest : List It) : Prop :=
 ∃ cv sv zv nv Mc J L lvs, lvs.length = E.sites.length /\ zaA w base (za1 X E cv sv zv nv Mc J L lvs ++ (zaM E.sites lvs ++ rest))
theorem zmW : (Tryd.prog.info? 71).map (fun i => (i.zero, i.size, i.bytes)) = some (some (.agg #[.int .u8 0, .int .i64 0, .int .i64 0, .int .i64 0, .int .i32 0]), 5, 40) := by kernel_rfl
theorem zje (l : List zaw) : ∀ u ∈ l.flatMap zaW, u.oneCell' = true := by
 intro u hu;obtain ⟨i, _, hi⟩ := List.mem_flatMap.1 hu;simp only [zaW, List.mem_cons, List.not_mem_nil, or_false] at hi
 rcases hi with rfl | rfl | rfl | rfl | rfl <;> rfl
theorem zj3 {w : World} {base i j ep n m c B : Nat} {l : List It} {cv a2 a3 a4 a5 : Value} {code ms : List zaw} {A : Option Addr} (h : zaA w base l) (hi : l[i]? = some (.blk ep 67 #[cv, a2, a3, a4, a5])) (hj : l[j]? = some (.row cv 71 5 n (code.flatMap zaW))) (hij : i ≠ j)
  (hR : zal w B 5 A m (ms.flatMap zaW)) (hnm : n + m <= 1099511627776) (hbase : base <= w.heap.size) :
  Calls Tryd.prog 18 #[.pointer (some ⟨ep, 0, none⟩), .slice A m c] w fun e w' => e = .returned (.tuple #[]) /\ (∃ cv', zaA w' base ((l.set j (.row cv' 71 5 (n + m) ((code ++ ms).flatMap zaW))).set i (.blk ep 67 #[cv', a2, a3, a4, a5]))) /\ Below base w w' := by
 obtain ⟨i0, hi0, hz0, hz1, hz2⟩ := info_parts zmW;have hB := h.blk hi;have hO := h.own hj;obtain ⟨CA, cc, rfl, _⟩ := zak hO;have hne := h.ne_row hi hj hij;have hep := (h.at_ hi).1;have k0 := bc hB 0;obtain ⟨H, Hi, Hj, HR, HB, HO⟩ := hd6 h hi hj hR hB hO;clear hO hB hR hj hi h;go_enter Tryd.func18, Tryd.ntmps18
 go_wp2_with (first
  | (at_builtin
     refine zau _ rfl (.tmp 8) (.tmp 9) _ rfl base 71 i0 _ 5 40 Tryd.underlying65 hi0 hz0 hz1 hz2 rfl (by omega) (.slice CA n cc) n (code.flatMap zaW) rfl HO.out B A m c (ms.flatMap zaW) rfl HR.out ?c1 ?c2 ?c3 ?c4 ?_
     case c1 => exact zje ms
     case c2 => simp only [maxLen]; omega
     case c3 => omega
     case c4 => exact hbase
     intro v2 w2 hown2 hg2 hat2;obtain ⟨A2, x2, rfl, _⟩ := zak hown2;have hB2 := HB.out.grown hg2 hne;have k2 := Blk.cell hB2 0;have f2 := Blk.frozen hB2 0;simp only [List.getElem?_toArray, List.getElem?_cons_zero, List.getElem?_cons_succ] at k2;have Hown2 := Lib.hid hown2;have Hg2 := Lib.hid hg2;have Hat2 := Lib.hid hat2
     clear hB2 hown2 hg2 hat2))
 have hI2 := H.out.push Hj.out Hown2.out Hg2.out (by
  rcases Hat2.out with e | e
  ·exact .inl e
  ·exact .inr fun b hb => by rw [e] at hb; injection hb with hb; omega)
 have hi2 : (l.set j (.row (.slice A2 (n + m) x2) 71 5 (n + m) (code.flatMap zaW ++ ms.flatMap zaW)))[i]? = some (.blk ep 67 #[.slice CA n cc, a2, a3, a4, a5]) := by
  rw [List.getElem?_set_ne (Ne.symm hij)]; exact Hi.out
 have hI3 := hI2.set_ hi2 0 (.slice A2 (n + m) x2);simp only [List.setIfInBounds_toArray, List.set_cons_zero] at hI3;have hb2 : Below base w w2 := (Below.refl base w).grown Hg2.out hbase (fun k e => (HO.out.lt k e).1);have hb3 := hb2.setCell (p := ⟨ep, 0, none⟩) hep (.slice A2 (n + m) x2);rw [<- List.flatMap_append] at hI3;obtain ⟨HI2, Hi2, HI3, Hb2, Hb3⟩ := hd5 hI2 hi2 hI3 hb2 hb3;clear hb3 hb2 hI3 hi2 hI2;go_wp2_with fail;go_end0;exact ⟨rfl, ⟨(.slice A2 (n + m) x2), HI3.out⟩, Hb3.out⟩
section
variable {w w' : World} {base : Nat} {X : EmX} {E : EmS} {rest : List It}
theorem zaz.keep (h : zaz w base X E rest) (hg : w.grownBy w' none) : zaz w' base X E rest := by
 obtain ⟨cv, sv, zv, nv, Mc, J, L, lvs, h1, h2⟩ := h;exact ⟨cv, sv, zv, nv, Mc, J, L, lvs, h1, h2.keep hg⟩
theorem zaz.alloc (h : zaz w base X E rest) (o : Obj) : zaz (w.alloc o) base X E rest := h.keep (World.grownBy_alloc w o none)
theorem zaz.drew (h : zaz w base X E rest) : zaz w.drew base X E rest := h.keep (zb8 (World.grownBy.refl w none))
theorem zaz.below (h : zaz w base X E rest) (hb : Below w.heap.size w w') : zaz w' base X E rest := h.keep (zah hb none)
theorem zaz.fn (h : zaz w base X E rest) : w.cell? ⟨X.fp, 0, none⟩ = some (.pointer (some ⟨X.ep, 0, none⟩)) /\ w.cell? ⟨X.fp, 1, none⟩ = some (.pointer (some X.ga)) /\ w.cell? ⟨X.fp, 2, none⟩ = some (.int .i64 X.size) /\ w.cell? ⟨X.fp, 3, none⟩ = some X.slv /\ w.cell? ⟨X.fp, 4, none⟩ = some X.clv /\ w.cell? ⟨X.fp, 5, none⟩ = some X.svv /\ w.cell? ⟨X.fp, 6, none⟩ = some (.int .i64 X.res) /\ w.cell? ⟨X.fp, 11, none⟩ = some (.bool X.defers) /\ w.cell? ⟨X.fp, 12, none⟩ = some X.pv := by
 obtain ⟨cv, sv, zv, nv, Mc, J, L, lvs, _, hI⟩ := h;have hb := hI.blk (i := 3) rfl;exact ⟨hb.cell 0, hb.cell 1, hb.cell 2, hb.cell 3, hb.cell 4, hb.cell 5, hb.cell 6, hb.cell 11, hb.cell 12⟩
theorem zaz.code (h : zaz w base X E rest) : ∃ CA cc, w.cell? ⟨X.ep, 0, none⟩ = some (.slice CA E.code.length cc) := by
 obtain ⟨cv, sv, zv, nv, Mc, J, L, lvs, _, hI⟩ := h;have hb := hI.blk (i := 0) rfl;obtain ⟨CA, cc, hcv, _⟩ := zak (hI.own (i := 1) rfl);subst hcv;exact ⟨CA, cc, hb.cell 0⟩
theorem zaz.size (h : zaz w base X E rest) : base <= w.heap.size := by
 obtain ⟨cv, sv, zv, nv, Mc, J, L, lvs, _, hI⟩ := h;have := (hI.at_ (i := 0) rfl).lt X.ep rfl
 omega
theorem zaz.fpb (h : zaz w base X E rest) : base <= X.fp /\ X.fp < w.heap.size /\ base <= X.ep /\ X.ep < w.heap.size := by
 obtain ⟨cv, sv, zv, nv, Mc, J, L, lvs, _, hI⟩ := h;have h1 := (hI.at_ (i := 0) rfl).lt X.ep rfl;have h2 := (hI.at_ (i := 3) rfl).lt X.fp rfl;exact ⟨h2.1, h2.2, h1.1, h1.2⟩
theorem zaz.slot (h : zaz w base X E rest) {k : Nat} (hk : k < X.ns) : ∃ ad c, X.slv = .slice (some ad) X.ns c /\ w.cell? (ad.add k) = some (.int .i64 (8 * (k : Int))) := by
 obtain ⟨cv, sv, zv, nv, Mc, J, L, lvs, _, hI⟩ := h;have ho := hI.own (i := 8) rfl;obtain ⟨A, c, hv, _, _, hR⟩ := zak ho;obtain ⟨ad, u, hA, _, hu, hc⟩ := hR.at_ hk;subst hA;refine ⟨ad, c, hv, ?_⟩;rw [hc];unfold zaL at hu;rw [List.getElem?_map, List.getElem?_map, List.getElem?_range hk] at hu;injection hu with hu;rw [<- hu];simp
theorem zaz.cellOff (h : zaz w base X E rest) {k : Nat} (hk : k < X.nc) : ∃ ad c, X.clv = .slice (some ad) X.nc c /\ w.cell? (ad.add k) = some (.int .i64 (8 * ((X.ns + k : Nat) : Int))) := by
 obtain ⟨cv, sv, zv, nv, Mc, J, L, lvs, _, hI⟩ := h;have ho := hI.own (i := 9) rfl;obtain ⟨A, c, hv, _, _, hR⟩ := zak ho;obtain ⟨ad, u, hA, _, hu, hc⟩ := hR.at_ hk;subst hA;refine ⟨ad, c, hv, ?_⟩;rw [hc];unfold zaL at hu;rw [List.getElem?_map, List.getElem?_map, List.getElem?_range hk] at hu;injection hu with hu;rw [<- hu];simp
theorem za6 {A : Option Addr} {m c B : Nat} {ms : List zaw} (h : zaz w base X E rest) (hR : zal w B 5 A m (ms.flatMap zaW)) (hm : ms.length = m) (hsz : E.sz + m <= 1099511627776) :
  Calls Tryd.prog 18 #[.pointer (some ⟨X.ep, 0, none⟩), .slice A m c] w fun e w' => e = .returned (.tuple #[]) /\ zaz w' base X (E.put ms) rest /\ Below base w w' := by
 have hbase := h.size;obtain ⟨cv, sv, zv, nv, Mc, J, L, lvs, h1, hI⟩ := h;refine (zj3 (i := 0) (j := 1) (n := E.code.length) (code := E.code) (c := c) hI rfl rfl (by omega) hR (by unfold EmS.sz at hsz; omega) hbase).mono ?_;rintro e w' ⟨he, ⟨cv', h2⟩, hb⟩;refine ⟨he, ⟨cv', sv, zv, nv, Mc, J, L, lvs, h1, ?_⟩, hb⟩
 have hl : E.code.length + m = (E.code ++ ms).length := by rw [List.length_append, hm]
 rw [hl] at h2;exact h2
end
end Go.Proofs.YtnfjjliiajaijaaDoor
