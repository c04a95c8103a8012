/- Walks of chip's fields and good: which instructions there are. Conditions: numbers fit their kinds. -/
import Derived.Test.YtnnlhhokljjghaaChip4
import Derived.Lib.BytesEntry
import Derived.Laws.Externs
import Derived.Laws.IdiomStrings
set_option linter.unusedVariables false
set_option linter.unusedSimpArgs false
namespace Go.Proofs.Ytnnlhhokljjghaa
open Go.RowKit

/-- an instruction of the machine -/
structure MInstD where
  op : Int
  d : Int
  a : Int
  b : Int
  imm : Int
def mcells (i : MInstD) : List Value := [.int .u8 i.op, .int .i64 i.d, .int .i64 i.a, .int .i64 i.b, .int .i32 i.imm]
structure MInstD.Wf (i : MInstD) : Prop where
  op : 0 ≤ i.op ∧ i.op ≤ 255
  d : -9223372036854775808 ≤ i.d ∧ i.d ≤ 9223372036854775807
  a : -9223372036854775808 ≤ i.a ∧ i.a ≤ 9223372036854775807
  b : -9223372036854775808 ≤ i.b ∧ i.b ≤ 9223372036854775807
  imm : -2147483648 ≤ i.imm ∧ i.imm ≤ 2147483647
/-- the letters of the fields that an operation uses -/
def lettersOf (op : Int) : Option (List Int) :=
  if op = 1 ∨ op = 2 then some [68, 73] else if op = 3 then some [68, 65] else if op = 4 ∨ op = 6 then some [68, 65, 73] else if op = 5 then some [65, 66, 73] else if op = 8 then some [65, 73]
  else if op = 7 ∨ op = 9 ∨ op = 11 ∨ op = 12 then some [73] else if op = 10 then some [] else if op = 13 then some [68, 65, 66, 73] else if 39 ≤ op ∧ op ≤ 52 then some [68, 65, 66] else none
set_option maxRecDepth 100000 in
set_option maxHeartbeats 2000000 in
theorem fields_some (op : Int) (cs : List Int) (w : World) (h : lettersOf op = some cs) :
    Calls Try.prog 45 #[.int .u8 op] w fun e w' => e = .returned (.tuple #[.string (strOfNums cs), .bool true]) ∧ w = w' := by
  by_cases h1 : op = 1 ∨ op = 2 ∨ op = 3 ∨ op = 4 ∨ op = 5 ∨ op = 6 ∨ op = 7 ∨ op = 8 ∨ op = 9 ∨ op = 10 ∨ op = 11 ∨ op = 12 ∨ op = 13
  · rcases h1 with rfl | rfl | rfl | rfl | rfl | rfl | rfl | rfl | rfl | rfl | rfl | rfl | rfl
    all_goals
      simp only [lettersOf] at h
      simp at h
      subst h
      go_enter Try.func45, Try.ntmps45
      go_wp2_with fail
      go_ret2
      exact ⟨by rfl, rfl⟩
  · have h2 : 39 ≤ op ∧ op ≤ 52 ∧ cs = [68, 65, 66] := by
      unfold lettersOf at h
      rw [if_neg (by omega), if_neg (by omega), if_neg (by omega), if_neg (by omega), if_neg (by omega), if_neg (by omega), if_neg (by omega), if_neg (by omega)] at h
      by_cases h3 : 39 ≤ op ∧ op ≤ 52
      · rw [if_pos h3] at h
        injection h with h
        exact ⟨h3.1, h3.2, h.symm⟩
      · rw [if_neg h3] at h; cases h
    obtain ⟨g1, g2, rfl⟩ := h2
    have d1 : (op == 1) = false ∧ (op == 2) = false ∧ (op == 3) = false ∧ (op == 4) = false ∧ (op == 5) = false ∧ (op == 6) = false ∧ (op == 7) = false ∧ (op == 8) = false ∧ (op == 9) = false ∧ (op == 10) = false ∧ (op == 11) = false ∧ (op == 12) = false ∧ (op == 13) = false := by
      simp only [beq_eq_false_iff_ne, ne_eq]; omega
    have g3 : (32 : Int) ≤ op := by omega
    have g4 : (7 : Int) ≤ op - 32 := by omega
    have g5 : op - 32 ≤ 20 := by omega
    clear h h1
    go_enter Try.func45, Try.ntmps45
    go_wp2_with fail
    go_ret2
    exact ⟨by rfl, rfl⟩
set_option maxRecDepth 100000 in
set_option maxHeartbeats 2000000 in
theorem fields_none (op : Int) (w : World) (ho : 0 ≤ op ∧ op ≤ 255) (h : lettersOf op = none) :
    Calls Try.prog 45 #[.int .u8 op] w fun e w' => (∃ s, e = .returned (.tuple #[.string s, .bool false])) ∧ w = w' := by
  have h2 : ¬ (1 ≤ op ∧ op ≤ 13) ∧ ¬ (39 ≤ op ∧ op ≤ 52) := by
    refine ⟨fun h1 => ?_, fun h1 => ?_⟩
    · have : op = 1 ∨ op = 2 ∨ op = 3 ∨ op = 4 ∨ op = 5 ∨ op = 6 ∨ op = 7 ∨ op = 8 ∨ op = 9 ∨ op = 10 ∨ op = 11 ∨ op = 12 ∨ op = 13 := by omega
      rcases this with rfl | rfl | rfl | rfl | rfl | rfl | rfl | rfl | rfl | rfl | rfl | rfl | rfl <;> simp [lettersOf] at h
    · unfold lettersOf at h
      rw [if_neg (by omega), if_neg (by omega), if_neg (by omega), if_neg (by omega), if_neg (by omega), if_neg (by omega), if_neg (by omega), if_neg (by omega), if_pos h1] at h
      cases h
  obtain ⟨g1, g2⟩ := h2
  have d1 : (op == 1) = false ∧ (op == 2) = false ∧ (op == 3) = false ∧ (op == 4) = false ∧ (op == 5) = false ∧ (op == 6) = false ∧ (op == 7) = false ∧ (op == 8) = false ∧ (op == 9) = false ∧ (op == 10) = false ∧ (op == 11) = false ∧ (op == 12) = false ∧ (op == 13) = false := by
    simp only [beq_eq_false_iff_ne, ne_eq]; omega
  have hc : ¬ 32 ≤ op ∨ (32 ≤ op ∧ ¬ 7 ≤ op - 32) ∨ (32 ≤ op ∧ 7 ≤ op - 32 ∧ ¬ op - 32 ≤ 20) := by omega
  clear h g1 g2
  rcases hc with c1 | ⟨c1, c2⟩ | ⟨c1, c2, c3⟩
  all_goals
    go_enter Try.func45, Try.ntmps45
    go_wp2_with fail
    go_ret2
    exact ⟨⟨_, rfl⟩, rfl⟩
theorem indexByte_any (b n c : Nat) (xs : List Int) (cv : Int) (w : World) (hx : xs.length = n) (hc : ∀ i, i < n → w.cell? ⟨b, 0 + i, none⟩ = some (.int .u8 (xs.getD i 0))) :
    Calls Try.prog 46 #[.slice (some ⟨b, 0, none⟩) n c, .int .u8 cv] w fun e w' => e = .returned (.int .i64 (Lib.indexByte (Lib.bytesOf xs) cv.toNat.toUInt8)) ∧ w = w' := by
  go_enter Try.func46, Try.ntmps46
  go_wp2_with fail
  rw [run_callFunc_extern Try.func52 (by kernel_rfl) (by kernel_rfl) (by kernel_rfl) (e := Extern.BytealgIndexByte.indexByte) (by kernel_rfl), Lib.run_indexByteSlice w b 0 n c xs hx hc cv]
  simp only [Result.andThen]
  rw [Oper.upon_value]
  go_wp2_with fail
  go_ret
  exact ⟨rfl, rfl⟩
/-- a string's bytes, in a row of their own -/
theorem conv_back (W : World) (xs : List Int) (hb : ∀ x ∈ xs, 0 ≤ x ∧ x < 256) : ∃ cp W', (convert 9 23 (.string (strOfNums xs))).run Try.prog W = .ok (.slice (some ⟨W.heap.size, 0, none⟩) xs.length cp) W' ∧
    xs.length ≤ cp ∧ Reads W' (W.heap.size + 1) 1 (some ⟨W.heap.size, 0, none⟩) xs.length (byteVals xs) ∧ Below W.heap.size W W' ∧ W'.heap.size = W.heap.size + 1 := by
  have hs := run_bytes_of_string (P := Try.prog) W 9 23 5 (strOfNums xs) Try.underlying9 Try.underlying23 Try.underlying5
  rw [strOfNums_size] at hs
  refine ⟨_, _, hs, by have := grownCap_ge W (strOfNums xs).size 0 5; rw [strOfNums_size] at this; exact this, ⟨by simp [byteVals], fun hn => ⟨_, rfl, Nat.lt_succ_self _, fun j u hu => ?_⟩⟩, ((Below.refl W.heap.size W).drew).alloc (Nat.le_refl _) _, by simp⟩
  refine World.news_of_block (heap_alloc_new W.drew _) j u ?_
  rw [byteVals, List.getElem?_map, Option.map_eq_some_iff] at hu
  obtain ⟨x, hx, rfl⟩ := hu
  have hjl := (List.getElem?_eq_some_iff.1 hx).1
  obtain ⟨x0, x1⟩ := hb x (List.mem_of_getElem? hx)
  simp only [bytesRow, Array.toList_append, Array.toList_map, strOfNums]
  rw [List.getElem?_append_left (by simpa using hjl), List.getElem?_map, List.getElem?_map, hx]
  simp only [Option.map_some, Option.some.injEq, Value.int.injEq, true_and]
  rw [UInt8.toNat_ofNat']
  omega
theorem letters_byte {op : Int} {cs : List Int} (h : lettersOf op = some cs) : ∀ x ∈ cs, 0 ≤ x ∧ x < 256 := by
  intro x hx
  unfold lettersOf at h
  repeat' split at h
  all_goals first | (cases h; simp at hx; done) | (cases h; simp at hx; omega) | cases h
def useK (cs : List Int) (c : Int) : Bool := decide (0 ≤ Lib.indexByte (Lib.bytesOf cs) c.toNat.toUInt8)
def fieldOk (u : Bool) (reg : Bool) (v : Int) : Bool := (u || v == 0) && (!reg || (decide (0 ≤ v) && decide (v ≤ 15)))
def specOk (op imm : Int) : Bool := if op = 11 ∨ op = 12 then decide (0 ≤ imm) && decide (imm ≤ 65536) && decide (imm % 8 = 0) else if op = 13 then decide (0 ≤ imm) else true
def partsOk (i : MInstD) (cs : List Int) (k : Nat) : Prop := (0 < k → fieldOk (useK cs 68) true i.d = true) ∧ (1 < k → fieldOk (useK cs 65) true i.a = true) ∧ (2 < k → fieldOk (useK cs 66) true i.b = true) ∧ (3 < k → fieldOk (useK cs 73) false i.imm = true)
def goodP (i : MInstD) : Bool := match lettersOf i.op with
  | none => false
  | some cs => fieldOk (useK cs 68) true i.d && fieldOk (useK cs 65) true i.a && fieldOk (useK cs 66) true i.b && fieldOk (useK cs 73) false i.imm && specOk i.op i.imm
set_option maxRecDepth 100000 in
set_option maxHeartbeats 4000000 in
theorem good_any (i : MInstD) (hw : i.Wf) (w : World) :
    Calls Try.prog 31 #[.agg (mcells i).toArray] w fun e w' => e = .returned (.bool (goodP i)) ∧ Below w.heap.size w w' := by
  obtain ⟨op, d, a, b, imm⟩ := i
  obtain ⟨⟨ho0, ho1⟩, ⟨hd0, hd1⟩, ⟨ha0, ha1⟩, ⟨hb0, hb1⟩, ⟨hi0, hi1⟩⟩ := hw
  simp only at *
  have hP0 := Blk.new w 30 #[.int .u8 op, .int .i64 d, .int .i64 a, .int .i64 b, .int .i32 imm]
  have hb00 : Below w.heap.size w (w.alloc (.cells #[.int .u8 op, .int .i64 d, .int .i64 a, .int .i64 b, .int .i32 imm] 30)) := (Below.refl _ _).alloc (Nat.le_refl _) _
  show Calls Try.prog 31 #[.agg #[.int .u8 op, .int .i64 d, .int .i64 a, .int .i64 b, .int .i32 imm]] w _
  have kp0 := Blk.cell hP0 0
  have kp1 := Blk.cell hP0 1
  have kp2 := Blk.cell hP0 2
  have kp3 := Blk.cell hP0 3
  have kp4 := Blk.cell hP0 4
  simp only [List.getElem?_toArray, List.getElem?_cons_zero, List.getElem?_cons_succ] at kp0 kp1 kp2 kp3 kp4
  rcases hl : lettersOf op with _ | cs
  · have hg : goodP ⟨op, d, a, b, imm⟩ = false := by unfold goodP; simp only [hl]
    have Hg := Lib.hid hg
    have Hl := Lib.hid hl
    have Hb00 := Lib.hid hb00
    have HP0 := Lib.hid hP0
    clear hP0 hb00 hl hg
    go_enter Try.func31, Try.ntmps31
    go_wp2_with fail
    refine (fields_none op _ ⟨ho0, ho1⟩ Hl.out).mono ?_
    rintro e w1 ⟨⟨s, rfl⟩, rfl⟩
    go_wp2_with fail
    go_ret
    exact ⟨by rw [Hg.out]; rfl, Hb00.out⟩
  · have hbytes := letters_byte hl
    have hQ0 := Blk.new2 w (.cells #[.int .u8 op, .int .i64 d, .int .i64 a, .int .i64 b, .int .i32 imm] 30) 3 #[.int .i64 d, .int .i64 a, .int .i64 b, .int .i64 imm]
    have hP1 := hP0.alloc (.cells #[.int .i64 d, .int .i64 a, .int .i64 b, .int .i64 imm] 3)
    have hb01 := hb00.alloc (by simp) (.cells #[.int .i64 d, .int .i64 a, .int .i64 b, .int .i64 imm] 3)
    have Hl := Lib.hid hl
    have Hb00 := Lib.hid hb00
    have HP0 := Lib.hid hP0
    have Hbytes := Lib.hid hbytes
    have HQ0 := Lib.hid hQ0
    have HP1 := Lib.hid hP1
    have Hb01 := Lib.hid hb01
    clear hb01 hP1 hQ0 hbytes hP0 hb00 hl
    go_enter Try.func31, Try.ntmps31
    go_wp2_with fail
    refine (fields_some op cs _ Hl.out).mono ?_
    rintro e w1 ⟨rfl, rfl⟩
    go_wp2_with fail
    go_loopw [27] (fun i wq => ∃ k : Nat, k ≤ 4 ∧ i = .int .i64 k ∧ Blk wq w.heap.size 30 #[.int .u8 op, .int .i64 d, .int .i64 a, .int .i64 b, .int .i32 imm] ∧ Blk wq (w.heap.size + 1) 3 #[.int .i64 d, .int .i64 a, .int .i64 b, .int .i64 imm] ∧ Below w.heap.size w wq ∧ Hid (partsOk ⟨op, d, a, b, imm⟩ cs k)) (fun i _ => 4 - (intOf i).toNat)
    case atStart => exact ⟨0, by omega, rfl, HP1.out, HQ0.out, Hb01.out, (show partsOk _ _ _ from ⟨by omega, by omega, by omega, by omega⟩)⟩
    case round =>
      obtain ⟨k, hk, rfl, hP, hQ, hbw, hparts⟩ := hrel
      clear kp0 kp1 kp2 kp3 kp4
      by_cases hk4 : k < 4
      · obtain ⟨cp, w5, hcv, hcp, hRd, hb5, hs5⟩ := conv_back wr cs Hbytes.out
        have hP5 := hP.below hb5 hP.lt
        have hQ5 := hQ.below hb5 hQ.lt
        have hbw5 := hbw.trans (hb5.mono hbw.size)
        have hcell : ∀ j, j < cs.length → w5.cell? ⟨wr.heap.size, 0 + j, none⟩ = some (.int .u8 (cs.getD j 0)) := fun j hj => by
          obtain ⟨ad, e1, _, hc⟩ := hRd.2 (by omega)
          injection e1 with e1
          subst e1
          have := hc j (.int .u8 (cs.getD j 0)) (by simp [byteVals, List.getElem?_eq_getElem hj, List.getD_eq_getElem?_getD])
          rwa [addr_at] at this
        have kq0 := Blk.cell hQ 0
        have kq1 := Blk.cell hQ 1
        have kq2 := Blk.cell hQ 2
        have kq3 := Blk.cell hQ 3
        simp only [List.getElem?_toArray, List.getElem?_cons_zero, List.getElem?_cons_succ] at kq0 kq1 kq2 kq3
        have HP := Lib.hid hP
        have HQ := Lib.hid hQ
        have Hbw := Lib.hid hbw
        have HP5 := Lib.hid hP5
        have HQ5 := Lib.hid hQ5
        have Hbw5 := Lib.hid hbw5
        have HRd := Lib.hid hRd
        have Hb5 := Lib.hid hb5
        have Hcell := Lib.hid hcell
        clear hcell hb5 hRd hbw5 hQ5 hP5 hbw hQ hP
        rcases (show k = 0 ∨ k = 1 ∨ k = 2 ∨ k = 3 by omega) with rfl | rfl | rfl | rfl
        · obtain ⟨r, hr⟩ : ∃ r, r = Lib.indexByte (Lib.bytesOf cs) (68 : Int).toNat.toUInt8 := ⟨_, rfl⟩
          have hu : useK cs 68 = decide (0 ≤ r) := by rw [useK, hr]
          have Hu := Lib.hid hu
          clear hu
          go_wp2_with fail
          refine (indexByte_any wr.heap.size cs.length cp cs 68 w5 rfl Hcell.out).mono ?_
          rintro e w6 ⟨rfl, rfl⟩
          rw [← hr]
          have Hr := Lib.hid hr
          clear hr
          have hcase : (0 ≤ r ∧ ¬ d < 0 ∧ ¬ 15 < d) ∨ (0 ≤ r ∧ d < 0) ∨ (0 ≤ r ∧ ¬ d < 0 ∧ 15 < d) ∨ (¬ 0 ≤ r ∧ (d != 0) = true) ∨ (¬ 0 ≤ r ∧ (d != 0) = false ∧ True) := by
            by_cases g1 : 0 ≤ r <;> by_cases g2 : d = 0 <;> simp [g1, g2] <;> omega
          rcases hcase with ⟨g1, g2, g3⟩ | ⟨g1, g2⟩ | ⟨g1, g2, g3⟩ | ⟨g1, g2⟩ | ⟨g1, g2, g3⟩
          · have hok : fieldOk (useK cs 68) true d = true := by rw [Hu.out, fieldOk]; simp; omega
            have hp : partsOk ⟨op, d, a, b, imm⟩ cs (0 + 1) := ⟨fun _ => hok, fun h => by omega, fun h => by omega, fun h => by omega⟩
            have Hp := Lib.hid hp
            have Hok := Lib.hid hok
            clear hok hp
            go_wp2_with fail
            exact ⟨⟨0 + 1, by omega, by go_num, HP5.out, HQ5.out, Hbw5.out, Hp.out⟩, by simp [intOf]⟩
          · have hno : fieldOk (useK cs 68) true d = false := by rw [Hu.out, fieldOk]; simp; omega
            have hg : goodP ⟨op, d, a, b, imm⟩ = false := by unfold goodP; simp only [Hl.out, hno, Bool.false_and, Bool.and_false]
            have Hg := Lib.hid hg
            have Hno := Lib.hid hno
            clear hno hg
            go_wp2_with fail
            go_ret
            exact ⟨by rw [Hg.out]; rfl, Hbw5.out⟩
          · have hno : fieldOk (useK cs 68) true d = false := by rw [Hu.out, fieldOk]; simp; omega
            have hg : goodP ⟨op, d, a, b, imm⟩ = false := by unfold goodP; simp only [Hl.out, hno, Bool.false_and, Bool.and_false]
            have Hg := Lib.hid hg
            have Hno := Lib.hid hno
            clear hno hg
            go_wp2_with fail
            go_ret
            exact ⟨by rw [Hg.out]; rfl, Hbw5.out⟩
          · have hno : fieldOk (useK cs 68) true d = false := by
              have g2' : d ≠ 0 := by simpa using g2
              rw [Hu.out, fieldOk]; simp [g1, g2']
            have hg : goodP ⟨op, d, a, b, imm⟩ = false := by unfold goodP; simp only [Hl.out, hno, Bool.false_and, Bool.and_false]
            have Hg := Lib.hid hg
            have Hno := Lib.hid hno
            clear hno hg
            go_wp2_with fail
            go_ret
            exact ⟨by rw [Hg.out]; rfl, Hbw5.out⟩
          · have hz : d = 0 := by simpa using g2
            have hok : fieldOk (useK cs 68) true d = true := by rw [Hu.out, fieldOk]; simp [hz]
            have g4 : ¬ d < 0 := by omega
            have g5 : ¬ 15 < d := by omega
            have Hz := Lib.hid hz
            clear hz
            have hp : partsOk ⟨op, d, a, b, imm⟩ cs (0 + 1) := ⟨fun _ => hok, fun h => by omega, fun h => by omega, fun h => by omega⟩
            have Hp := Lib.hid hp
            have Hok := Lib.hid hok
            clear hok hp
            go_wp2_with fail
            exact ⟨⟨0 + 1, by omega, by go_num, HP5.out, HQ5.out, Hbw5.out, Hp.out⟩, by simp [intOf]⟩
        · obtain ⟨r, hr⟩ : ∃ r, r = Lib.indexByte (Lib.bytesOf cs) (65 : Int).toNat.toUInt8 := ⟨_, rfl⟩
          have hu : useK cs 65 = decide (0 ≤ r) := by rw [useK, hr]
          have Hu := Lib.hid hu
          clear hu
          go_wp2_with fail
          refine (indexByte_any wr.heap.size cs.length cp cs 65 w5 rfl Hcell.out).mono ?_
          rintro e w6 ⟨rfl, rfl⟩
          rw [← hr]
          have Hr := Lib.hid hr
          clear hr
          have hcase : (0 ≤ r ∧ ¬ a < 0 ∧ ¬ 15 < a) ∨ (0 ≤ r ∧ a < 0) ∨ (0 ≤ r ∧ ¬ a < 0 ∧ 15 < a) ∨ (¬ 0 ≤ r ∧ (a != 0) = true) ∨ (¬ 0 ≤ r ∧ (a != 0) = false ∧ True) := by
            by_cases g1 : 0 ≤ r <;> by_cases g2 : a = 0 <;> simp [g1, g2] <;> omega
          rcases hcase with ⟨g1, g2, g3⟩ | ⟨g1, g2⟩ | ⟨g1, g2, g3⟩ | ⟨g1, g2⟩ | ⟨g1, g2, g3⟩
          · have hok : fieldOk (useK cs 65) true a = true := by rw [Hu.out, fieldOk]; simp; omega
            have hp : partsOk ⟨op, d, a, b, imm⟩ cs (1 + 1) := ⟨fun _ => hparts.out.1 (by omega), fun _ => hok, fun h => by omega, fun h => by omega⟩
            have Hp := Lib.hid hp
            have Hok := Lib.hid hok
            clear hok hp
            go_wp2_with fail
            exact ⟨⟨1 + 1, by omega, by go_num, HP5.out, HQ5.out, Hbw5.out, Hp.out⟩, by simp [intOf]⟩
          · have hno : fieldOk (useK cs 65) true a = false := by rw [Hu.out, fieldOk]; simp; omega
            have hg : goodP ⟨op, d, a, b, imm⟩ = false := by unfold goodP; simp only [Hl.out, hno, Bool.false_and, Bool.and_false]
            have Hg := Lib.hid hg
            have Hno := Lib.hid hno
            clear hno hg
            go_wp2_with fail
            go_ret
            exact ⟨by rw [Hg.out]; rfl, Hbw5.out⟩
          · have hno : fieldOk (useK cs 65) true a = false := by rw [Hu.out, fieldOk]; simp; omega
            have hg : goodP ⟨op, d, a, b, imm⟩ = false := by unfold goodP; simp only [Hl.out, hno, Bool.false_and, Bool.and_false]
            have Hg := Lib.hid hg
            have Hno := Lib.hid hno
            clear hno hg
            go_wp2_with fail
            go_ret
            exact ⟨by rw [Hg.out]; rfl, Hbw5.out⟩
          · have hno : fieldOk (useK cs 65) true a = false := by
              have g2' : a ≠ 0 := by simpa using g2
              rw [Hu.out, fieldOk]; simp [g1, g2']
            have hg : goodP ⟨op, d, a, b, imm⟩ = false := by unfold goodP; simp only [Hl.out, hno, Bool.false_and, Bool.and_false]
            have Hg := Lib.hid hg
            have Hno := Lib.hid hno
            clear hno hg
            go_wp2_with fail
            go_ret
            exact ⟨by rw [Hg.out]; rfl, Hbw5.out⟩
          · have hz : a = 0 := by simpa using g2
            have hok : fieldOk (useK cs 65) true a = true := by rw [Hu.out, fieldOk]; simp [hz]
            have g4 : ¬ a < 0 := by omega
            have g5 : ¬ 15 < a := by omega
            have Hz := Lib.hid hz
            clear hz
            have hp : partsOk ⟨op, d, a, b, imm⟩ cs (1 + 1) := ⟨fun _ => hparts.out.1 (by omega), fun _ => hok, fun h => by omega, fun h => by omega⟩
            have Hp := Lib.hid hp
            have Hok := Lib.hid hok
            clear hok hp
            go_wp2_with fail
            exact ⟨⟨1 + 1, by omega, by go_num, HP5.out, HQ5.out, Hbw5.out, Hp.out⟩, by simp [intOf]⟩
        · obtain ⟨r, hr⟩ : ∃ r, r = Lib.indexByte (Lib.bytesOf cs) (66 : Int).toNat.toUInt8 := ⟨_, rfl⟩
          have hu : useK cs 66 = decide (0 ≤ r) := by rw [useK, hr]
          have Hu := Lib.hid hu
          clear hu
          go_wp2_with fail
          refine (indexByte_any wr.heap.size cs.length cp cs 66 w5 rfl Hcell.out).mono ?_
          rintro e w6 ⟨rfl, rfl⟩
          rw [← hr]
          have Hr := Lib.hid hr
          clear hr
          have hcase : (0 ≤ r ∧ ¬ b < 0 ∧ ¬ 15 < b) ∨ (0 ≤ r ∧ b < 0) ∨ (0 ≤ r ∧ ¬ b < 0 ∧ 15 < b) ∨ (¬ 0 ≤ r ∧ (b != 0) = true) ∨ (¬ 0 ≤ r ∧ (b != 0) = false ∧ True) := by
            by_cases g1 : 0 ≤ r <;> by_cases g2 : b = 0 <;> simp [g1, g2] <;> omega
          rcases hcase with ⟨g1, g2, g3⟩ | ⟨g1, g2⟩ | ⟨g1, g2, g3⟩ | ⟨g1, g2⟩ | ⟨g1, g2, g3⟩
          · have hok : fieldOk (useK cs 66) true b = true := by rw [Hu.out, fieldOk]; simp; omega
            have hp : partsOk ⟨op, d, a, b, imm⟩ cs (2 + 1) := ⟨fun _ => hparts.out.1 (by omega), fun _ => hparts.out.2.1 (by omega), fun _ => hok, fun h => by omega⟩
            have Hp := Lib.hid hp
            have Hok := Lib.hid hok
            clear hok hp
            go_wp2_with fail
            exact ⟨⟨2 + 1, by omega, by go_num, HP5.out, HQ5.out, Hbw5.out, Hp.out⟩, by simp [intOf]⟩
          · have hno : fieldOk (useK cs 66) true b = false := by rw [Hu.out, fieldOk]; simp; omega
            have hg : goodP ⟨op, d, a, b, imm⟩ = false := by unfold goodP; simp only [Hl.out, hno, Bool.false_and, Bool.and_false]
            have Hg := Lib.hid hg
            have Hno := Lib.hid hno
            clear hno hg
            go_wp2_with fail
            go_ret
            exact ⟨by rw [Hg.out]; rfl, Hbw5.out⟩
          · have hno : fieldOk (useK cs 66) true b = false := by rw [Hu.out, fieldOk]; simp; omega
            have hg : goodP ⟨op, d, a, b, imm⟩ = false := by unfold goodP; simp only [Hl.out, hno, Bool.false_and, Bool.and_false]
            have Hg := Lib.hid hg
            have Hno := Lib.hid hno
            clear hno hg
            go_wp2_with fail
            go_ret
            exact ⟨by rw [Hg.out]; rfl, Hbw5.out⟩
          · have hno : fieldOk (useK cs 66) true b = false := by
              have g2' : b ≠ 0 := by simpa using g2
              rw [Hu.out, fieldOk]; simp [g1, g2']
            have hg : goodP ⟨op, d, a, b, imm⟩ = false := by unfold goodP; simp only [Hl.out, hno, Bool.false_and, Bool.and_false]
            have Hg := Lib.hid hg
            have Hno := Lib.hid hno
            clear hno hg
            go_wp2_with fail
            go_ret
            exact ⟨by rw [Hg.out]; rfl, Hbw5.out⟩
          · have hz : b = 0 := by simpa using g2
            have hok : fieldOk (useK cs 66) true b = true := by rw [Hu.out, fieldOk]; simp [hz]
            have g4 : ¬ b < 0 := by omega
            have g5 : ¬ 15 < b := by omega
            have Hz := Lib.hid hz
            clear hz
            have hp : partsOk ⟨op, d, a, b, imm⟩ cs (2 + 1) := ⟨fun _ => hparts.out.1 (by omega), fun _ => hparts.out.2.1 (by omega), fun _ => hok, fun h => by omega⟩
            have Hp := Lib.hid hp
            have Hok := Lib.hid hok
            clear hok hp
            go_wp2_with fail
            exact ⟨⟨2 + 1, by omega, by go_num, HP5.out, HQ5.out, Hbw5.out, Hp.out⟩, by simp [intOf]⟩
        · obtain ⟨r, hr⟩ : ∃ r, r = Lib.indexByte (Lib.bytesOf cs) (73 : Int).toNat.toUInt8 := ⟨_, rfl⟩
          have hu : useK cs 73 = decide (0 ≤ r) := by rw [useK, hr]
          have Hu := Lib.hid hu
          clear hu
          go_wp2_with fail
          refine (indexByte_any wr.heap.size cs.length cp cs 73 w5 rfl Hcell.out).mono ?_
          rintro e w6 ⟨rfl, rfl⟩
          rw [← hr]
          have Hr := Lib.hid hr
          clear hr
          have hcase : (0 ≤ r ∧ True ∧ True) ∨ (0 ≤ r ∧ False) ∨ (0 ≤ r ∧ False ∧ False) ∨ (¬ 0 ≤ r ∧ (imm != 0) = true) ∨ (¬ 0 ≤ r ∧ (imm != 0) = false ∧ True) := by
            by_cases g1 : 0 ≤ r <;> by_cases g2 : imm = 0 <;> simp [g1, g2] <;> omega
          rcases hcase with ⟨g1, g2, g3⟩ | ⟨g1, g2⟩ | ⟨g1, g2, g3⟩ | ⟨g1, g2⟩ | ⟨g1, g2, g3⟩
          · have hok : fieldOk (useK cs 73) false imm = true := by rw [Hu.out, fieldOk]; simp; omega
            have hp : partsOk ⟨op, d, a, b, imm⟩ cs (3 + 1) := ⟨fun _ => hparts.out.1 (by omega), fun _ => hparts.out.2.1 (by omega), fun _ => hparts.out.2.2.1 (by omega), fun _ => hok⟩
            have Hp := Lib.hid hp
            have Hok := Lib.hid hok
            clear hok hp
            go_wp2_with fail
            exact ⟨⟨3 + 1, by omega, by go_num, HP5.out, HQ5.out, Hbw5.out, Hp.out⟩, by simp [intOf]⟩
          · exact g2.elim
          · exact g2.elim
          · have hno : fieldOk (useK cs 73) false imm = false := by
              have g2' : imm ≠ 0 := by simpa using g2
              rw [Hu.out, fieldOk]; simp [g1, g2']
            have hg : goodP ⟨op, d, a, b, imm⟩ = false := by unfold goodP; simp only [Hl.out, hno, Bool.false_and, Bool.and_false]
            have Hg := Lib.hid hg
            have Hno := Lib.hid hno
            clear hno hg
            go_wp2_with fail
            go_ret
            exact ⟨by rw [Hg.out]; rfl, Hbw5.out⟩
          · have hz : imm = 0 := by simpa using g2
            have hok : fieldOk (useK cs 73) false imm = true := by rw [Hu.out, fieldOk]; simp [hz]
            have g4 : ¬ imm < 0 := by omega
            have g5 : ¬ 15 < imm := by omega
            have Hz := Lib.hid hz
            clear hz
            have hp : partsOk ⟨op, d, a, b, imm⟩ cs (3 + 1) := ⟨fun _ => hparts.out.1 (by omega), fun _ => hparts.out.2.1 (by omega), fun _ => hparts.out.2.2.1 (by omega), fun _ => hok⟩
            have Hp := Lib.hid hp
            have Hok := Lib.hid hok
            clear hok hp
            go_wp2_with fail
            exact ⟨⟨3 + 1, by omega, by go_num, HP5.out, HQ5.out, Hbw5.out, Hp.out⟩, by simp [intOf]⟩
      · obtain rfl : k = 4 := by omega
        obtain ⟨p1, p2, p3, p4⟩ := hparts.out
        have hg : goodP ⟨op, d, a, b, imm⟩ = specOk op imm := by
          unfold goodP
          simp only [Hl.out]
          rw [p1 (by omega), p2 (by omega), p3 (by omega), p4 (by omega)]
          simp
        have kp0 := Blk.cell hP 0
        have kp4 := Blk.cell hP 4
        simp only [List.getElem?_toArray, List.getElem?_cons_zero, List.getElem?_cons_succ] at kp0 kp4
        have Hg := Lib.hid hg
        have HP := Lib.hid hP
        have HQ := Lib.hid hQ
        have Hbw := Lib.hid hbw
        clear hbw hQ hP hg
        clear hparts p1 p2 p3 p4
        obtain ⟨r8, hr8⟩ : ∃ r8, imm.tmod 8 = r8 := ⟨_, rfl⟩
        by_cases h13 : op = 11 ∨ op = 12 ∨ op = 13
        · have h8 : 0 ≤ imm → r8 = imm % 8 := fun h => by rw [← hr8, Int.tmod_eq_emod_of_nonneg h]
          have hc : (0 ≤ imm ∧ imm ≤ 65536 ∧ (r8 == 0) = true) ∨ (0 ≤ imm ∧ imm ≤ 65536 ∧ (r8 == 0) = false) ∨ (0 ≤ imm ∧ ¬ imm ≤ 65536) ∨ (¬ 0 ≤ imm ∧ True) := by
            by_cases g1 : 0 ≤ imm <;> by_cases g2 : imm ≤ 65536 <;> by_cases g3 : r8 = 0 <;> simp [g1, g2, g3]
          have hs1 : (0 ≤ imm ∧ imm ≤ 65536 ∧ (r8 == 0) = true) → (op = 11 ∨ op = 12) → specOk op imm = true := fun ⟨g1, g2, g3⟩ g4 => by
            have := h8 g1
            have g3' : r8 = 0 := by simpa using g3
            unfold specOk
            rw [if_pos g4]
            simp [g1, g2]; omega
          have hs2 : (0 ≤ imm ∧ imm ≤ 65536 ∧ (r8 == 0) = false) → (op = 11 ∨ op = 12) → specOk op imm = false := fun ⟨g1, g2, g3⟩ g4 => by
            have := h8 g1
            have g3' : r8 ≠ 0 := by simpa using g3
            unfold specOk
            rw [if_pos g4]
            simp [g1, g2]; omega
          have hs3 : (0 ≤ imm ∧ ¬ imm ≤ 65536) → (op = 11 ∨ op = 12) → specOk op imm = false := fun ⟨g1, g2⟩ g4 => by
            unfold specOk; rw [if_pos g4]; simp [g1, g2]
          have hs4 : (¬ 0 ≤ imm) → (op = 11 ∨ op = 12 ∨ op = 13) → specOk op imm = false := fun g1 g4 => by
            unfold specOk
            by_cases g5 : op = 11 ∨ op = 12
            · rw [if_pos g5]; simp [g1]
            · rw [if_neg g5, if_pos (by omega)]; simp [g1]
          have hs5 : 0 ≤ imm → op = 13 → specOk op imm = true := fun g1 g4 => by
            unfold specOk; rw [if_neg (by omega), if_pos g4]; simp [g1]
          have Hs1 := Lib.hid hs1
          have Hs2 := Lib.hid hs2
          have Hs3 := Lib.hid hs3
          have Hs4 := Lib.hid hs4
          have Hs5 := Lib.hid hs5
          have H8 := Lib.hid h8
          clear h8 hs5 hs4 hs3 hs2 hs1
          rcases h13 with rfl | rfl | rfl
          · rcases hc with ⟨g1, g2, g3⟩ | ⟨g1, g2, g3⟩ | ⟨g1, g2⟩ | ⟨g1, _⟩
            · have hgg := Hs1.out ⟨g1, g2, g3⟩ (by omega)
              have Hgg := Lib.hid hgg
              clear hgg
              go_wp2_with fail
              go_ret
              exact ⟨by rw [Hg.out, Hgg.out]; rfl, Hbw.out⟩
            · have hgg := Hs2.out ⟨g1, g2, g3⟩ (by omega)
              have Hgg := Lib.hid hgg
              clear hgg
              go_wp2_with fail
              go_ret
              exact ⟨by rw [Hg.out, Hgg.out]; rfl, Hbw.out⟩
            · have hgg := Hs3.out ⟨g1, g2⟩ (by omega)
              have Hgg := Lib.hid hgg
              clear hgg
              go_wp2_with fail
              go_ret
              exact ⟨by rw [Hg.out, Hgg.out]; rfl, Hbw.out⟩
            · have hgg := Hs4.out g1 (by omega)
              have Hgg := Lib.hid hgg
              clear hgg
              go_wp2_with fail
              go_ret
              exact ⟨by rw [Hg.out, Hgg.out]; rfl, Hbw.out⟩
          · rcases hc with ⟨g1, g2, g3⟩ | ⟨g1, g2, g3⟩ | ⟨g1, g2⟩ | ⟨g1, _⟩
            · have hgg := Hs1.out ⟨g1, g2, g3⟩ (by omega)
              have Hgg := Lib.hid hgg
              clear hgg
              go_wp2_with fail
              go_ret
              exact ⟨by rw [Hg.out, Hgg.out]; rfl, Hbw.out⟩
            · have hgg := Hs2.out ⟨g1, g2, g3⟩ (by omega)
              have Hgg := Lib.hid hgg
              clear hgg
              go_wp2_with fail
              go_ret
              exact ⟨by rw [Hg.out, Hgg.out]; rfl, Hbw.out⟩
            · have hgg := Hs3.out ⟨g1, g2⟩ (by omega)
              have Hgg := Lib.hid hgg
              clear hgg
              go_wp2_with fail
              go_ret
              exact ⟨by rw [Hg.out, Hgg.out]; rfl, Hbw.out⟩
            · have hgg := Hs4.out g1 (by omega)
              have Hgg := Lib.hid hgg
              clear hgg
              go_wp2_with fail
              go_ret
              exact ⟨by rw [Hg.out, Hgg.out]; rfl, Hbw.out⟩
          · clear hc
            by_cases g1 : 0 ≤ imm
            · have hgg := Hs5.out g1 rfl
              have Hgg := Lib.hid hgg
              clear hgg
              go_wp2_with fail
              go_ret
              exact ⟨by rw [Hg.out, Hgg.out]; rfl, Hbw.out⟩
            · have hgg := Hs4.out g1 (by omega)
              have Hgg := Lib.hid hgg
              clear hgg
              go_wp2_with fail
              go_ret
              exact ⟨by rw [Hg.out, Hgg.out]; rfl, Hbw.out⟩
        · have hgg : specOk op imm = true := by unfold specOk; rw [if_neg (by omega), if_neg (by omega)]
          have e1 : (op == 11) = false ∧ (op == 12) = false ∧ (op == 13) = false := by simp only [beq_eq_false_iff_ne, ne_eq]; omega
          have Hgg := Lib.hid hgg
          clear hgg
          clear h13 hr8
          go_wp2_with fail
          go_ret
          exact ⟨by rw [Hg.out, Hgg.out]; rfl, Hbw.out⟩
end Go.Proofs.Ytnnlhhokljjghaa
