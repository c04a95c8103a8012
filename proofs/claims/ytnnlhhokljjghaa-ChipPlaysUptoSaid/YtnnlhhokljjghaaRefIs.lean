/- Walk of the document's Is: an instruction as the table has it. Conditions: numbers fit their kinds. -/
import Derived.Test.YtnnlhhokljjghaaRefUses
import Derived.Deep.CutBlock
import Derived.Outline
import Derived.Deep.DeepCutAuto
set_option linter.unusedVariables false
set_option linter.unusedSimpArgs false
namespace Go.Proofs.Ytnnlhhokljjghaa
open Go.RowKit

set_option maxRecDepth 100000 in
set_option maxHeartbeats 8000000 in
theorem is_any (i : MInstD) (hw : i.Wf) (w : World) :
    Calls Try.prog 11 #[.agg (mcells i).toArray] w fun e w' => e = .returned (.bool (goodP i)) ∧ Below w.heap.size w w' := by
  obtain ⟨op, d, a, b, imm⟩ := i
  obtain ⟨⟨ho0, ho1⟩, ⟨hd0, hd1⟩, ⟨ha0, ha1⟩, ⟨hb0, hb1⟩, ⟨hi0, hi1⟩⟩ := hw
  simp only at *
  have hP0 := Blk.new w 30 #[.int .u8 op, .int .i64 d, .int .i64 a, .int .i64 b, .int .i32 imm]
  have hb00 : Below w.heap.size w (w.alloc (.cells #[.int .u8 op, .int .i64 d, .int .i64 a, .int .i64 b, .int .i32 imm] 30)) := (Below.refl _ _).alloc (Nat.le_refl _) _
  show Calls Try.prog 11 #[.agg #[.int .u8 op, .int .i64 d, .int .i64 a, .int .i64 b, .int .i32 imm]] w _
  have kp0 := Blk.cell hP0 0
  have kp1 := Blk.cell hP0 1
  have kp2 := Blk.cell hP0 2
  have kp3 := Blk.cell hP0 3
  have kp4 := Blk.cell hP0 4
  simp only [List.getElem?_toArray, List.getElem?_cons_zero, List.getElem?_cons_succ] at kp0 kp1 kp2 kp3 kp4
  rcases hl : lettersOf op with _ | cs
  · have hg : goodP ⟨op, d, a, b, imm⟩ = false := by unfold goodP; simp only [hl]
    have hno : op < 1 ∨ (13 < op ∧ op < 39) ∨ 52 < op := by
      unfold lettersOf at hl
      by_cases g : op < 1 ∨ (13 < op ∧ op < 39) ∨ 52 < op
      · exact g
      · exfalso
        repeat' split at hl
        all_goals first | (cases hl; done) | omega
    have Hg := Lib.hid hg
    have Hl := Lib.hid hl
    have Hb00 := Lib.hid hb00
    have HP0 := Lib.hid hP0
    clear hP0 hb00 hl hg
    rcases hno with g1 | ⟨g1, g2⟩ | g1
    · have g3 : ¬ 1 ≤ op := by omega
      have g4 : ¬ 39 ≤ op := by omega
      go_enter Try.func11, Try.ntmps11
      go_wp2_with fail
      go_ret
      exact ⟨by rw [Hg.out]; rfl, Hb00.out⟩
    · have g3 : 1 ≤ op := by omega
      have g5 : ¬ op ≤ 13 := by omega
      have g4 : ¬ 39 ≤ op := by omega
      go_enter Try.func11, Try.ntmps11
      go_wp2_with fail
      go_ret
      exact ⟨by rw [Hg.out]; rfl, Hb00.out⟩
    · have g3 : 1 ≤ op := by omega
      have g5 : ¬ op ≤ 13 := by omega
      have g4 : 39 ≤ op := by omega
      have g6 : ¬ op ≤ 52 := by omega
      go_enter Try.func11, Try.ntmps11
      go_wp2_with fail
      go_ret
      exact ⟨by rw [Hg.out]; rfl, Hb00.out⟩
  · have hQ0 := Blk.new2 w (.cells #[.int .u8 op, .int .i64 d, .int .i64 a, .int .i64 b, .int .i32 imm] 30) 3 #[.int .i64 d, .int .i64 a, .int .i64 b, .int .i64 imm]
    have hP1 := hP0.alloc (.cells #[.int .i64 d, .int .i64 a, .int .i64 b, .int .i64 imm] 3)
    have hb01 := hb00.alloc (by simp) (.cells #[.int .i64 d, .int .i64 a, .int .i64 b, .int .i64 imm] 3)
    have hyes : (1 ≤ op ∧ op ≤ 13) ∨ (1 ≤ op ∧ ¬ op ≤ 13 ∧ 39 ≤ op ∧ op ≤ 52) := by
      by_cases g : (1 ≤ op ∧ op ≤ 13) ∨ (1 ≤ op ∧ ¬ op ≤ 13 ∧ 39 ≤ op ∧ op ≤ 52)
      · exact g
      · exfalso
        unfold lettersOf at hl
        rw [if_neg (by omega), if_neg (by omega), if_neg (by omega), if_neg (by omega), if_neg (by omega), if_neg (by omega), if_neg (by omega), if_neg (by omega), if_neg (by omega)] at hl
        cases hl
    have Hl := Lib.hid hl
    have Hb00 := Lib.hid hb00
    have HP0 := Lib.hid hP0
    have HQ0 := Lib.hid hQ0
    have HP1 := Lib.hid hP1
    have Hb01 := Lib.hid hb01
    clear hb01 hP1 hQ0 hP0 hb00 hl
    go_enter Try.func11, Try.ntmps11
    go_upto_region 1 with fail
    go_cut [23] from 5 to 23 (fun c wx => c = .bool false ∧ wx = w.alloc (.cells #[.int .u8 op, .int .i64 d, .int .i64 a, .int .i64 b, .int .i32 imm] 30))
    case first =>
      rcases hyes with ⟨y1, y2⟩ | ⟨y1, y2, y3, y4⟩
      · go_wp2_with fail
        go_meet
        exact ⟨rfl, rfl⟩
      · go_wp2_with fail
        go_meet
        exact ⟨rfl, rfl⟩
    case rest =>
      obtain ⟨hv1, hw1⟩ := hcut
      subst hv1 hw1
      clear hyes
      go_wp2_with fail
      go_loopw [4] (fun i wq => ∃ k : Nat, k ≤ 4 ∧ i = .int .i64 k ∧ Blk wq w.heap.size 30 #[.int .u8 op, .int .i64 d, .int .i64 a, .int .i64 b, .int .i32 imm] ∧ Blk wq (w.heap.size + 1) 3 #[.int .i64 d, .int .i64 a, .int .i64 b, .int .i64 imm] ∧ Below w.heap.size w wq ∧ Hid (partsOk ⟨op, d, a, b, imm⟩ cs k)) (fun i _ => 4 - (intOf i).toNat)
      case atStart => exact ⟨0, by omega, rfl, HP1.out, HQ0.out, Hb01.out, (show partsOk _ _ _ from ⟨by omega, by omega, by omega, by omega⟩)⟩
      case round =>
        obtain ⟨k, hk, rfl, hP, hQ, hbw, hparts⟩ := hrel
        clear kp0 kp1 kp2 kp3 kp4
        by_cases hk4 : k < 4
        · have kq0 := Blk.cell hQ 0
          have kq1 := Blk.cell hQ 1
          have kq2 := Blk.cell hQ 2
          have kq3 := Blk.cell hQ 3
          simp only [List.getElem?_toArray, List.getElem?_cons_zero, List.getElem?_cons_succ] at kq0 kq1 kq2 kq3
          have kp0 := Blk.cell hP 0
          have kp4 := Blk.cell hP 4
          simp only [List.getElem?_toArray, List.getElem?_cons_zero, List.getElem?_cons_succ] at kp0 kp4
          have HP := Lib.hid hP
          have HQ := Lib.hid hQ
          have Hbw := Lib.hid hbw
          clear hbw hQ hP
          rcases (show k = 0 ∨ k = 1 ∨ k = 2 ∨ k = 3 by omega) with rfl | rfl | rfl | rfl
          · obtain ⟨U, hu⟩ : ∃ U, useK cs 68 = U := ⟨_, rfl⟩
            go_wp2_with fail
            refine (uses_any op cs Hl.out 0 (by omega) wr).mono ?_
            rintro e w5 ⟨rfl, hb5⟩
            rw [show useK cs (letterOf 0) = U from hu]
            have hP5 := HP.out.below hb5 HP.out.lt
            have hQ5 := HQ.out.below hb5 HQ.out.lt
            have hbw5 := Hbw.out.trans (hb5.mono Hbw.out.size)
            clear kq0 kq1 kq2 kq3
            have kq0 := Blk.cell hQ5 0
            have kq1 := Blk.cell hQ5 1
            have kq2 := Blk.cell hQ5 2
            have kq3 := Blk.cell hQ5 3
            simp only [List.getElem?_toArray, List.getElem?_cons_zero, List.getElem?_cons_succ] at kq0 kq1 kq2 kq3
            have kp0 := Blk.cell hP5 0
            have kp4 := Blk.cell hP5 4
            simp only [List.getElem?_toArray, List.getElem?_cons_zero, List.getElem?_cons_succ] at kp0 kp4
            have Hu := Lib.hid hu
            have HP5 := Lib.hid hP5
            have HQ5 := Lib.hid hQ5
            have Hbw5 := Lib.hid hbw5
            clear hbw5 hQ5 hP5 hu
            clear hb5
            cases U with
            | true =>
              by_cases g1 : d < 0
              · have hno : fieldOk (useK cs 68) true d = false := by rw [Hu.out, fieldOk]; simp; omega
                have hg : goodP ⟨op, d, a, b, imm⟩ = false := by unfold goodP; simp only [Hl.out, hno, Bool.false_and, Bool.and_false]
                have Hg := Lib.hid hg
                have Hno := Lib.hid hno
                clear hno hg
                go_wp2_with fail
                go_ret
                exact ⟨by rw [Hg.out]; rfl, Hbw5.out⟩
              · by_cases g2 : 15 < d
                · have hno : fieldOk (useK cs 68) true d = false := by rw [Hu.out, fieldOk]; simp; omega
                  have hg : goodP ⟨op, d, a, b, imm⟩ = false := by unfold goodP; simp only [Hl.out, hno, Bool.false_and, Bool.and_false]
                  have Hg := Lib.hid hg
                  have Hno := Lib.hid hno
                  clear hno hg
                  go_wp2_with fail
                  go_ret
                  exact ⟨by rw [Hg.out]; rfl, Hbw5.out⟩
                · have hok : fieldOk (useK cs 68) true d = true := by rw [Hu.out, fieldOk]; simp; omega
                  have hp : partsOk ⟨op, d, a, b, imm⟩ cs (0 + 1) := ⟨fun _ => hok, fun h => by omega, fun h => by omega, fun h => by omega⟩
                  have Hp := Lib.hid hp
                  have Hok := Lib.hid hok
                  clear hok hp
                  go_wp2_with fail
                  exact ⟨⟨0 + 1, by omega, by go_num, HP5.out, HQ5.out, Hbw5.out, Hp.out⟩, by simp [intOf]⟩
            | false =>
              by_cases g1 : d = 0
              · have hok : fieldOk (useK cs 68) true d = true := by rw [Hu.out, fieldOk]; simp [g1]
                have g4 : ¬ d < 0 := by omega
                have g5 : ¬ 15 < d := by omega
                have g6 : (d != 0) = false := by simpa using g1
                have Hg1 := Lib.hid g1
                clear g1
                have hp : partsOk ⟨op, d, a, b, imm⟩ cs (0 + 1) := ⟨fun _ => hok, fun h => by omega, fun h => by omega, fun h => by omega⟩
                have Hp := Lib.hid hp
                have Hok := Lib.hid hok
                clear hok hp
                go_wp2_with fail
                exact ⟨⟨0 + 1, by omega, by go_num, HP5.out, HQ5.out, Hbw5.out, Hp.out⟩, by simp [intOf]⟩
              · have hno : fieldOk (useK cs 68) true d = false := by rw [Hu.out, fieldOk]; simp [g1]
                have hg : goodP ⟨op, d, a, b, imm⟩ = false := by unfold goodP; simp only [Hl.out, hno, Bool.false_and, Bool.and_false]
                have g6 : (d != 0) = true := by simpa using g1
                have Hg := Lib.hid hg
                have Hno := Lib.hid hno
                clear hno hg
                go_wp2_with fail
                go_ret
                exact ⟨by rw [Hg.out]; rfl, Hbw5.out⟩
          · obtain ⟨U, hu⟩ : ∃ U, useK cs 65 = U := ⟨_, rfl⟩
            go_wp2_with fail
            refine (uses_any op cs Hl.out 1 (by omega) wr).mono ?_
            rintro e w5 ⟨rfl, hb5⟩
            rw [show useK cs (letterOf 1) = U from hu]
            have hP5 := HP.out.below hb5 HP.out.lt
            have hQ5 := HQ.out.below hb5 HQ.out.lt
            have hbw5 := Hbw.out.trans (hb5.mono Hbw.out.size)
            clear kq0 kq1 kq2 kq3
            have kq0 := Blk.cell hQ5 0
            have kq1 := Blk.cell hQ5 1
            have kq2 := Blk.cell hQ5 2
            have kq3 := Blk.cell hQ5 3
            simp only [List.getElem?_toArray, List.getElem?_cons_zero, List.getElem?_cons_succ] at kq0 kq1 kq2 kq3
            have kp0 := Blk.cell hP5 0
            have kp4 := Blk.cell hP5 4
            simp only [List.getElem?_toArray, List.getElem?_cons_zero, List.getElem?_cons_succ] at kp0 kp4
            have Hu := Lib.hid hu
            have HP5 := Lib.hid hP5
            have HQ5 := Lib.hid hQ5
            have Hbw5 := Lib.hid hbw5
            clear hbw5 hQ5 hP5 hu
            clear hb5
            cases U with
            | true =>
              by_cases g1 : a < 0
              · have hno : fieldOk (useK cs 65) true a = false := by rw [Hu.out, fieldOk]; simp; omega
                have hg : goodP ⟨op, d, a, b, imm⟩ = false := by unfold goodP; simp only [Hl.out, hno, Bool.false_and, Bool.and_false]
                have Hg := Lib.hid hg
                have Hno := Lib.hid hno
                clear hno hg
                go_wp2_with fail
                go_ret
                exact ⟨by rw [Hg.out]; rfl, Hbw5.out⟩
              · by_cases g2 : 15 < a
                · have hno : fieldOk (useK cs 65) true a = false := by rw [Hu.out, fieldOk]; simp; omega
                  have hg : goodP ⟨op, d, a, b, imm⟩ = false := by unfold goodP; simp only [Hl.out, hno, Bool.false_and, Bool.and_false]
                  have Hg := Lib.hid hg
                  have Hno := Lib.hid hno
                  clear hno hg
                  go_wp2_with fail
                  go_ret
                  exact ⟨by rw [Hg.out]; rfl, Hbw5.out⟩
                · have hok : fieldOk (useK cs 65) true a = true := by rw [Hu.out, fieldOk]; simp; omega
                  have hp : partsOk ⟨op, d, a, b, imm⟩ cs (1 + 1) := ⟨fun _ => hparts.out.1 (by omega), fun _ => hok, fun h => by omega, fun h => by omega⟩
                  have Hp := Lib.hid hp
                  have Hok := Lib.hid hok
                  clear hok hp
                  go_wp2_with fail
                  exact ⟨⟨1 + 1, by omega, by go_num, HP5.out, HQ5.out, Hbw5.out, Hp.out⟩, by simp [intOf]⟩
            | false =>
              by_cases g1 : a = 0
              · have hok : fieldOk (useK cs 65) true a = true := by rw [Hu.out, fieldOk]; simp [g1]
                have g4 : ¬ a < 0 := by omega
                have g5 : ¬ 15 < a := by omega
                have g6 : (a != 0) = false := by simpa using g1
                have Hg1 := Lib.hid g1
                clear g1
                have hp : partsOk ⟨op, d, a, b, imm⟩ cs (1 + 1) := ⟨fun _ => hparts.out.1 (by omega), fun _ => hok, fun h => by omega, fun h => by omega⟩
                have Hp := Lib.hid hp
                have Hok := Lib.hid hok
                clear hok hp
                go_wp2_with fail
                exact ⟨⟨1 + 1, by omega, by go_num, HP5.out, HQ5.out, Hbw5.out, Hp.out⟩, by simp [intOf]⟩
              · have hno : fieldOk (useK cs 65) true a = false := by rw [Hu.out, fieldOk]; simp [g1]
                have hg : goodP ⟨op, d, a, b, imm⟩ = false := by unfold goodP; simp only [Hl.out, hno, Bool.false_and, Bool.and_false]
                have g6 : (a != 0) = true := by simpa using g1
                have Hg := Lib.hid hg
                have Hno := Lib.hid hno
                clear hno hg
                go_wp2_with fail
                go_ret
                exact ⟨by rw [Hg.out]; rfl, Hbw5.out⟩
          · obtain ⟨U, hu⟩ : ∃ U, useK cs 66 = U := ⟨_, rfl⟩
            go_wp2_with fail
            refine (uses_any op cs Hl.out 2 (by omega) wr).mono ?_
            rintro e w5 ⟨rfl, hb5⟩
            rw [show useK cs (letterOf 2) = U from hu]
            have hP5 := HP.out.below hb5 HP.out.lt
            have hQ5 := HQ.out.below hb5 HQ.out.lt
            have hbw5 := Hbw.out.trans (hb5.mono Hbw.out.size)
            clear kq0 kq1 kq2 kq3
            have kq0 := Blk.cell hQ5 0
            have kq1 := Blk.cell hQ5 1
            have kq2 := Blk.cell hQ5 2
            have kq3 := Blk.cell hQ5 3
            simp only [List.getElem?_toArray, List.getElem?_cons_zero, List.getElem?_cons_succ] at kq0 kq1 kq2 kq3
            have kp0 := Blk.cell hP5 0
            have kp4 := Blk.cell hP5 4
            simp only [List.getElem?_toArray, List.getElem?_cons_zero, List.getElem?_cons_succ] at kp0 kp4
            have Hu := Lib.hid hu
            have HP5 := Lib.hid hP5
            have HQ5 := Lib.hid hQ5
            have Hbw5 := Lib.hid hbw5
            clear hbw5 hQ5 hP5 hu
            clear hb5
            cases U with
            | true =>
              by_cases g1 : b < 0
              · have hno : fieldOk (useK cs 66) true b = false := by rw [Hu.out, fieldOk]; simp; omega
                have hg : goodP ⟨op, d, a, b, imm⟩ = false := by unfold goodP; simp only [Hl.out, hno, Bool.false_and, Bool.and_false]
                have Hg := Lib.hid hg
                have Hno := Lib.hid hno
                clear hno hg
                go_wp2_with fail
                go_ret
                exact ⟨by rw [Hg.out]; rfl, Hbw5.out⟩
              · by_cases g2 : 15 < b
                · have hno : fieldOk (useK cs 66) true b = false := by rw [Hu.out, fieldOk]; simp; omega
                  have hg : goodP ⟨op, d, a, b, imm⟩ = false := by unfold goodP; simp only [Hl.out, hno, Bool.false_and, Bool.and_false]
                  have Hg := Lib.hid hg
                  have Hno := Lib.hid hno
                  clear hno hg
                  go_wp2_with fail
                  go_ret
                  exact ⟨by rw [Hg.out]; rfl, Hbw5.out⟩
                · have hok : fieldOk (useK cs 66) true b = true := by rw [Hu.out, fieldOk]; simp; omega
                  have hp : partsOk ⟨op, d, a, b, imm⟩ cs (2 + 1) := ⟨fun _ => hparts.out.1 (by omega), fun _ => hparts.out.2.1 (by omega), fun _ => hok, fun h => by omega⟩
                  have Hp := Lib.hid hp
                  have Hok := Lib.hid hok
                  clear hok hp
                  go_wp2_with fail
                  exact ⟨⟨2 + 1, by omega, by go_num, HP5.out, HQ5.out, Hbw5.out, Hp.out⟩, by simp [intOf]⟩
            | false =>
              by_cases g1 : b = 0
              · have hok : fieldOk (useK cs 66) true b = true := by rw [Hu.out, fieldOk]; simp [g1]
                have g4 : ¬ b < 0 := by omega
                have g5 : ¬ 15 < b := by omega
                have g6 : (b != 0) = false := by simpa using g1
                have Hg1 := Lib.hid g1
                clear g1
                have hp : partsOk ⟨op, d, a, b, imm⟩ cs (2 + 1) := ⟨fun _ => hparts.out.1 (by omega), fun _ => hparts.out.2.1 (by omega), fun _ => hok, fun h => by omega⟩
                have Hp := Lib.hid hp
                have Hok := Lib.hid hok
                clear hok hp
                go_wp2_with fail
                exact ⟨⟨2 + 1, by omega, by go_num, HP5.out, HQ5.out, Hbw5.out, Hp.out⟩, by simp [intOf]⟩
              · have hno : fieldOk (useK cs 66) true b = false := by rw [Hu.out, fieldOk]; simp [g1]
                have hg : goodP ⟨op, d, a, b, imm⟩ = false := by unfold goodP; simp only [Hl.out, hno, Bool.false_and, Bool.and_false]
                have g6 : (b != 0) = true := by simpa using g1
                have Hg := Lib.hid hg
                have Hno := Lib.hid hno
                clear hno hg
                go_wp2_with fail
                go_ret
                exact ⟨by rw [Hg.out]; rfl, Hbw5.out⟩
          · obtain ⟨U, hu⟩ : ∃ U, useK cs 73 = U := ⟨_, rfl⟩
            go_wp2_with fail
            refine (uses_any op cs Hl.out 3 (by omega) wr).mono ?_
            rintro e w5 ⟨rfl, hb5⟩
            rw [show useK cs (letterOf 3) = U from hu]
            have hP5 := HP.out.below hb5 HP.out.lt
            have hQ5 := HQ.out.below hb5 HQ.out.lt
            have hbw5 := Hbw.out.trans (hb5.mono Hbw.out.size)
            clear kq0 kq1 kq2 kq3
            have kq0 := Blk.cell hQ5 0
            have kq1 := Blk.cell hQ5 1
            have kq2 := Blk.cell hQ5 2
            have kq3 := Blk.cell hQ5 3
            simp only [List.getElem?_toArray, List.getElem?_cons_zero, List.getElem?_cons_succ] at kq0 kq1 kq2 kq3
            have kp0 := Blk.cell hP5 0
            have kp4 := Blk.cell hP5 4
            simp only [List.getElem?_toArray, List.getElem?_cons_zero, List.getElem?_cons_succ] at kp0 kp4
            have Hu := Lib.hid hu
            have HP5 := Lib.hid hP5
            have HQ5 := Lib.hid hQ5
            have Hbw5 := Lib.hid hbw5
            clear hbw5 hQ5 hP5 hu
            clear hb5
            cases U with
            | true =>
              by_cases g0 : True
              · have hok : fieldOk (useK cs 73) false imm = true := by rw [Hu.out, fieldOk]; simp
                have hp : partsOk ⟨op, d, a, b, imm⟩ cs (3 + 1) := ⟨fun _ => hparts.out.1 (by omega), fun _ => hparts.out.2.1 (by omega), fun _ => hparts.out.2.2.1 (by omega), fun _ => hok⟩
                have Hp := Lib.hid hp
                have Hok := Lib.hid hok
                clear hok hp
                go_wp2_with fail
                exact ⟨⟨3 + 1, by omega, by go_num, HP5.out, HQ5.out, Hbw5.out, Hp.out⟩, by simp [intOf]⟩
              · exact absurd trivial g0
            | false =>
              by_cases g1 : imm = 0
              · have hok : fieldOk (useK cs 73) false imm = true := by rw [Hu.out, fieldOk]; simp [g1]
                have g4 : ¬ imm < 0 := by omega
                have g5 : ¬ 15 < imm := by omega
                have g6 : (imm != 0) = false := by simpa using g1
                have Hg1 := Lib.hid g1
                clear g1
                have hp : partsOk ⟨op, d, a, b, imm⟩ cs (3 + 1) := ⟨fun _ => hparts.out.1 (by omega), fun _ => hparts.out.2.1 (by omega), fun _ => hparts.out.2.2.1 (by omega), fun _ => hok⟩
                have Hp := Lib.hid hp
                have Hok := Lib.hid hok
                clear hok hp
                go_wp2_with fail
                exact ⟨⟨3 + 1, by omega, by go_num, HP5.out, HQ5.out, Hbw5.out, Hp.out⟩, by simp [intOf]⟩
              · have hno : fieldOk (useK cs 73) false imm = false := by rw [Hu.out, fieldOk]; simp [g1]
                have hg : goodP ⟨op, d, a, b, imm⟩ = false := by unfold goodP; simp only [Hl.out, hno, Bool.false_and, Bool.and_false]
                have g6 : (imm != 0) = true := by simpa using g1
                have Hg := Lib.hid hg
                have Hno := Lib.hid hno
                clear hno hg
                go_wp2_with fail
                go_ret
                exact ⟨by rw [Hg.out]; rfl, Hbw5.out⟩
        · obtain rfl : k = 4 := by omega
          obtain ⟨p1, p2, p3, p4⟩ := hparts.out
          have hg : goodP ⟨op, d, a, b, imm⟩ = specOk op imm := by
            unfold goodP
            simp only [Hl.out]
            rw [p1 (by omega), p2 (by omega), p3 (by omega), p4 (by omega)]
            simp
          have kp0 := Blk.cell hP 0
          have kp4 := Blk.cell hP 4
          simp only [List.getElem?_toArray, List.getElem?_cons_zero, List.getElem?_cons_succ] at kp0 kp4
          have Hg := Lib.hid hg
          have HP := Lib.hid hP
          have HQ := Lib.hid hQ
          have Hbw := Lib.hid hbw
          clear hbw hQ hP hg
          clear hparts p1 p2 p3 p4
          obtain ⟨r8, hr8⟩ : ∃ r8, imm.tmod 8 = r8 := ⟨_, rfl⟩
          by_cases h13 : op = 11 ∨ op = 12 ∨ op = 13
          · have h8 : 0 ≤ imm → r8 = imm % 8 := fun h => by rw [← hr8, Int.tmod_eq_emod_of_nonneg h]
            have hc : (0 ≤ imm ∧ imm ≤ 65536 ∧ (r8 == 0) = true) ∨ (0 ≤ imm ∧ imm ≤ 65536 ∧ (r8 == 0) = false) ∨ (0 ≤ imm ∧ ¬ imm ≤ 65536) ∨ (¬ 0 ≤ imm ∧ True) := by
              by_cases g1 : 0 ≤ imm <;> by_cases g2 : imm ≤ 65536 <;> by_cases g3 : r8 = 0 <;> simp [g1, g2, g3]
            have hs1 : (0 ≤ imm ∧ imm ≤ 65536 ∧ (r8 == 0) = true) → (op = 11 ∨ op = 12) → specOk op imm = true := fun ⟨g1, g2, g3⟩ g4 => by
              have := h8 g1
              have g3' : r8 = 0 := by simpa using g3
              unfold specOk
              rw [if_pos g4]
              simp [g1, g2]; omega
            have hs2 : (0 ≤ imm ∧ imm ≤ 65536 ∧ (r8 == 0) = false) → (op = 11 ∨ op = 12) → specOk op imm = false := fun ⟨g1, g2, g3⟩ g4 => by
              have := h8 g1
              have g3' : r8 ≠ 0 := by simpa using g3
              unfold specOk
              rw [if_pos g4]
              simp [g1, g2]; omega
            have hs3 : (0 ≤ imm ∧ ¬ imm ≤ 65536) → (op = 11 ∨ op = 12) → specOk op imm = false := fun ⟨g1, g2⟩ g4 => by
              unfold specOk; rw [if_pos g4]; simp [g1, g2]
            have hs4 : (¬ 0 ≤ imm) → (op = 11 ∨ op = 12 ∨ op = 13) → specOk op imm = false := fun g1 g4 => by
              unfold specOk
              by_cases g5 : op = 11 ∨ op = 12
              · rw [if_pos g5]; simp [g1]
              · rw [if_neg g5, if_pos (by omega)]; simp [g1]
            have hs5 : 0 ≤ imm → op = 13 → specOk op imm = true := fun g1 g4 => by
              unfold specOk; rw [if_neg (by omega), if_pos g4]; simp [g1]
            have Hs1 := Lib.hid hs1
            have Hs2 := Lib.hid hs2
            have Hs3 := Lib.hid hs3
            have Hs4 := Lib.hid hs4
            have Hs5 := Lib.hid hs5
            have H8 := Lib.hid h8
            clear h8 hs5 hs4 hs3 hs2 hs1
            rcases h13 with rfl | rfl | rfl
            · rcases hc with ⟨g1, g2, g3⟩ | ⟨g1, g2, g3⟩ | ⟨g1, g2⟩ | ⟨g1, _⟩
              · have hgg := Hs1.out ⟨g1, g2, g3⟩ (by omega)
                have Hgg := Lib.hid hgg
                clear hgg
                go_wp2_with fail
                go_ret
                exact ⟨by rw [Hg.out, Hgg.out]; rfl, Hbw.out⟩
              · have hgg := Hs2.out ⟨g1, g2, g3⟩ (by omega)
                have Hgg := Lib.hid hgg
                clear hgg
                go_wp2_with fail
                go_ret
                exact ⟨by rw [Hg.out, Hgg.out]; rfl, Hbw.out⟩
              · have hgg := Hs3.out ⟨g1, g2⟩ (by omega)
                have Hgg := Lib.hid hgg
                clear hgg
                go_wp2_with fail
                go_ret
                exact ⟨by rw [Hg.out, Hgg.out]; rfl, Hbw.out⟩
              · have hgg := Hs4.out g1 (by omega)
                have Hgg := Lib.hid hgg
                clear hgg
                go_wp2_with fail
                go_ret
                exact ⟨by rw [Hg.out, Hgg.out]; rfl, Hbw.out⟩
            · rcases hc with ⟨g1, g2, g3⟩ | ⟨g1, g2, g3⟩ | ⟨g1, g2⟩ | ⟨g1, _⟩
              · have hgg := Hs1.out ⟨g1, g2, g3⟩ (by omega)
                have Hgg := Lib.hid hgg
                clear hgg
                go_wp2_with fail
                go_ret
                exact ⟨by rw [Hg.out, Hgg.out]; rfl, Hbw.out⟩
              · have hgg := Hs2.out ⟨g1, g2, g3⟩ (by omega)
                have Hgg := Lib.hid hgg
                clear hgg
                go_wp2_with fail
                go_ret
                exact ⟨by rw [Hg.out, Hgg.out]; rfl, Hbw.out⟩
              · have hgg := Hs3.out ⟨g1, g2⟩ (by omega)
                have Hgg := Lib.hid hgg
                clear hgg
                go_wp2_with fail
                go_ret
                exact ⟨by rw [Hg.out, Hgg.out]; rfl, Hbw.out⟩
              · have hgg := Hs4.out g1 (by omega)
                have Hgg := Lib.hid hgg
                clear hgg
                go_wp2_with fail
                go_ret
                exact ⟨by rw [Hg.out, Hgg.out]; rfl, Hbw.out⟩
            · clear hc
              by_cases g1 : 0 ≤ imm
              · have hgg := Hs5.out g1 rfl
                have Hgg := Lib.hid hgg
                clear hgg
                go_wp2_with fail
                go_ret
                exact ⟨by rw [Hg.out, Hgg.out]; rfl, Hbw.out⟩
              · have hgg := Hs4.out g1 (by omega)
                have Hgg := Lib.hid hgg
                clear hgg
                go_wp2_with fail
                go_ret
                exact ⟨by rw [Hg.out, Hgg.out]; rfl, Hbw.out⟩
          · have hgg : specOk op imm = true := by unfold specOk; rw [if_neg (by omega), if_neg (by omega)]
            have e1 : (op == 11) = false ∧ (op == 12) = false ∧ (op == 13) = false := by simp only [beq_eq_false_iff_ne, ne_eq]; omega
            have e2 : (op != 13) = true := by simp only [bne_iff_ne, ne_eq]; omega
            have Hgg := Lib.hid hgg
            clear hgg
            clear h13 hr8
            go_wp2_with fail
            go_ret
            exact ⟨by rw [Hg.out, Hgg.out]; rfl, Hbw.out⟩
end Go.Proofs.Ytnnlhhokljjghaa
