/- Walks of what a node reads, writes, goes on to, in the program and in the document; and of the question whether two lists are the same. Conditions: the node, the lists lie in memory. -/
import Derived.Test.YtfjalejlbegkeaaIrOnce
import Derived.Test.YtfjalejlbegkeaaIrNode
set_option linter.unusedVariables false
set_option linter.unusedSimpArgs false
namespace Go.Proofs.Ytfjalejlbegkeaa
open Go.RowKit

def readsL (x : NodeD) : List Int := if x.op = 2 ∨ x.op = 5 ∨ x.op = 7 ∨ x.op = 9 ∨ x.op = 12 ∨ x.op = 14 ∨ x.op = 17 ∨ x.op = 18 then onceL [x.a] else if x.op = 3 ∨ x.op = 8 then onceL [x.a, x.b] else if x.op = 11 ∨ x.op = 13 then onceL x.args else []
def writesL (x : NodeD) : List Int := if x.op = 1 ∨ x.op = 2 ∨ x.op = 3 ∨ x.op = 4 ∨ x.op = 6 ∨ x.op = 7 ∨ x.op = 11 ∨ x.op = 16 then onceL [x.d] else if x.op = 15 then onceL [x.d, x.e] else []
set_option maxRecDepth 100000 in
set_option maxHeartbeats 4000000 in
theorem reads_any (w : World) (x : NodeD) (av : Value) (D : Nat) (hD : D ≤ w.heap.size) (hav : NumsAt .i64 w D av x.args) (hal : x.args.length * 8 ≤ 140737488351232) :
    Calls Try.prog 13 #[.agg (ncells x av).toArray] w fun e w' => (∃ v, e = .returned v ∧ Lst w' v (readsL x)) ∧ Below w.heap.size w w' := by
  obtain ⟨N, hN⟩ : ∃ N, readsL x = N := ⟨_, rfl⟩
  rw [hN]
  unfold readsL at hN
  obtain ⟨op, byo, d, e_, a, b, f, cell, imm, args, next, els⟩ := x
  simp only at hN hav hal
  obtain ⟨AA, ac, rfl, _, _, hAr⟩ := hav.slice
  obtain ⟨m, hm⟩ : ∃ m, args.length = m := ⟨_, rfl⟩
  rw [hm] at hAr hal
  simp only [ncells, hm]
  obtain ⟨G, hG⟩ : ∃ G, G = w.heap.size := ⟨_, rfl⟩
  have hP := Blk.new w 38 #[.int .u8 op, .int .u8 byo, .int .i64 d, .int .i64 e_, .int .i64 a, .int .i64 b, .int .i64 f, .int .i64 cell, .int .u64 imm, .slice AA m ac, .int .i64 next, .int .i64 els]
  have hb := (Below.refl w.heap.size w).alloc (Nat.le_refl _) (.cells #[.int .u8 op, .int .u8 byo, .int .i64 d, .int .i64 e_, .int .i64 a, .int .i64 b, .int .i64 f, .int .i64 cell, .int .u64 imm, .slice AA m ac, .int .i64 next, .int .i64 els] 38)
  have hA := hAr.below (hb.mono hD)
  rw [← hG] at hP
  have kp0 := Blk.cell hP 0
  have kp4 := Blk.cell hP 4
  have kp5 := Blk.cell hP 5
  have kp9 := Blk.cell hP 9
  simp only [List.getElem?_toArray, List.getElem?_cons_zero, List.getElem?_cons_succ] at kp0 kp4 kp5 kp9
  obtain ⟨V, hV⟩ : ∃ V, V = w.alloc (.cells #[.int .u8 op, .int .u8 byo, .int .i64 d, .int .i64 e_, .int .i64 a, .int .i64 b, .int .i64 f, .int .i64 cell, .int .u64 imm, .slice AA m ac, .int .i64 next, .int .i64 els] 38) := ⟨_, rfl⟩
  rw [← hV] at hb hA hP kp0 kp4 kp5 kp9
  have hDV : D ≤ V.heap.size := Nat.le_trans hD hb.size
  have Hb := Lib.hid hb
  have HP := Lib.hid hP
  have HAr := Lib.hid hAr
  have Hav := Lib.hid hav
  have HA := Lib.hid hA
  have Hm := Lib.hid hm
  have HV := Lib.hid hV
  have HG := Lib.hid hG
  clear hG hV hm hA hav hAr hP hb
  by_cases e1 : op = 2 ∨ op = 5 ∨ op = 7 ∨ op = 9 ∨ op = 12 ∨ op = 14 ∨ op = 17 ∨ op = 18
  · rw [if_pos e1] at hN
    subst hN
    rcases e1 with e | e | e | e | e | e | e | e
    all_goals
      subst e
      go_enter Try.func13, Try.ntmps13
      go_upto_region 1 with fail
      rw [← HV.out, ← HG.out]
      go_wp2_with fail
      refine (once_any _ (V.heap.size + 1) (by simp) (some ⟨V.heap.size, 0, none⟩) 1 1 [a] (Reads.newL' V 3 [a] rfl rfl rfl) rfl (by omega)).mono ?_
      rintro e w1 ⟨⟨v, rfl, hL⟩, hb1⟩
      have hfin := Hb.out.trans (((Below.refl V.heap.size V).alloc (Nat.le_refl _) (.cells #[.int .i64 a] 3)).trans (hb1.mono (by simp)) |>.mono Hb.out.size)
      have HL := Lib.hid hL
      have Hfin := Lib.hid hfin
      clear hfin hL
      clear hb1
      go_wp2_with fail
      go_ret
      exact ⟨⟨_, rfl, HL.out⟩, Hfin.out⟩
  rw [if_neg e1] at hN
  by_cases e2 : op = 3 ∨ op = 8
  · rw [if_pos e2] at hN
    subst hN
    have He1 := Lib.hid e1
    clear e1
    rcases e2 with e | e
    all_goals
      subst e
      go_enter Try.func13, Try.ntmps13
      go_upto_region 1 with fail
      rw [← HV.out, ← HG.out]
      go_wp2_with fail
      refine (once_any _ (V.heap.size + 1) (by simp) (some ⟨V.heap.size, 0, none⟩) 2 2 [a, b] (Reads.newL' V 3 [a, b] rfl rfl rfl) rfl (by omega)).mono ?_
      rintro e w1 ⟨⟨v, rfl, hL⟩, hb1⟩
      have hfin := Hb.out.trans (((Below.refl V.heap.size V).alloc (Nat.le_refl _) (.cells #[.int .i64 a, .int .i64 b] 3)).trans (hb1.mono (by simp)) |>.mono Hb.out.size)
      have HL := Lib.hid hL
      have Hfin := Lib.hid hfin
      clear hfin hL
      clear hb1
      go_wp2_with fail
      go_ret
      exact ⟨⟨_, rfl, HL.out⟩, Hfin.out⟩
  rw [if_neg e2] at hN
  by_cases e3 : op = 11 ∨ op = 13
  · rw [if_pos e3] at hN
    subst hN
    have He1 := Lib.hid e1
    have He2 := Lib.hid e2
    clear e2 e1
    rcases e3 with e | e
    all_goals
      subst e
      go_enter Try.func13, Try.ntmps13
      go_upto_region 1 with fail
      rw [← HV.out, ← HG.out]
      go_wp2_with fail
      refine (once_any _ D hDV AA m ac args HA.out Hm.out hal).mono ?_
      rintro e w1 ⟨⟨v, rfl, hL⟩, hb1⟩
      have hfin := Hb.out.trans (hb1.mono Hb.out.size)
      have HL := Lib.hid hL
      have Hfin := Lib.hid hfin
      clear hfin hL
      clear hb1
      go_wp2_with fail
      go_ret
      exact ⟨⟨_, rfl, HL.out⟩, Hfin.out⟩
  rw [if_neg e3] at hN
  subst hN
  have x2 : (op == 2) = false := by rw [beq_eq_false_iff_ne]; omega
  have x3 : (op == 3) = false := by rw [beq_eq_false_iff_ne]; omega
  have x5 : (op == 5) = false := by rw [beq_eq_false_iff_ne]; omega
  have x7 : (op == 7) = false := by rw [beq_eq_false_iff_ne]; omega
  have x8 : (op == 8) = false := by rw [beq_eq_false_iff_ne]; omega
  have x9 : (op == 9) = false := by rw [beq_eq_false_iff_ne]; omega
  have x11 : (op == 11) = false := by rw [beq_eq_false_iff_ne]; omega
  have x12 : (op == 12) = false := by rw [beq_eq_false_iff_ne]; omega
  have x13 : (op == 13) = false := by rw [beq_eq_false_iff_ne]; omega
  have x14 : (op == 14) = false := by rw [beq_eq_false_iff_ne]; omega
  have x17 : (op == 17) = false := by rw [beq_eq_false_iff_ne]; omega
  have x18 : (op == 18) = false := by rw [beq_eq_false_iff_ne]; omega
  have He1 := Lib.hid e1
  have He2 := Lib.hid e2
  have He3 := Lib.hid e3
  clear e3 e2 e1
  go_enter Try.func13, Try.ntmps13
  go_upto_region 1 with fail
  rw [← HV.out, ← HG.out]
  go_wp2_with fail
  go_ret
  exact ⟨⟨_, rfl, Lst.nil _⟩, Hb.out⟩
set_option maxRecDepth 100000 in
set_option maxHeartbeats 4000000 in
theorem refreads_any (w : World) (x : NodeD) (av : Value) (D : Nat) (hD : D ≤ w.heap.size) (hav : NumsAt .i64 w D av x.args) (hal : x.args.length * 8 ≤ 140737488351232) :
    Calls Try.prog 14 #[.agg (ncells x av).toArray] w fun e w' => (∃ v, e = .returned v ∧ Lst w' v (readsL x)) ∧ Below w.heap.size w w' := by
  obtain ⟨N, hN⟩ : ∃ N, readsL x = N := ⟨_, rfl⟩
  rw [hN]
  unfold readsL at hN
  obtain ⟨op, byo, d, e_, a, b, f, cell, imm, args, next, els⟩ := x
  simp only at hN hav hal
  obtain ⟨AA, ac, rfl, _, _, hAr⟩ := hav.slice
  obtain ⟨m, hm⟩ : ∃ m, args.length = m := ⟨_, rfl⟩
  rw [hm] at hAr hal
  simp only [ncells, hm]
  obtain ⟨G, hG⟩ : ∃ G, G = w.heap.size := ⟨_, rfl⟩
  have hP := Blk.new w 38 #[.int .u8 op, .int .u8 byo, .int .i64 d, .int .i64 e_, .int .i64 a, .int .i64 b, .int .i64 f, .int .i64 cell, .int .u64 imm, .slice AA m ac, .int .i64 next, .int .i64 els]
  have hb := (Below.refl w.heap.size w).alloc (Nat.le_refl _) (.cells #[.int .u8 op, .int .u8 byo, .int .i64 d, .int .i64 e_, .int .i64 a, .int .i64 b, .int .i64 f, .int .i64 cell, .int .u64 imm, .slice AA m ac, .int .i64 next, .int .i64 els] 38)
  have hA := hAr.below (hb.mono hD)
  rw [← hG] at hP
  have kp0 := Blk.cell hP 0
  have kp4 := Blk.cell hP 4
  have kp5 := Blk.cell hP 5
  have kp9 := Blk.cell hP 9
  simp only [List.getElem?_toArray, List.getElem?_cons_zero, List.getElem?_cons_succ] at kp0 kp4 kp5 kp9
  obtain ⟨V, hV⟩ : ∃ V, V = w.alloc (.cells #[.int .u8 op, .int .u8 byo, .int .i64 d, .int .i64 e_, .int .i64 a, .int .i64 b, .int .i64 f, .int .i64 cell, .int .u64 imm, .slice AA m ac, .int .i64 next, .int .i64 els] 38) := ⟨_, rfl⟩
  rw [← hV] at hb hA hP kp0 kp4 kp5 kp9
  have hDV : D ≤ V.heap.size := Nat.le_trans hD hb.size
  have Hb := Lib.hid hb
  have HP := Lib.hid hP
  have HAr := Lib.hid hAr
  have Hav := Lib.hid hav
  have HA := Lib.hid hA
  have Hm := Lib.hid hm
  have HV := Lib.hid hV
  have HG := Lib.hid hG
  clear hG hV hm hA hav hAr hP hb
  by_cases e1 : op = 2 ∨ op = 5 ∨ op = 7 ∨ op = 9 ∨ op = 12 ∨ op = 14 ∨ op = 17 ∨ op = 18
  · rw [if_pos e1] at hN
    subst hN
    rcases e1 with e | e | e | e | e | e | e | e
    all_goals
      subst e
      go_enter Try.func14, Try.ntmps14
      go_upto_region 1 with fail
      rw [← HV.out, ← HG.out]
      go_wp2_with fail
      refine (add_any _ (V.heap.size + 1) (by simp) (some ⟨V.heap.size, 0, none⟩) 1 1 [a] (Reads.newL' V 3 [a] rfl rfl rfl) rfl (by omega)).mono ?_
      rintro e w1 ⟨⟨v, rfl, hL⟩, hb1⟩
      have hfin := Hb.out.trans (((Below.refl V.heap.size V).alloc (Nat.le_refl _) (.cells #[.int .i64 a] 3)).trans (hb1.mono (by simp)) |>.mono Hb.out.size)
      have HL := Lib.hid hL
      have Hfin := Lib.hid hfin
      clear hfin hL
      clear hb1
      go_wp2_with fail
      go_ret
      exact ⟨⟨_, rfl, HL.out⟩, Hfin.out⟩
  rw [if_neg e1] at hN
  by_cases e2 : op = 3 ∨ op = 8
  · rw [if_pos e2] at hN
    subst hN
    have He1 := Lib.hid e1
    clear e1
    rcases e2 with e | e
    all_goals
      subst e
      go_enter Try.func14, Try.ntmps14
      go_upto_region 1 with fail
      rw [← HV.out, ← HG.out]
      go_wp2_with fail
      refine (add_any _ (V.heap.size + 1) (by simp) (some ⟨V.heap.size, 0, none⟩) 2 2 [a, b] (Reads.newL' V 3 [a, b] rfl rfl rfl) rfl (by omega)).mono ?_
      rintro e w1 ⟨⟨v, rfl, hL⟩, hb1⟩
      have hfin := Hb.out.trans (((Below.refl V.heap.size V).alloc (Nat.le_refl _) (.cells #[.int .i64 a, .int .i64 b] 3)).trans (hb1.mono (by simp)) |>.mono Hb.out.size)
      have HL := Lib.hid hL
      have Hfin := Lib.hid hfin
      clear hfin hL
      clear hb1
      go_wp2_with fail
      go_ret
      exact ⟨⟨_, rfl, HL.out⟩, Hfin.out⟩
  rw [if_neg e2] at hN
  by_cases e3 : op = 11 ∨ op = 13
  · rw [if_pos e3] at hN
    subst hN
    have He1 := Lib.hid e1
    have He2 := Lib.hid e2
    clear e2 e1
    rcases e3 with e | e
    all_goals
      subst e
      go_enter Try.func14, Try.ntmps14
      go_upto_region 1 with fail
      rw [← HV.out, ← HG.out]
      go_wp2_with fail
      refine (add_any _ D hDV AA m ac args HA.out Hm.out hal).mono ?_
      rintro e w1 ⟨⟨v, rfl, hL⟩, hb1⟩
      have hfin := Hb.out.trans (hb1.mono Hb.out.size)
      have HL := Lib.hid hL
      have Hfin := Lib.hid hfin
      clear hfin hL
      clear hb1
      go_wp2_with fail
      go_ret
      exact ⟨⟨_, rfl, HL.out⟩, Hfin.out⟩
  rw [if_neg e3] at hN
  subst hN
  have x2 : (op == 2) = false := by rw [beq_eq_false_iff_ne]; omega
  have x3 : (op == 3) = false := by rw [beq_eq_false_iff_ne]; omega
  have x5 : (op == 5) = false := by rw [beq_eq_false_iff_ne]; omega
  have x7 : (op == 7) = false := by rw [beq_eq_false_iff_ne]; omega
  have x8 : (op == 8) = false := by rw [beq_eq_false_iff_ne]; omega
  have x9 : (op == 9) = false := by rw [beq_eq_false_iff_ne]; omega
  have x11 : (op == 11) = false := by rw [beq_eq_false_iff_ne]; omega
  have x12 : (op == 12) = false := by rw [beq_eq_false_iff_ne]; omega
  have x13 : (op == 13) = false := by rw [beq_eq_false_iff_ne]; omega
  have x14 : (op == 14) = false := by rw [beq_eq_false_iff_ne]; omega
  have x17 : (op == 17) = false := by rw [beq_eq_false_iff_ne]; omega
  have x18 : (op == 18) = false := by rw [beq_eq_false_iff_ne]; omega
  have He1 := Lib.hid e1
  have He2 := Lib.hid e2
  have He3 := Lib.hid e3
  clear e3 e2 e1
  go_enter Try.func14, Try.ntmps14
  go_upto_region 1 with fail
  rw [← HV.out, ← HG.out]
  go_wp2_with fail
  go_ret
  exact ⟨⟨_, rfl, Lst.nil _⟩, Hb.out⟩
set_option maxRecDepth 100000 in
set_option maxHeartbeats 4000000 in
theorem writes_any (w : World) (x : NodeD) (av : Value) :
    Calls Try.prog 15 #[.agg (ncells x av).toArray] w fun e w' => (∃ v, e = .returned v ∧ Lst w' v (writesL x)) ∧ Below w.heap.size w w' := by
  obtain ⟨N, hN⟩ : ∃ N, writesL x = N := ⟨_, rfl⟩
  rw [hN]
  unfold writesL at hN
  obtain ⟨op, byo, d, e_, a, b, f, cell, imm, args, next, els⟩ := x
  simp only at hN
  simp only [ncells]
  obtain ⟨G, hG⟩ : ∃ G, G = w.heap.size := ⟨_, rfl⟩
  have hP := Blk.new w 38 #[.int .u8 op, .int .u8 byo, .int .i64 d, .int .i64 e_, .int .i64 a, .int .i64 b, .int .i64 f, .int .i64 cell, .int .u64 imm, av, .int .i64 next, .int .i64 els]
  have hb := (Below.refl w.heap.size w).alloc (Nat.le_refl _) (.cells #[.int .u8 op, .int .u8 byo, .int .i64 d, .int .i64 e_, .int .i64 a, .int .i64 b, .int .i64 f, .int .i64 cell, .int .u64 imm, av, .int .i64 next, .int .i64 els] 38)
  rw [← hG] at hP
  have kp0 := Blk.cell hP 0
  have kp2 := Blk.cell hP 2
  have kp3 := Blk.cell hP 3
  simp only [List.getElem?_toArray, List.getElem?_cons_zero, List.getElem?_cons_succ] at kp0 kp2 kp3
  obtain ⟨V, hV⟩ : ∃ V, V = w.alloc (.cells #[.int .u8 op, .int .u8 byo, .int .i64 d, .int .i64 e_, .int .i64 a, .int .i64 b, .int .i64 f, .int .i64 cell, .int .u64 imm, av, .int .i64 next, .int .i64 els] 38) := ⟨_, rfl⟩
  rw [← hV] at hb hP kp0 kp2 kp3
  have Hb := Lib.hid hb
  have HP := Lib.hid hP
  have HV := Lib.hid hV
  have HG := Lib.hid hG
  clear hG hV hP hb
  by_cases e1 : op = 1 ∨ op = 2 ∨ op = 3 ∨ op = 4 ∨ op = 6 ∨ op = 7 ∨ op = 11 ∨ op = 16
  · rw [if_pos e1] at hN
    subst hN
    rcases e1 with e | e | e | e | e | e | e | e
    all_goals
      subst e
      go_enter Try.func15, Try.ntmps15
      go_upto_region 1 with fail
      rw [← HV.out, ← HG.out]
      go_wp2_with fail
      refine (once_any _ (V.heap.size + 1) (by simp) (some ⟨V.heap.size, 0, none⟩) 1 1 [d] (Reads.newL' V 3 [d] rfl rfl rfl) rfl (by omega)).mono ?_
      rintro e w1 ⟨⟨v, rfl, hL⟩, hb1⟩
      have hfin := Hb.out.trans (((Below.refl V.heap.size V).alloc (Nat.le_refl _) (.cells #[.int .i64 d] 3)).trans (hb1.mono (by simp)) |>.mono Hb.out.size)
      have HL := Lib.hid hL
      have Hfin := Lib.hid hfin
      clear hfin hL
      clear hb1
      go_wp2_with fail
      go_ret
      exact ⟨⟨_, rfl, HL.out⟩, Hfin.out⟩
  rw [if_neg e1] at hN
  by_cases e2 : op = 15
  · rw [if_pos e2] at hN
    subst hN
    have He1 := Lib.hid e1
    clear e1
    subst e2
    go_enter Try.func15, Try.ntmps15
    go_upto_region 1 with fail
    rw [← HV.out, ← HG.out]
    go_wp2_with fail
    refine (once_any _ (V.heap.size + 1) (by simp) (some ⟨V.heap.size, 0, none⟩) 2 2 [d, e_] (Reads.newL' V 3 [d, e_] rfl rfl rfl) rfl (by omega)).mono ?_
    rintro e w1 ⟨⟨v, rfl, hL⟩, hb1⟩
    have hfin := Hb.out.trans (((Below.refl V.heap.size V).alloc (Nat.le_refl _) (.cells #[.int .i64 d, .int .i64 e_] 3)).trans (hb1.mono (by simp)) |>.mono Hb.out.size)
    have HL := Lib.hid hL
    have Hfin := Lib.hid hfin
    clear hfin hL
    clear hb1
    go_wp2_with fail
    go_ret
    exact ⟨⟨_, rfl, HL.out⟩, Hfin.out⟩
  rw [if_neg e2] at hN
  subst hN
  have x1 : (op == 1) = false := by rw [beq_eq_false_iff_ne]; omega
  have x2 : (op == 2) = false := by rw [beq_eq_false_iff_ne]; omega
  have x3 : (op == 3) = false := by rw [beq_eq_false_iff_ne]; omega
  have x4 : (op == 4) = false := by rw [beq_eq_false_iff_ne]; omega
  have x6 : (op == 6) = false := by rw [beq_eq_false_iff_ne]; omega
  have x7 : (op == 7) = false := by rw [beq_eq_false_iff_ne]; omega
  have x11 : (op == 11) = false := by rw [beq_eq_false_iff_ne]; omega
  have x15 : (op == 15) = false := by rw [beq_eq_false_iff_ne]; omega
  have x16 : (op == 16) = false := by rw [beq_eq_false_iff_ne]; omega
  have He1 := Lib.hid e1
  have He2 := Lib.hid e2
  clear e2 e1
  go_enter Try.func15, Try.ntmps15
  go_upto_region 1 with fail
  rw [← HV.out, ← HG.out]
  go_wp2_with fail
  go_ret
  exact ⟨⟨_, rfl, Lst.nil _⟩, Hb.out⟩
set_option maxRecDepth 100000 in
set_option maxHeartbeats 4000000 in
theorem refwrites_any (w : World) (x : NodeD) (av : Value) :
    Calls Try.prog 16 #[.agg (ncells x av).toArray] w fun e w' => (∃ v, e = .returned v ∧ Lst w' v (writesL x)) ∧ Below w.heap.size w w' := by
  obtain ⟨N, hN⟩ : ∃ N, writesL x = N := ⟨_, rfl⟩
  rw [hN]
  unfold writesL at hN
  obtain ⟨op, byo, d, e_, a, b, f, cell, imm, args, next, els⟩ := x
  simp only at hN
  simp only [ncells]
  obtain ⟨G, hG⟩ : ∃ G, G = w.heap.size := ⟨_, rfl⟩
  have hP := Blk.new w 38 #[.int .u8 op, .int .u8 byo, .int .i64 d, .int .i64 e_, .int .i64 a, .int .i64 b, .int .i64 f, .int .i64 cell, .int .u64 imm, av, .int .i64 next, .int .i64 els]
  have hb := (Below.refl w.heap.size w).alloc (Nat.le_refl _) (.cells #[.int .u8 op, .int .u8 byo, .int .i64 d, .int .i64 e_, .int .i64 a, .int .i64 b, .int .i64 f, .int .i64 cell, .int .u64 imm, av, .int .i64 next, .int .i64 els] 38)
  rw [← hG] at hP
  have kp0 := Blk.cell hP 0
  have kp2 := Blk.cell hP 2
  have kp3 := Blk.cell hP 3
  simp only [List.getElem?_toArray, List.getElem?_cons_zero, List.getElem?_cons_succ] at kp0 kp2 kp3
  obtain ⟨V, hV⟩ : ∃ V, V = w.alloc (.cells #[.int .u8 op, .int .u8 byo, .int .i64 d, .int .i64 e_, .int .i64 a, .int .i64 b, .int .i64 f, .int .i64 cell, .int .u64 imm, av, .int .i64 next, .int .i64 els] 38) := ⟨_, rfl⟩
  rw [← hV] at hb hP kp0 kp2 kp3
  have Hb := Lib.hid hb
  have HP := Lib.hid hP
  have HV := Lib.hid hV
  have HG := Lib.hid hG
  clear hG hV hP hb
  by_cases e1 : op = 1 ∨ op = 2 ∨ op = 3 ∨ op = 4 ∨ op = 6 ∨ op = 7 ∨ op = 11 ∨ op = 16
  · rw [if_pos e1] at hN
    subst hN
    rcases e1 with e | e | e | e | e | e | e | e
    all_goals
      subst e
      go_enter Try.func16, Try.ntmps16
      go_upto_region 1 with fail
      rw [← HV.out, ← HG.out]
      go_wp2_with fail
      refine (add_any _ (V.heap.size + 1) (by simp) (some ⟨V.heap.size, 0, none⟩) 1 1 [d] (Reads.newL' V 3 [d] rfl rfl rfl) rfl (by omega)).mono ?_
      rintro e w1 ⟨⟨v, rfl, hL⟩, hb1⟩
      have hfin := Hb.out.trans (((Below.refl V.heap.size V).alloc (Nat.le_refl _) (.cells #[.int .i64 d] 3)).trans (hb1.mono (by simp)) |>.mono Hb.out.size)
      have HL := Lib.hid hL
      have Hfin := Lib.hid hfin
      clear hfin hL
      clear hb1
      go_wp2_with fail
      go_ret
      exact ⟨⟨_, rfl, HL.out⟩, Hfin.out⟩
  rw [if_neg e1] at hN
  by_cases e2 : op = 15
  · rw [if_pos e2] at hN
    subst hN
    have He1 := Lib.hid e1
    clear e1
    subst e2
    go_enter Try.func16, Try.ntmps16
    go_upto_region 1 with fail
    rw [← HV.out, ← HG.out]
    go_wp2_with fail
    refine (add_any _ (V.heap.size + 1) (by simp) (some ⟨V.heap.size, 0, none⟩) 2 2 [d, e_] (Reads.newL' V 3 [d, e_] rfl rfl rfl) rfl (by omega)).mono ?_
    rintro e w1 ⟨⟨v, rfl, hL⟩, hb1⟩
    have hfin := Hb.out.trans (((Below.refl V.heap.size V).alloc (Nat.le_refl _) (.cells #[.int .i64 d, .int .i64 e_] 3)).trans (hb1.mono (by simp)) |>.mono Hb.out.size)
    have HL := Lib.hid hL
    have Hfin := Lib.hid hfin
    clear hfin hL
    clear hb1
    go_wp2_with fail
    go_ret
    exact ⟨⟨_, rfl, HL.out⟩, Hfin.out⟩
  rw [if_neg e2] at hN
  subst hN
  have x1 : (op == 1) = false := by rw [beq_eq_false_iff_ne]; omega
  have x2 : (op == 2) = false := by rw [beq_eq_false_iff_ne]; omega
  have x3 : (op == 3) = false := by rw [beq_eq_false_iff_ne]; omega
  have x4 : (op == 4) = false := by rw [beq_eq_false_iff_ne]; omega
  have x6 : (op == 6) = false := by rw [beq_eq_false_iff_ne]; omega
  have x7 : (op == 7) = false := by rw [beq_eq_false_iff_ne]; omega
  have x11 : (op == 11) = false := by rw [beq_eq_false_iff_ne]; omega
  have x15 : (op == 15) = false := by rw [beq_eq_false_iff_ne]; omega
  have x16 : (op == 16) = false := by rw [beq_eq_false_iff_ne]; omega
  have He1 := Lib.hid e1
  have He2 := Lib.hid e2
  clear e2 e1
  go_enter Try.func16, Try.ntmps16
  go_upto_region 1 with fail
  rw [← HV.out, ← HG.out]
  go_wp2_with fail
  go_ret
  exact ⟨⟨_, rfl, Lst.nil _⟩, Hb.out⟩
theorem take_snoc_eq {α : Type} {la lb : List α} {j : Nat} (h : la.take j = lb.take j) (he : la[j]? = lb[j]?) : la.take (j + 1) = lb.take (j + 1) := by
  rw [List.take_add_one, List.take_add_one, h, he]
theorem ne_of_at {α : Type} {la lb : List α} {j : Nat} (he : la[j]? ≠ lb[j]?) : la ≠ lb := fun h => he (by rw [h])
theorem ret_b {a b : Bool} (h : a = b) : Ending.returned (.bool a) = .returned (.bool b) := by rw [h]
set_option maxRecDepth 100000 in
set_option maxHeartbeats 1000000 in
theorem sameInts_any (v1 v2 : Value) (xs ys : List Int) (w : World) (B C : Nat) (h1 : NumsAt .i64 w B v1 xs) (h2 : NumsAt .i64 w C v2 ys) :
    Calls Try.prog 12 #[v1, v2] w fun e w' => e = .returned (.bool (decide (xs = ys))) ∧ ∃ q, w' = w.drewN q := by
  obtain ⟨A, n, c, rfl, hnc, hc, hl, hr⟩ := h1
  obtain ⟨A', m, c', rfl, hnc', hc', hl', hr'⟩ := h2
  unfold maxLen at hc hc'
  by_cases hnm : n = m
  · subst hnm
    have Hl := Lib.hid hl
    have Hl' := Lib.hid hl'
    have Hr := Lib.hid hr
    have Hr' := Lib.hid hr'
    clear hr' hr hl' hl
    go_enter Try.func12, Try.ntmps12
    go_wp2_with fail
    go_loopw [13] (fun i wr => ∃ j q : Nat, j ≤ n ∧ i = .int .i64 j ∧ wr = w.drewN q ∧ Hid (xs.take j = ys.take j)) (fun i _ => n - (intOf i).toNat)
    case atStart => exact ⟨0, 0, by omega, rfl, rfl, by show _ = _; simp⟩
    case round =>
      obtain ⟨j, q, hj, rfl, rfl, ht⟩ := hrel
      by_cases hlt : j < n
      · obtain ⟨ad, u, rfl, _, hu, hcell⟩ := Hr.out.at_ hlt
        obtain ⟨ad', u', rfl, _, hu', hcell'⟩ := Hr'.out.at_ hlt
        rw [List.getElem?_map, Option.map_eq_some_iff] at hu hu'
        obtain ⟨x, hx, rfl⟩ := hu
        obtain ⟨y, hy, rfl⟩ := hu'
        have i0 : (0 : Int) ≤ (j : Int) := by omega
        have i1 : (j : Int) < (n : Int) := by omega
        have HX := Lib.hid hx
        have HY := Lib.hid hy
        clear hy hx
        by_cases hxy : x = y
        · subst hxy
          go_wp2_with fail
          go_quiet (fail)
          go_wp2_with fail
          refine ⟨⟨j + 1, _, by omega, by go_num, rfl, take_snoc_eq ht.out (by rw [HX.out, HY.out])⟩, by simp [intOf]; omega⟩
        · have hb : (x != y) = true := by simpa using hxy
          have Hxy := Lib.hid hxy
          clear hxy
          go_wp2_with fail
          go_quiet (fail)
          go_wp2_with fail
          go_ret
          exact ⟨ret_b (decide_eq_false (ne_of_at (j := j) (by rw [HX.out, HY.out]; simpa using Hxy.out))).symm, _, by rw [World.drewN_drewN]⟩
      · obtain rfl : n = j := by omega
        go_wp2_with fail
        go_ret
        refine ⟨ret_b (decide_eq_true ?_).symm, _, rfl⟩
        have := ht.out
        rwa [List.take_of_length_le (by rw [Hl.out]; omega), List.take_of_length_le (by rw [Hl'.out]; omega)] at this
  · have hb : ((n : Int) != (m : Int)) = true := by rw [bne_iff_ne]; omega
    have Hl := Lib.hid hl
    have Hl' := Lib.hid hl'
    have Hr := Lib.hid hr
    have Hr' := Lib.hid hr'
    have Hnm := Lib.hid hnm
    clear hnm hr' hr hl' hl
    go_enter Try.func12, Try.ntmps12
    go_wp2_with fail
    go_ret
    exact ⟨ret_b (decide_eq_false (fun h => Hnm.out (by rw [← Hl.out, ← Hl'.out, h]))).symm, 0, rfl⟩
set_option maxRecDepth 100000 in
set_option maxHeartbeats 1000000 in
theorem sameKinds_any (v1 v2 : Value) (xs ys : List Int) (w : World) (B C : Nat) (h1 : NumsAt .u8 w B v1 xs) (h2 : NumsAt .u8 w C v2 ys) :
    Calls Try.prog 25 #[v1, v2] w fun e w' => e = .returned (.bool (decide (xs = ys))) ∧ ∃ q, w' = w.drewN q := by
  obtain ⟨A, n, c, rfl, hnc, hc, hl, hr⟩ := h1
  obtain ⟨A', m, c', rfl, hnc', hc', hl', hr'⟩ := h2
  unfold maxLen at hc hc'
  by_cases hnm : n = m
  · subst hnm
    have Hl := Lib.hid hl
    have Hl' := Lib.hid hl'
    have Hr := Lib.hid hr
    have Hr' := Lib.hid hr'
    clear hr' hr hl' hl
    go_enter Try.func25, Try.ntmps25
    go_wp2_with fail
    go_loopw [13] (fun i wr => ∃ j q : Nat, j ≤ n ∧ i = .int .i64 j ∧ wr = w.drewN q ∧ Hid (xs.take j = ys.take j)) (fun i _ => n - (intOf i).toNat)
    case atStart => exact ⟨0, 0, by omega, rfl, rfl, by show _ = _; simp⟩
    case round =>
      obtain ⟨j, q, hj, rfl, rfl, ht⟩ := hrel
      by_cases hlt : j < n
      · obtain ⟨ad, u, rfl, _, hu, hcell⟩ := Hr.out.at_ hlt
        obtain ⟨ad', u', rfl, _, hu', hcell'⟩ := Hr'.out.at_ hlt
        rw [List.getElem?_map, Option.map_eq_some_iff] at hu hu'
        obtain ⟨x, hx, rfl⟩ := hu
        obtain ⟨y, hy, rfl⟩ := hu'
        have i0 : (0 : Int) ≤ (j : Int) := by omega
        have i1 : (j : Int) < (n : Int) := by omega
        have HX := Lib.hid hx
        have HY := Lib.hid hy
        clear hy hx
        by_cases hxy : x = y
        · subst hxy
          go_wp2_with fail
          go_quiet (fail)
          go_wp2_with fail
          refine ⟨⟨j + 1, _, by omega, by go_num, rfl, take_snoc_eq ht.out (by rw [HX.out, HY.out])⟩, by simp [intOf]; omega⟩
        · have hb : (x != y) = true := by simpa using hxy
          have Hxy := Lib.hid hxy
          clear hxy
          go_wp2_with fail
          go_quiet (fail)
          go_wp2_with fail
          go_ret
          exact ⟨ret_b (decide_eq_false (ne_of_at (j := j) (by rw [HX.out, HY.out]; simpa using Hxy.out))).symm, _, by rw [World.drewN_drewN]⟩
      · obtain rfl : n = j := by omega
        go_wp2_with fail
        go_ret
        refine ⟨ret_b (decide_eq_true ?_).symm, _, rfl⟩
        have := ht.out
        rwa [List.take_of_length_le (by rw [Hl.out]; omega), List.take_of_length_le (by rw [Hl'.out]; omega)] at this
  · have hb : ((n : Int) != (m : Int)) = true := by rw [bne_iff_ne]; omega
    have Hl := Lib.hid hl
    have Hl' := Lib.hid hl'
    have Hr := Lib.hid hr
    have Hr' := Lib.hid hr'
    have Hnm := Lib.hid hnm
    clear hnm hr' hr hl' hl
    go_enter Try.func25, Try.ntmps25
    go_wp2_with fail
    go_ret
    exact ⟨ret_b (decide_eq_false (fun h => Hnm.out (by rw [← Hl.out, ← Hl'.out, h]))).symm, 0, rfl⟩
set_option maxRecDepth 100000 in
set_option maxHeartbeats 1000000 in
theorem eqInts_any (v1 v2 : Value) (xs ys : List Int) (w : World) (B C : Nat) (h1 : NumsAt .i64 w B v1 xs) (h2 : NumsAt .i64 w C v2 ys) :
    Calls Try.prog 34 #[v1, v2] w fun e w' => e = .returned (.bool (decide (xs = ys))) ∧ ∃ q, w' = w.drewN q := by
  obtain ⟨A, n, c, rfl, hnc, hc, hl, hr⟩ := h1
  obtain ⟨A', m, c', rfl, hnc', hc', hl', hr'⟩ := h2
  unfold maxLen at hc hc'
  by_cases hnm : n = m
  · subst hnm
    have Hl := Lib.hid hl
    have Hl' := Lib.hid hl'
    have Hr := Lib.hid hr
    have Hr' := Lib.hid hr'
    clear hr' hr hl' hl
    go_enter Try.func34, Try.ntmps34
    go_wp2_with fail
    go_loopw [13] (fun i wr => ∃ j q : Nat, j ≤ n ∧ i = .int .i64 j ∧ wr = w.drewN q ∧ Hid (xs.take j = ys.take j)) (fun i _ => n - (intOf i).toNat)
    case atStart => exact ⟨0, 0, by omega, rfl, rfl, by show _ = _; simp⟩
    case round =>
      obtain ⟨j, q, hj, rfl, rfl, ht⟩ := hrel
      by_cases hlt : j < n
      · obtain ⟨ad, u, rfl, _, hu, hcell⟩ := Hr.out.at_ hlt
        obtain ⟨ad', u', rfl, _, hu', hcell'⟩ := Hr'.out.at_ hlt
        rw [List.getElem?_map, Option.map_eq_some_iff] at hu hu'
        obtain ⟨x, hx, rfl⟩ := hu
        obtain ⟨y, hy, rfl⟩ := hu'
        have i0 : (0 : Int) ≤ (j : Int) := by omega
        have i1 : (j : Int) < (n : Int) := by omega
        have HX := Lib.hid hx
        have HY := Lib.hid hy
        clear hy hx
        by_cases hxy : x = y
        · subst hxy
          go_wp2_with fail
          go_quiet (fail)
          go_wp2_with fail
          refine ⟨⟨j + 1, _, by omega, by go_num, rfl, take_snoc_eq ht.out (by rw [HX.out, HY.out])⟩, by simp [intOf]; omega⟩
        · have hb : (x != y) = true := by simpa using hxy
          have Hxy := Lib.hid hxy
          clear hxy
          go_wp2_with fail
          go_quiet (fail)
          go_wp2_with fail
          go_ret
          exact ⟨ret_b (decide_eq_false (ne_of_at (j := j) (by rw [HX.out, HY.out]; simpa using Hxy.out))).symm, _, by rw [World.drewN_drewN]⟩
      · obtain rfl : n = j := by omega
        go_wp2_with fail
        go_ret
        refine ⟨ret_b (decide_eq_true ?_).symm, _, rfl⟩
        have := ht.out
        rwa [List.take_of_length_le (by rw [Hl.out]; omega), List.take_of_length_le (by rw [Hl'.out]; omega)] at this
  · have hb : ((n : Int) != (m : Int)) = true := by rw [bne_iff_ne]; omega
    have Hl := Lib.hid hl
    have Hl' := Lib.hid hl'
    have Hr := Lib.hid hr
    have Hr' := Lib.hid hr'
    have Hnm := Lib.hid hnm
    clear hnm hr' hr hl' hl
    go_enter Try.func34, Try.ntmps34
    go_wp2_with fail
    go_ret
    exact ⟨ret_b (decide_eq_false (fun h => Hnm.out (by rw [← Hl.out, ← Hl'.out, h]))).symm, 0, rfl⟩
set_option maxRecDepth 100000 in
set_option maxHeartbeats 1000000 in
theorem eqKinds_any (v1 v2 : Value) (xs ys : List Int) (w : World) (B C : Nat) (h1 : NumsAt .u8 w B v1 xs) (h2 : NumsAt .u8 w C v2 ys) :
    Calls Try.prog 35 #[v1, v2] w fun e w' => e = .returned (.bool (decide (xs = ys))) ∧ ∃ q, w' = w.drewN q := by
  obtain ⟨A, n, c, rfl, hnc, hc, hl, hr⟩ := h1
  obtain ⟨A', m, c', rfl, hnc', hc', hl', hr'⟩ := h2
  unfold maxLen at hc hc'
  by_cases hnm : n = m
  · subst hnm
    have Hl := Lib.hid hl
    have Hl' := Lib.hid hl'
    have Hr := Lib.hid hr
    have Hr' := Lib.hid hr'
    clear hr' hr hl' hl
    go_enter Try.func35, Try.ntmps35
    go_wp2_with fail
    go_loopw [13] (fun i wr => ∃ j q : Nat, j ≤ n ∧ i = .int .i64 j ∧ wr = w.drewN q ∧ Hid (xs.take j = ys.take j)) (fun i _ => n - (intOf i).toNat)
    case atStart => exact ⟨0, 0, by omega, rfl, rfl, by show _ = _; simp⟩
    case round =>
      obtain ⟨j, q, hj, rfl, rfl, ht⟩ := hrel
      by_cases hlt : j < n
      · obtain ⟨ad, u, rfl, _, hu, hcell⟩ := Hr.out.at_ hlt
        obtain ⟨ad', u', rfl, _, hu', hcell'⟩ := Hr'.out.at_ hlt
        rw [List.getElem?_map, Option.map_eq_some_iff] at hu hu'
        obtain ⟨x, hx, rfl⟩ := hu
        obtain ⟨y, hy, rfl⟩ := hu'
        have i0 : (0 : Int) ≤ (j : Int) := by omega
        have i1 : (j : Int) < (n : Int) := by omega
        have HX := Lib.hid hx
        have HY := Lib.hid hy
        clear hy hx
        by_cases hxy : x = y
        · subst hxy
          go_wp2_with fail
          go_quiet (fail)
          go_wp2_with fail
          refine ⟨⟨j + 1, _, by omega, by go_num, rfl, take_snoc_eq ht.out (by rw [HX.out, HY.out])⟩, by simp [intOf]; omega⟩
        · have hb : (x != y) = true := by simpa using hxy
          have Hxy := Lib.hid hxy
          clear hxy
          go_wp2_with fail
          go_quiet (fail)
          go_wp2_with fail
          go_ret
          exact ⟨ret_b (decide_eq_false (ne_of_at (j := j) (by rw [HX.out, HY.out]; simpa using Hxy.out))).symm, _, by rw [World.drewN_drewN]⟩
      · obtain rfl : n = j := by omega
        go_wp2_with fail
        go_ret
        refine ⟨ret_b (decide_eq_true ?_).symm, _, rfl⟩
        have := ht.out
        rwa [List.take_of_length_le (by rw [Hl.out]; omega), List.take_of_length_le (by rw [Hl'.out]; omega)] at this
  · have hb : ((n : Int) != (m : Int)) = true := by rw [bne_iff_ne]; omega
    have Hl := Lib.hid hl
    have Hl' := Lib.hid hl'
    have Hr := Lib.hid hr
    have Hr' := Lib.hid hr'
    have Hnm := Lib.hid hnm
    clear hnm hr' hr hl' hl
    go_enter Try.func35, Try.ntmps35
    go_wp2_with fail
    go_ret
    exact ⟨ret_b (decide_eq_false (fun h => Hnm.out (by rw [← Hl.out, ← Hl'.out, h]))).symm, 0, rfl⟩
end Go.Proofs.Ytfjalejlbegkeaa
