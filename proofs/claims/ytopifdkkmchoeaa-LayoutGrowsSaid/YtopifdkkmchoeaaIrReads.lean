/- Walks of what a node reads, writes, goes on to, in the program and in the document; and of the question whether two lists are the same. Conditions: the node, the lists lie in memory. -/
import Derived.Test.YtopifdkkmchoeaaIrOnce
import Derived.Test.YtopifdkkmchoeaaIrNode
set_option linter.unusedVariables false
set_option linter.unusedSimpArgs false
namespace Go.Proofs.Ytopifdkkmchoeaa
open Go.RowKit

def readsL (x : NodeD) : List Int := if x.op = 2 ∨ x.op = 5 ∨ x.op = 7 ∨ x.op = 9 ∨ x.op = 12 ∨ x.op = 14 ∨ x.op = 17 ∨ x.op = 18 then onceL [x.a] else if x.op = 3 ∨ x.op = 8 then onceL [x.a, x.b] else if x.op = 11 ∨ x.op = 13 then onceL x.args else []
def writesL (x : NodeD) : List Int := if x.op = 1 ∨ x.op = 2 ∨ x.op = 3 ∨ x.op = 4 ∨ x.op = 6 ∨ x.op = 7 ∨ x.op = 11 ∨ x.op = 16 then onceL [x.d] else if x.op = 15 then onceL [x.d, x.e] else []
set_option maxRecDepth 100000 in
set_option maxHeartbeats 4000000 in
theorem writes_any (w : World) (x : NodeD) (av : Value) :
    Calls Try.prog 24 #[.agg (ncells x av).toArray] w fun e w' => (∃ v, e = .returned v ∧ Lst w' v (writesL x)) ∧ Below w.heap.size w w' := by
  obtain ⟨N, hN⟩ : ∃ N, writesL x = N := ⟨_, rfl⟩
  rw [hN]
  unfold writesL at hN
  obtain ⟨op, byo, d, e_, a, b, f, cell, imm, args, next, els⟩ := x
  simp only at hN
  simp only [ncells]
  obtain ⟨G, hG⟩ : ∃ G, G = w.heap.size := ⟨_, rfl⟩
  have hP := Blk.new w 50 #[.int .u8 op, .int .u8 byo, .int .i64 d, .int .i64 e_, .int .i64 a, .int .i64 b, .int .i64 f, .int .i64 cell, .int .u64 imm, av, .int .i64 next, .int .i64 els]
  have hb := (Below.refl w.heap.size w).alloc (Nat.le_refl _) (.cells #[.int .u8 op, .int .u8 byo, .int .i64 d, .int .i64 e_, .int .i64 a, .int .i64 b, .int .i64 f, .int .i64 cell, .int .u64 imm, av, .int .i64 next, .int .i64 els] 50)
  rw [← hG] at hP
  have kp0 := Blk.cell hP 0
  have kp2 := Blk.cell hP 2
  have kp3 := Blk.cell hP 3
  simp only [List.getElem?_toArray, List.getElem?_cons_zero, List.getElem?_cons_succ] at kp0 kp2 kp3
  obtain ⟨V, hV⟩ : ∃ V, V = w.alloc (.cells #[.int .u8 op, .int .u8 byo, .int .i64 d, .int .i64 e_, .int .i64 a, .int .i64 b, .int .i64 f, .int .i64 cell, .int .u64 imm, av, .int .i64 next, .int .i64 els] 50) := ⟨_, rfl⟩
  rw [← hV] at hb hP kp0 kp2 kp3
  have Hb := Lib.hid hb
  have HP := Lib.hid hP
  have HV := Lib.hid hV
  have HG := Lib.hid hG
  clear hG hV hP hb
  by_cases e1 : op = 1 ∨ op = 2 ∨ op = 3 ∨ op = 4 ∨ op = 6 ∨ op = 7 ∨ op = 11 ∨ op = 16
  · rw [if_pos e1] at hN
    subst hN
    rcases e1 with e | e | e | e | e | e | e | e
    all_goals
      subst e
      go_enter Try.func24, Try.ntmps24
      go_upto_region 1 with fail
      rw [← HV.out, ← HG.out]
      go_wp2_with fail
      refine (once_any _ (V.heap.size + 1) (by simp) (some ⟨V.heap.size, 0, none⟩) 1 1 [d] (Reads.newL' V 3 [d] rfl rfl rfl) rfl (by omega)).mono ?_
      rintro e w1 ⟨⟨v, rfl, hL⟩, hb1⟩
      have hfin := Hb.out.trans (((Below.refl V.heap.size V).alloc (Nat.le_refl _) (.cells #[.int .i64 d] 3)).trans (hb1.mono (by simp)) |>.mono Hb.out.size)
      have HL := Lib.hid hL
      have Hfin := Lib.hid hfin
      clear hfin hL
      clear hb1
      go_wp2_with fail
      go_ret
      exact ⟨⟨_, rfl, HL.out⟩, Hfin.out⟩
  rw [if_neg e1] at hN
  by_cases e2 : op = 15
  · rw [if_pos e2] at hN
    subst hN
    have He1 := Lib.hid e1
    clear e1
    subst e2
    go_enter Try.func24, Try.ntmps24
    go_upto_region 1 with fail
    rw [← HV.out, ← HG.out]
    go_wp2_with fail
    refine (once_any _ (V.heap.size + 1) (by simp) (some ⟨V.heap.size, 0, none⟩) 2 2 [d, e_] (Reads.newL' V 3 [d, e_] rfl rfl rfl) rfl (by omega)).mono ?_
    rintro e w1 ⟨⟨v, rfl, hL⟩, hb1⟩
    have hfin := Hb.out.trans (((Below.refl V.heap.size V).alloc (Nat.le_refl _) (.cells #[.int .i64 d, .int .i64 e_] 3)).trans (hb1.mono (by simp)) |>.mono Hb.out.size)
    have HL := Lib.hid hL
    have Hfin := Lib.hid hfin
    clear hfin hL
    clear hb1
    go_wp2_with fail
    go_ret
    exact ⟨⟨_, rfl, HL.out⟩, Hfin.out⟩
  rw [if_neg e2] at hN
  subst hN
  have x1 : (op == 1) = false := by rw [beq_eq_false_iff_ne]; omega
  have x2 : (op == 2) = false := by rw [beq_eq_false_iff_ne]; omega
  have x3 : (op == 3) = false := by rw [beq_eq_false_iff_ne]; omega
  have x4 : (op == 4) = false := by rw [beq_eq_false_iff_ne]; omega
  have x6 : (op == 6) = false := by rw [beq_eq_false_iff_ne]; omega
  have x7 : (op == 7) = false := by rw [beq_eq_false_iff_ne]; omega
  have x11 : (op == 11) = false := by rw [beq_eq_false_iff_ne]; omega
  have x15 : (op == 15) = false := by rw [beq_eq_false_iff_ne]; omega
  have x16 : (op == 16) = false := by rw [beq_eq_false_iff_ne]; omega
  have He1 := Lib.hid e1
  have He2 := Lib.hid e2
  clear e2 e1
  go_enter Try.func24, Try.ntmps24
  go_upto_region 1 with fail
  rw [← HV.out, ← HG.out]
  go_wp2_with fail
  go_ret
  exact ⟨⟨_, rfl, Lst.nil _⟩, Hb.out⟩
set_option maxRecDepth 100000 in
set_option maxHeartbeats 4000000 in
theorem refwrites_any (w : World) (x : NodeD) (av : Value) :
    Calls Try.prog 35 #[.agg (ncells x av).toArray] w fun e w' => (∃ v, e = .returned v ∧ Lst w' v (writesL x)) ∧ Below w.heap.size w w' := by
  obtain ⟨N, hN⟩ : ∃ N, writesL x = N := ⟨_, rfl⟩
  rw [hN]
  unfold writesL at hN
  obtain ⟨op, byo, d, e_, a, b, f, cell, imm, args, next, els⟩ := x
  simp only at hN
  simp only [ncells]
  obtain ⟨G, hG⟩ : ∃ G, G = w.heap.size := ⟨_, rfl⟩
  have hP := Blk.new w 50 #[.int .u8 op, .int .u8 byo, .int .i64 d, .int .i64 e_, .int .i64 a, .int .i64 b, .int .i64 f, .int .i64 cell, .int .u64 imm, av, .int .i64 next, .int .i64 els]
  have hb := (Below.refl w.heap.size w).alloc (Nat.le_refl _) (.cells #[.int .u8 op, .int .u8 byo, .int .i64 d, .int .i64 e_, .int .i64 a, .int .i64 b, .int .i64 f, .int .i64 cell, .int .u64 imm, av, .int .i64 next, .int .i64 els] 50)
  rw [← hG] at hP
  have kp0 := Blk.cell hP 0
  have kp2 := Blk.cell hP 2
  have kp3 := Blk.cell hP 3
  simp only [List.getElem?_toArray, List.getElem?_cons_zero, List.getElem?_cons_succ] at kp0 kp2 kp3
  obtain ⟨V, hV⟩ : ∃ V, V = w.alloc (.cells #[.int .u8 op, .int .u8 byo, .int .i64 d, .int .i64 e_, .int .i64 a, .int .i64 b, .int .i64 f, .int .i64 cell, .int .u64 imm, av, .int .i64 next, .int .i64 els] 50) := ⟨_, rfl⟩
  rw [← hV] at hb hP kp0 kp2 kp3
  have Hb := Lib.hid hb
  have HP := Lib.hid hP
  have HV := Lib.hid hV
  have HG := Lib.hid hG
  clear hG hV hP hb
  by_cases e1 : op = 1 ∨ op = 2 ∨ op = 3 ∨ op = 4 ∨ op = 6 ∨ op = 7 ∨ op = 11 ∨ op = 16
  · rw [if_pos e1] at hN
    subst hN
    rcases e1 with e | e | e | e | e | e | e | e
    all_goals
      subst e
      go_enter Try.func35, Try.ntmps35
      go_upto_region 1 with fail
      rw [← HV.out, ← HG.out]
      go_wp2_with fail
      refine (add_any _ (V.heap.size + 1) (by simp) (some ⟨V.heap.size, 0, none⟩) 1 1 [d] (Reads.newL' V 3 [d] rfl rfl rfl) rfl (by omega)).mono ?_
      rintro e w1 ⟨⟨v, rfl, hL⟩, hb1⟩
      have hfin := Hb.out.trans (((Below.refl V.heap.size V).alloc (Nat.le_refl _) (.cells #[.int .i64 d] 3)).trans (hb1.mono (by simp)) |>.mono Hb.out.size)
      have HL := Lib.hid hL
      have Hfin := Lib.hid hfin
      clear hfin hL
      clear hb1
      go_wp2_with fail
      go_ret
      exact ⟨⟨_, rfl, HL.out⟩, Hfin.out⟩
  rw [if_neg e1] at hN
  by_cases e2 : op = 15
  · rw [if_pos e2] at hN
    subst hN
    have He1 := Lib.hid e1
    clear e1
    subst e2
    go_enter Try.func35, Try.ntmps35
    go_upto_region 1 with fail
    rw [← HV.out, ← HG.out]
    go_wp2_with fail
    refine (add_any _ (V.heap.size + 1) (by simp) (some ⟨V.heap.size, 0, none⟩) 2 2 [d, e_] (Reads.newL' V 3 [d, e_] rfl rfl rfl) rfl (by omega)).mono ?_
    rintro e w1 ⟨⟨v, rfl, hL⟩, hb1⟩
    have hfin := Hb.out.trans (((Below.refl V.heap.size V).alloc (Nat.le_refl _) (.cells #[.int .i64 d, .int .i64 e_] 3)).trans (hb1.mono (by simp)) |>.mono Hb.out.size)
    have HL := Lib.hid hL
    have Hfin := Lib.hid hfin
    clear hfin hL
    clear hb1
    go_wp2_with fail
    go_ret
    exact ⟨⟨_, rfl, HL.out⟩, Hfin.out⟩
  rw [if_neg e2] at hN
  subst hN
  have x1 : (op == 1) = false := by rw [beq_eq_false_iff_ne]; omega
  have x2 : (op == 2) = false := by rw [beq_eq_false_iff_ne]; omega
  have x3 : (op == 3) = false := by rw [beq_eq_false_iff_ne]; omega
  have x4 : (op == 4) = false := by rw [beq_eq_false_iff_ne]; omega
  have x6 : (op == 6) = false := by rw [beq_eq_false_iff_ne]; omega
  have x7 : (op == 7) = false := by rw [beq_eq_false_iff_ne]; omega
  have x11 : (op == 11) = false := by rw [beq_eq_false_iff_ne]; omega
  have x15 : (op == 15) = false := by rw [beq_eq_false_iff_ne]; omega
  have x16 : (op == 16) = false := by rw [beq_eq_false_iff_ne]; omega
  have He1 := Lib.hid e1
  have He2 := Lib.hid e2
  clear e2 e1
  go_enter Try.func35, Try.ntmps35
  go_upto_region 1 with fail
  rw [← HV.out, ← HG.out]
  go_wp2_with fail
  go_ret
  exact ⟨⟨_, rfl, Lst.nil _⟩, Hb.out⟩
theorem take_snoc_eq {α : Type} {la lb : List α} {j : Nat} (h : la.take j = lb.take j) (he : la[j]? = lb[j]?) : la.take (j + 1) = lb.take (j + 1) := by
  rw [List.take_add_one, List.take_add_one, h, he]
theorem ne_of_at {α : Type} {la lb : List α} {j : Nat} (he : la[j]? ≠ lb[j]?) : la ≠ lb := fun h => he (by rw [h])
theorem ret_b {a b : Bool} (h : a = b) : Ending.returned (.bool a) = .returned (.bool b) := by rw [h]
end Go.Proofs.Ytopifdkkmchoeaa
