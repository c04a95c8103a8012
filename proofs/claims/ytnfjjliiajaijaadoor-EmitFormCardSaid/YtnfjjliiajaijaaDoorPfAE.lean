/- Part of the proof, named by its texts: IrReads IrRows IrCpP IrClone LinThru LinTail. No condition of its own. -/
import Derived.Test.YtnfjjliiajaijaaDoorPfAA
import Derived.Test.YtnfjjliiajaijaaDoorPfAD
import Derived.WalkSpells
import Derived.Test.YtnfjjliiajaijaaDoorPfAB
import Derived.Deep.LoopGhost
import Derived.WalkKit
import Derived.WalkMore
set_option linter.unusedVariables false
set_option linter.unusedSimpArgs false
set_option maxRecDepth 100000
set_option maxHeartbeats 16000000
namespace Go.Proofs.YtnfjjliiajaijaaDoor
open Go.RowKit
def zaT (x : zam) : List Int := if x.op = 2 ∨ x.op = 5 ∨ x.op = 7 ∨ x.op = 9 ∨ x.op = 12 ∨ x.op = 14 ∨ x.op = 17 ∨ x.op = 18 then zbx [x.a] else if x.op = 3 ∨ x.op = 8 then zbx [x.a, x.b] else if x.op = 11 ∨ x.op = 13 then zbx x.args else []
def zaD (x : zam) : List Int := if x.op = 1 ∨ x.op = 2 ∨ x.op = 3 ∨ x.op = 4 ∨ x.op = 6 ∨ x.op = 7 ∨ x.op = 11 ∨ x.op = 16 then zbx [x.d] else if x.op = 15 then zbx [x.d, x.e] else []
theorem zg9 (w : World) (x : zam) (av : Value) (D : Nat) (hD : D <= w.heap.size) (hav : zaO .i64 w D av x.args) (hal : x.args.length * 8 <= 140737488351232) :
  Calls Tryd.prog 27 #[.agg (zae x av).toArray] w fun e w' => (∃ v, e = .returned v /\ Lst w' v (zaT x)) /\ Below w.heap.size w w' := by
 obtain ⟨N, hN⟩ := mn (zaT x);rw [hN];unfold zaT at hN;obtain ⟨op, byo, d, e_, a, b, f, cell, imm, args, next, els⟩ := x;simp only at hN hav hal;obtain ⟨AA, ac, rfl, _, _, hAr⟩ := hav.slice;obtain ⟨m, hm⟩ := mn (args.length);rw [hm] at hAr hal;simp only [zae, hm];obtain ⟨G, hG⟩ := nm (w.heap.size);have hP := Blk.new w 55 #[.int .u8 op, .int .u8 byo, .int .i64 d, .int .i64 e_, .int .i64 a, .int .i64 b, .int .i64 f, .int .i64 cell, .int .u64 imm, .slice AA m ac, .int .i64 next, .int .i64 els];have hb := (Below.refl w.heap.size w).alloc (Nat.le_refl _) (.cells #[.int .u8 op, .int .u8 byo, .int .i64 d, .int .i64 e_, .int .i64 a, .int .i64 b, .int .i64 f, .int .i64 cell, .int .u64 imm, .slice AA m ac, .int .i64 next, .int .i64 els] 55);have hA := hAr.below (hb.mono hD);rw [<- hG] at hP;have kp0 := bc hP 0;have kp4 := bc hP 4;have kp5 := bc hP 5;have kp9 := bc hP 9;obtain ⟨V, hV⟩ := nm (w.alloc (.cells #[.int .u8 op, .int .u8 byo, .int .i64 d, .int .i64 e_, .int .i64 a, .int .i64 b, .int .i64 f, .int .i64 cell, .int .u64 imm, .slice AA m ac, .int .i64 next, .int .i64 els] 55));rw [<- hV] at hb hA hP kp0 kp4 kp5 kp9;have hDV : D <= V.heap.size := Nat.le_trans hD hb.size;obtain ⟨Hb, HP, HAr, Hav, HA, Hm, HV, HG⟩ := hd8 hb hP hAr hav hA hm hV hG;clear hG hV hm hA hav hAr hP hb
 by_cases e1 : op = 2 ∨ op = 5 ∨ op = 7 ∨ op = 9 ∨ op = 12 ∨ op = 14 ∨ op = 17 ∨ op = 18
 ·rw [if_pos e1] at hN;subst hN
  rcases e1 with e | e | e | e | e | e | e | e
  all_goals
   subst e;go_enter Tryd.func27, Tryd.ntmps27;go_upto_region 1 with fail;rw [<- HV.out, <- HG.out];go_wp2_with fail;refine (zfO _ (V.heap.size + 1) (by simp) (some ⟨V.heap.size, 0, none⟩) 1 1 [a] (zal.newL' V 3 [a] rfl rfl rfl) rfl (by omega)).mono ?_;rintro e w1 ⟨⟨v, rfl, hL⟩, hb1⟩;have hfin := Hb.out.trans (((Below.refl V.heap.size V).alloc (Nat.le_refl _) (.cells #[.int .i64 a] 3)).trans (hb1.mono (by simp)) |>.mono Hb.out.size);obtain ⟨HL, Hfin⟩ := hd2 hL hfin;clear hfin hL;clear hb1;go_wp2_with fail;go_ret;exact ⟨⟨_, rfl, HL.out⟩, Hfin.out⟩
 rw [if_neg e1] at hN
 by_cases e2 : op = 3 ∨ op = 8
 ·rw [if_pos e2] at hN;subst hN;have He1 := Lib.hid e1;clear e1
  rcases e2 with e | e
  all_goals
   subst e;go_enter Tryd.func27, Tryd.ntmps27;go_upto_region 1 with fail;rw [<- HV.out, <- HG.out];go_wp2_with fail;refine (zfO _ (V.heap.size + 1) (by simp) (some ⟨V.heap.size, 0, none⟩) 2 2 [a, b] (zal.newL' V 3 [a, b] rfl rfl rfl) rfl (by omega)).mono ?_;rintro e w1 ⟨⟨v, rfl, hL⟩, hb1⟩;have hfin := Hb.out.trans (((Below.refl V.heap.size V).alloc (Nat.le_refl _) (.cells #[.int .i64 a, .int .i64 b] 3)).trans (hb1.mono (by simp)) |>.mono Hb.out.size);obtain ⟨HL, Hfin⟩ := hd2 hL hfin;clear hfin hL;clear hb1;go_wp2_with fail;go_ret;exact ⟨⟨_, rfl, HL.out⟩, Hfin.out⟩
 rw [if_neg e2] at hN
 by_cases e3 : op = 11 ∨ op = 13
 ·rw [if_pos e3] at hN;subst hN;obtain ⟨He1, He2⟩ := hd2 e1 e2;clear e2 e1
  rcases e3 with e | e
  all_goals
   subst e;go_enter Tryd.func27, Tryd.ntmps27;go_upto_region 1 with fail;rw [<- HV.out, <- HG.out];go_wp2_with fail;refine (zfO _ D hDV AA m ac args HA.out Hm.out hal).mono ?_;rintro e w1 ⟨⟨v, rfl, hL⟩, hb1⟩;have hfin := Hb.out.trans (hb1.mono Hb.out.size);obtain ⟨HL, Hfin⟩ := hd2 hL hfin;clear hfin hL;clear hb1;go_wp2_with fail;go_ret;exact ⟨⟨_, rfl, HL.out⟩, Hfin.out⟩
 rw [if_neg e3] at hN;subst hN
 have x2 : (op == 2) = false := by rw [beq_eq_false_iff_ne]; omega
 have x3 : (op == 3) = false := by rw [beq_eq_false_iff_ne]; omega
 have x5 : (op == 5) = false := by rw [beq_eq_false_iff_ne]; omega
 have x7 : (op == 7) = false := by rw [beq_eq_false_iff_ne]; omega
 have x8 : (op == 8) = false := by rw [beq_eq_false_iff_ne]; omega
 have x9 : (op == 9) = false := by rw [beq_eq_false_iff_ne]; omega
 have x11 : (op == 11) = false := by rw [beq_eq_false_iff_ne]; omega
 have x12 : (op == 12) = false := by rw [beq_eq_false_iff_ne]; omega
 have x13 : (op == 13) = false := by rw [beq_eq_false_iff_ne]; omega
 have x14 : (op == 14) = false := by rw [beq_eq_false_iff_ne]; omega
 have x17 : (op == 17) = false := by rw [beq_eq_false_iff_ne]; omega
 have x18 : (op == 18) = false := by rw [beq_eq_false_iff_ne]; omega
 obtain ⟨He1, He2, He3⟩ := hd3 e1 e2 e3;clear e3 e2 e1;go_enter Tryd.func27, Tryd.ntmps27;go_upto_region 1 with fail;rw [<- HV.out, <- HG.out];go_wp2_with fail;go_ret;exact ⟨⟨_, rfl, Lst.nil _⟩, Hb.out⟩
theorem ziR (w : World) (x : zam) (av : Value) :
  Calls Tryd.prog 35 #[.agg (zae x av).toArray] w fun e w' => (∃ v, e = .returned v /\ Lst w' v (zaD x)) /\ Below w.heap.size w w' := by
 obtain ⟨N, hN⟩ := mn (zaD x);rw [hN];unfold zaD at hN;obtain ⟨op, byo, d, e_, a, b, f, cell, imm, args, next, els⟩ := x;simp only at hN;simp only [zae];obtain ⟨G, hG⟩ := nm (w.heap.size);have hP := Blk.new w 55 #[.int .u8 op, .int .u8 byo, .int .i64 d, .int .i64 e_, .int .i64 a, .int .i64 b, .int .i64 f, .int .i64 cell, .int .u64 imm, av, .int .i64 next, .int .i64 els];have hb := (Below.refl w.heap.size w).alloc (Nat.le_refl _) (.cells #[.int .u8 op, .int .u8 byo, .int .i64 d, .int .i64 e_, .int .i64 a, .int .i64 b, .int .i64 f, .int .i64 cell, .int .u64 imm, av, .int .i64 next, .int .i64 els] 55);rw [<- hG] at hP;have kp0 := bc hP 0;have kp2 := bc hP 2;have kp3 := bc hP 3;obtain ⟨V, hV⟩ := nm (w.alloc (.cells #[.int .u8 op, .int .u8 byo, .int .i64 d, .int .i64 e_, .int .i64 a, .int .i64 b, .int .i64 f, .int .i64 cell, .int .u64 imm, av, .int .i64 next, .int .i64 els] 55));rw [<- hV] at hb hP kp0 kp2 kp3;obtain ⟨Hb, HP, HV, HG⟩ := hd4 hb hP hV hG;clear hG hV hP hb
 by_cases e1 : op = 1 ∨ op = 2 ∨ op = 3 ∨ op = 4 ∨ op = 6 ∨ op = 7 ∨ op = 11 ∨ op = 16
 ·rw [if_pos e1] at hN;subst hN
  rcases e1 with e | e | e | e | e | e | e | e
  all_goals
   subst e;go_enter Tryd.func35, Tryd.ntmps35;go_upto_region 1 with fail;rw [<- HV.out, <- HG.out];go_wp2_with fail;refine (ziA _ (V.heap.size + 1) (by simp) (some ⟨V.heap.size, 0, none⟩) 1 1 [d] (zal.newL' V 3 [d] rfl rfl rfl) rfl (by omega)).mono ?_;rintro e w1 ⟨⟨v, rfl, hL⟩, hb1⟩;have hfin := Hb.out.trans (((Below.refl V.heap.size V).alloc (Nat.le_refl _) (.cells #[.int .i64 d] 3)).trans (hb1.mono (by simp)) |>.mono Hb.out.size);obtain ⟨HL, Hfin⟩ := hd2 hL hfin;clear hfin hL;clear hb1;go_wp2_with fail;go_ret;exact ⟨⟨_, rfl, HL.out⟩, Hfin.out⟩
 rw [if_neg e1] at hN
 by_cases e2 : op = 15
 ·rw [if_pos e2] at hN;subst hN;have He1 := Lib.hid e1;clear e1;subst e2;go_enter Tryd.func35, Tryd.ntmps35;go_upto_region 1 with fail;rw [<- HV.out, <- HG.out];go_wp2_with fail;refine (ziA _ (V.heap.size + 1) (by simp) (some ⟨V.heap.size, 0, none⟩) 2 2 [d, e_] (zal.newL' V 3 [d, e_] rfl rfl rfl) rfl (by omega)).mono ?_;rintro e w1 ⟨⟨v, rfl, hL⟩, hb1⟩;have hfin := Hb.out.trans (((Below.refl V.heap.size V).alloc (Nat.le_refl _) (.cells #[.int .i64 d, .int .i64 e_] 3)).trans (hb1.mono (by simp)) |>.mono Hb.out.size);obtain ⟨HL, Hfin⟩ := hd2 hL hfin;clear hfin hL;clear hb1;go_wp2_with fail;go_ret;exact ⟨⟨_, rfl, HL.out⟩, Hfin.out⟩
 rw [if_neg e2] at hN;subst hN
 have x1 : (op == 1) = false := by rw [beq_eq_false_iff_ne]; omega
 have x2 : (op == 2) = false := by rw [beq_eq_false_iff_ne]; omega
 have x3 : (op == 3) = false := by rw [beq_eq_false_iff_ne]; omega
 have x4 : (op == 4) = false := by rw [beq_eq_false_iff_ne]; omega
 have x6 : (op == 6) = false := by rw [beq_eq_false_iff_ne]; omega
 have x7 : (op == 7) = false := by rw [beq_eq_false_iff_ne]; omega
 have x11 : (op == 11) = false := by rw [beq_eq_false_iff_ne]; omega
 have x15 : (op == 15) = false := by rw [beq_eq_false_iff_ne]; omega
 have x16 : (op == 16) = false := by rw [beq_eq_false_iff_ne]; omega
 obtain ⟨He1, He2⟩ := hd2 e1 e2;clear e2 e1;go_enter Tryd.func35, Tryd.ntmps35;go_upto_region 1 with fail;rw [<- HV.out, <- HG.out];go_wp2_with fail;go_ret;exact ⟨⟨_, rfl, Lst.nil _⟩, Hb.out⟩
theorem zgx (w : World) (x : zam) (av : Value) :
  Calls Tryd.prog 14 #[.agg (zae x av).toArray] w fun e w' => (∃ v, e = .returned v /\ Lst w' v (zaD x)) /\ Below w.heap.size w w' := by
 obtain ⟨N, hN⟩ := mn (zaD x);rw [hN];unfold zaD at hN;obtain ⟨op, byo, d, e_, a, b, f, cell, imm, args, next, els⟩ := x;simp only at hN;simp only [zae];obtain ⟨G, hG⟩ := nm (w.heap.size);have hP := Blk.new w 55 #[.int .u8 op, .int .u8 byo, .int .i64 d, .int .i64 e_, .int .i64 a, .int .i64 b, .int .i64 f, .int .i64 cell, .int .u64 imm, av, .int .i64 next, .int .i64 els];have hb := (Below.refl w.heap.size w).alloc (Nat.le_refl _) (.cells #[.int .u8 op, .int .u8 byo, .int .i64 d, .int .i64 e_, .int .i64 a, .int .i64 b, .int .i64 f, .int .i64 cell, .int .u64 imm, av, .int .i64 next, .int .i64 els] 55);rw [<- hG] at hP;have kp0 := bc hP 0;have kp2 := bc hP 2;have kp3 := bc hP 3;obtain ⟨V, hV⟩ := nm (w.alloc (.cells #[.int .u8 op, .int .u8 byo, .int .i64 d, .int .i64 e_, .int .i64 a, .int .i64 b, .int .i64 f, .int .i64 cell, .int .u64 imm, av, .int .i64 next, .int .i64 els] 55));rw [<- hV] at hb hP kp0 kp2 kp3;obtain ⟨Hb, HP, HV, HG⟩ := hd4 hb hP hV hG;clear hG hV hP hb
 by_cases e1 : op = 1 ∨ op = 2 ∨ op = 3 ∨ op = 4 ∨ op = 6 ∨ op = 7 ∨ op = 11 ∨ op = 16
 ·rw [if_pos e1] at hN;subst hN
  rcases e1 with e | e | e | e | e | e | e | e
  all_goals
   subst e;go_enter Tryd.func14, Tryd.ntmps14;go_upto_region 1 with fail;rw [<- HV.out, <- HG.out];go_wp2_with fail;refine (zfO _ (V.heap.size + 1) (by simp) (some ⟨V.heap.size, 0, none⟩) 1 1 [d] (zal.newL' V 3 [d] rfl rfl rfl) rfl (by omega)).mono ?_;rintro e w1 ⟨⟨v, rfl, hL⟩, hb1⟩;have hfin := Hb.out.trans (((Below.refl V.heap.size V).alloc (Nat.le_refl _) (.cells #[.int .i64 d] 3)).trans (hb1.mono (by simp)) |>.mono Hb.out.size);obtain ⟨HL, Hfin⟩ := hd2 hL hfin;clear hfin hL;clear hb1;go_wp2_with fail;go_ret;exact ⟨⟨_, rfl, HL.out⟩, Hfin.out⟩
 rw [if_neg e1] at hN
 by_cases e2 : op = 15
 ·rw [if_pos e2] at hN;subst hN;have He1 := Lib.hid e1;clear e1;subst e2;go_enter Tryd.func14, Tryd.ntmps14;go_upto_region 1 with fail;rw [<- HV.out, <- HG.out];go_wp2_with fail;refine (zfO _ (V.heap.size + 1) (by simp) (some ⟨V.heap.size, 0, none⟩) 2 2 [d, e_] (zal.newL' V 3 [d, e_] rfl rfl rfl) rfl (by omega)).mono ?_;rintro e w1 ⟨⟨v, rfl, hL⟩, hb1⟩;have hfin := Hb.out.trans (((Below.refl V.heap.size V).alloc (Nat.le_refl _) (.cells #[.int .i64 d, .int .i64 e_] 3)).trans (hb1.mono (by simp)) |>.mono Hb.out.size);obtain ⟨HL, Hfin⟩ := hd2 hL hfin;clear hfin hL;clear hb1;go_wp2_with fail;go_ret;exact ⟨⟨_, rfl, HL.out⟩, Hfin.out⟩
 rw [if_neg e2] at hN;subst hN
 have x1 : (op == 1) = false := by rw [beq_eq_false_iff_ne]; omega
 have x2 : (op == 2) = false := by rw [beq_eq_false_iff_ne]; omega
 have x3 : (op == 3) = false := by rw [beq_eq_false_iff_ne]; omega
 have x4 : (op == 4) = false := by rw [beq_eq_false_iff_ne]; omega
 have x6 : (op == 6) = false := by rw [beq_eq_false_iff_ne]; omega
 have x7 : (op == 7) = false := by rw [beq_eq_false_iff_ne]; omega
 have x11 : (op == 11) = false := by rw [beq_eq_false_iff_ne]; omega
 have x15 : (op == 15) = false := by rw [beq_eq_false_iff_ne]; omega
 have x16 : (op == 16) = false := by rw [beq_eq_false_iff_ne]; omega
 obtain ⟨He1, He2⟩ := hd2 e1 e2;clear e2 e1;go_enter Tryd.func14, Tryd.ntmps14;go_upto_region 1 with fail;rw [<- HV.out, <- HG.out];go_wp2_with fail;go_ret;exact ⟨⟨_, rfl, Lst.nil _⟩, Hb.out⟩
theorem zeV {α : Type} {la lb : List α} {j : Nat} (h : la.take j = lb.take j) (he : la[j]? = lb[j]?) : la.take (j + 1) = lb.take (j + 1) := by
 rw [List.take_add_one, List.take_add_one, h, he]
theorem ziF {α : Type} {la lb : List α} {j : Nat} (he : la[j]? ≠ lb[j]?) : la ≠ lb := fun h => he (by rw [h])
theorem zi3 {a b : Bool} (h : a = b) : Ending.returned (.bool a) = .returned (.bool b) := by rw [h]
theorem zdz (v1 v2 : Value) (xs ys : List Int) (w : World) (B C : Nat) (h1 : zaO .i64 w B v1 xs) (h2 : zaO .i64 w C v2 ys) :
  Calls Tryd.prog 22 #[v1, v2] w fun e w' => e = .returned (.bool (decide (xs = ys))) /\ ∃ q, w' = w.drewN q := by
 obtain ⟨A, n, c, rfl, hnc, hc, hl, hr⟩ := h1;obtain ⟨A', m, c', rfl, hnc', hc', hl', hr'⟩ := h2;unfold maxLen at hc hc'
 by_cases hnm : n = m
 ·subst hnm;obtain ⟨Hl, Hl', Hr, Hr'⟩ := hd4 hl hl' hr hr';clear hr' hr hl' hl;go_enter Tryd.func22, Tryd.ntmps22;go_wp2_with fail
  go_loopw [13] (fun i wr => ∃ j q : Nat, j <= n /\ i = .int .i64 j /\ wr = w.drewN q /\ Hid (xs.take j = ys.take j)) (fun i _ => n - (intOf i).toNat)
  case atStart => exact ⟨0, 0, by omega, rfl, rfl, by show _ = _; simp⟩
  case round =>
   obtain ⟨j, q, hj, rfl, rfl, ht⟩ := hrel
   by_cases hlt : j < n
   ·obtain ⟨ad, u, rfl, _, hu, hcell⟩ := Hr.out.at_ hlt;obtain ⟨ad', u', rfl, _, hu', hcell'⟩ := Hr'.out.at_ hlt;rw [List.getElem?_map, Option.map_eq_some_iff] at hu hu';obtain ⟨x, hx, rfl⟩ := hu;obtain ⟨y, hy, rfl⟩ := hu'
    have i0 : (0 : Int) <= (j : Int) := by omega
    have i1 : (j : Int) < (n : Int) := by omega
    obtain ⟨HX, HY⟩ := hd2 hx hy;clear hy hx
    by_cases hxy : x = y
    ·subst hxy;go_wp2_with fail
     go_quiet (fail)
     go_wp2_with fail;refine ⟨⟨j + 1, _, by omega, by go_num, rfl, zeV ht.out (by rw [HX.out, HY.out])⟩, by simp [intOf]; omega⟩
    ·have hb : (x != y) = true := by simpa using hxy
     have Hxy := Lib.hid hxy;clear hxy;go_wp2_with fail
     go_quiet (fail)
     go_wp2_with fail;go_ret;exact ⟨zi3 (decide_eq_false (ziF (j := j) (by rw [HX.out, HY.out]; simpa using Hxy.out))).symm, _, by rw [World.drewN_drewN]⟩
   ·obtain rfl : n = j := by omega
    go_wp2_with fail;go_ret;refine ⟨zi3 (decide_eq_true ?_).symm, _, rfl⟩;have := ht.out
    rwa [List.take_of_length_le (by rw [Hl.out]; omega), List.take_of_length_le (by rw [Hl'.out]; omega)] at this
 ·have hb : ((n : Int) != (m : Int)) = true := by rw [bne_iff_ne]; omega
  obtain ⟨Hl, Hl', Hr, Hr', Hnm⟩ := hd5 hl hl' hr hr' hnm;clear hnm hr' hr hl' hl;go_enter Tryd.func22, Tryd.ntmps22;go_wp2_with fail;go_ret;exact ⟨zi3 (decide_eq_false (fun h => Hnm.out (by rw [<- Hl.out, <- Hl'.out, h]))).symm, 0, rfl⟩
theorem zgw (v1 v2 : Value) (xs ys : List Int) (w : World) (B C : Nat) (h1 : zaO .u8 w B v1 xs) (h2 : zaO .u8 w C v2 ys) :
  Calls Tryd.prog 23 #[v1, v2] w fun e w' => e = .returned (.bool (decide (xs = ys))) /\ ∃ q, w' = w.drewN q := by
 obtain ⟨A, n, c, rfl, hnc, hc, hl, hr⟩ := h1;obtain ⟨A', m, c', rfl, hnc', hc', hl', hr'⟩ := h2;unfold maxLen at hc hc'
 by_cases hnm : n = m
 ·subst hnm;obtain ⟨Hl, Hl', Hr, Hr'⟩ := hd4 hl hl' hr hr';clear hr' hr hl' hl;go_enter Tryd.func23, Tryd.ntmps23;go_wp2_with fail
  go_loopw [13] (fun i wr => ∃ j q : Nat, j <= n /\ i = .int .i64 j /\ wr = w.drewN q /\ Hid (xs.take j = ys.take j)) (fun i _ => n - (intOf i).toNat)
  case atStart => exact ⟨0, 0, by omega, rfl, rfl, by show _ = _; simp⟩
  case round =>
   obtain ⟨j, q, hj, rfl, rfl, ht⟩ := hrel
   by_cases hlt : j < n
   ·obtain ⟨ad, u, rfl, _, hu, hcell⟩ := Hr.out.at_ hlt;obtain ⟨ad', u', rfl, _, hu', hcell'⟩ := Hr'.out.at_ hlt;rw [List.getElem?_map, Option.map_eq_some_iff] at hu hu';obtain ⟨x, hx, rfl⟩ := hu;obtain ⟨y, hy, rfl⟩ := hu'
    have i0 : (0 : Int) <= (j : Int) := by omega
    have i1 : (j : Int) < (n : Int) := by omega
    obtain ⟨HX, HY⟩ := hd2 hx hy;clear hy hx
    by_cases hxy : x = y
    ·subst hxy;go_wp2_with fail
     go_quiet (fail)
     go_wp2_with fail;refine ⟨⟨j + 1, _, by omega, by go_num, rfl, zeV ht.out (by rw [HX.out, HY.out])⟩, by simp [intOf]; omega⟩
    ·have hb : (x != y) = true := by simpa using hxy
     have Hxy := Lib.hid hxy;clear hxy;go_wp2_with fail
     go_quiet (fail)
     go_wp2_with fail;go_ret;exact ⟨zi3 (decide_eq_false (ziF (j := j) (by rw [HX.out, HY.out]; simpa using Hxy.out))).symm, _, by rw [World.drewN_drewN]⟩
   ·obtain rfl : n = j := by omega
    go_wp2_with fail;go_ret;refine ⟨zi3 (decide_eq_true ?_).symm, _, rfl⟩;have := ht.out
    rwa [List.take_of_length_le (by rw [Hl.out]; omega), List.take_of_length_le (by rw [Hl'.out]; omega)] at this
 ·have hb : ((n : Int) != (m : Int)) = true := by rw [bne_iff_ne]; omega
  obtain ⟨Hl, Hl', Hr, Hr', Hnm⟩ := hd5 hl hl' hr hr' hnm;clear hnm hr' hr hl' hl;go_enter Tryd.func23, Tryd.ntmps23;go_wp2_with fail;go_ret;exact ⟨zi3 (decide_eq_false (fun h => Hnm.out (by rw [<- Hl.out, <- Hl'.out, h]))).symm, 0, rfl⟩
theorem zhr : (Tryd.prog.info? 87).map (fun i => (i.zero, i.size, i.bytes)) = some (some (.int .u8 0), 1, 1) := by kernel_rfl
theorem ziH : (Tryd.prog.info? 55).map (fun i => (i.zero, i.size, i.bytes)) = some (some (.agg #[.int .u8 0, .int .u8 0, .int .i64 0, .int .i64 0, .int .i64 0, .int .i64 0, .int .i64 0, .int .i64 0, .int .u64 0, .slice none 0 0, .int .i64 0, .int .i64 0]), 12, 104) := by kernel_rfl
theorem zhs : (Tryd.prog.info? 44).map (fun i => (i.zero, i.size, i.bytes)) = some (some (.agg #[.slice none 0 0, .slice none 0 0, .int .i64 0, .slice none 0 0, .bool false, .int .i64 0, .slice none 0 0, .int .i64 0]), 8, 128) := by kernel_rfl
abbrev zat (w : World) (base : Nat) (v : Value) (l : List Int) : Prop := w.ownsRow base 3 1 v l.length (l.map (Value.int .i64))
abbrev zaY (w : World) (base : Nat) (v : Value) (l : List Int) : Prop := w.ownsRow base 87 1 v l.length (l.map (Value.int .u8))
def zbr (w : World) (base B i : Nat) (v : Value) (l : List zam) : Prop :=
 ∃ css : List (List Value), css.length = l.length /\ w.ownsRow base 55 12 v l.length css.flatten /\ ∀ (k : Nat) x, l[k]? = some x -> ∃ av, css[k]? = some (zae x av) /\ (k < i -> zat w base av x.args) /\ (i <= k -> zaO .i64 w B av x.args)
def za4 (w : World) (base : Nat) (v : Value) (l : List zam) : Prop :=
 ∃ css : List (List Value), css.length = l.length /\ w.ownsRow base 55 12 v l.length css.flatten /\ ∀ (k : Nat) x, l[k]? = some x -> ∃ av, css[k]? = some (zae x av) /\ zat w base av x.args
def zbp (w : World) (base : Nat) (cs : List Value) (g : zad) : Prop :=
 ∃ pv kv iv nv, cs = zaH g pv kv iv nv /\ zat w base pv g.params /\ zaY w base kv g.kinds /\ zat w base iv g.init /\ za4 w base nv g.nodes
def zdx (w : World) (base : Nat) (css : List (List Value)) (gs : List zad) : Prop :=
 css.length = gs.length /\ ∀ (i : Nat) g, gs[i]? = some g -> ∃ cs, css[i]? = some cs /\ zbp w base cs g
section
variable {w w' : World} {base B i : Nat} {v : Value} {row : Option Nat}
def Far (w : World) (row : Option Nat) : Prop := ∀ g, row = some g -> w.heap.size <= g ∨ ∃ t cs, Blk w g t cs /\ t ≠ 3 /\ t ≠ 87 /\ t ≠ 55
theorem Far.none_ (w : World) : Far w none := nofun
theorem Far.blk {g : Nat} {t : TypeId} {cs : Array Value} (h : Blk w g t cs) (h1 : t ≠ 3) (h2 : t ≠ 87) (h3 : t ≠ 55) : Far w (some g) := fun k e => by
 injection e with e; subst e; exact .inr ⟨t, cs, h, h1, h2, h3⟩
theorem zat.kept {l : List Int} (h : zat w base v l) (hg : w.grownBy w' row) (hr : Far w row) : zat w' base v l :=
 zaX h hg fun g e => (hr g e).imp id fun ⟨t, cs, a, b, _⟩ => ⟨t, cs, a, b⟩
theorem zaY.kept {l : List Int} (h : zaY w base v l) (hg : w.grownBy w' row) (hr : Far w row) : zaY w' base v l :=
 zaX h hg fun g e => (hr g e).imp id fun ⟨t, cs, a, _, b, _⟩ => ⟨t, cs, a, b⟩
theorem za4.kept {l : List zam} (h : za4 w base v l) (hg : w.grownBy w' row) (hr : Far w row) : za4 w' base v l := by
 obtain ⟨css, h1, h2, h3⟩ := h;refine ⟨css, h1, zaX h2 hg fun g e => (hr g e).imp id fun ⟨t, cs, a, _, _, b⟩ => ⟨t, cs, a, b⟩, fun k x hx => ?_⟩;obtain ⟨av, q1, q2⟩ := h3 k x hx;exact ⟨av, q1, zat.kept q2 hg hr⟩
theorem zbp.kept {cs : List Value} {g : zad} (h : zbp w base cs g) (hg : w.grownBy w' row) (hr : Far w row) : zbp w' base cs g := by
 obtain ⟨pv, kv, iv, nv, h1, h2, h3, h4, h5⟩ := h;exact ⟨pv, kv, iv, nv, h1, zat.kept h2 hg hr, zaY.kept h3 hg hr, zat.kept h4 hg hr, za4.kept h5 hg hr⟩
theorem zdx.kept {css : List (List Value)} {gs : List zad} (h : zdx w base css gs) (hg : w.grownBy w' row) (hr : Far w row) : zdx w' base css gs :=
 ⟨h.1, fun i g hi => by
  obtain ⟨cs, h1, h2⟩ := h.2 i g hi
  exact ⟨cs, h1, h2.kept hg hr⟩⟩
theorem zdx.nil (w : World) (base : Nat) : zdx w base [] [] := ⟨rfl, by intro i f hf; simp at hf⟩
theorem zdx.snoc {css : List (List Value)} {gs : List zad} {cs : List Value} {g : zad} (h : zdx w base css gs) (hc : zbp w base cs g) : zdx w base (css ++ [cs]) (gs ++ [g]) := by
 refine ⟨by simp [h.1], fun i f hf => ?_⟩
 rcases Nat.lt_or_ge i gs.length with hi | hi
 ·rw [List.getElem?_append_left hi] at hf;obtain ⟨cs', k1, k2⟩ := h.2 i f hf;exact ⟨cs', by rw [List.getElem?_append_left (by rw [h.1]; exact hi)]; exact k1, k2⟩
 ·rw [List.getElem?_append_right hi] at hf
  have h0 : i - gs.length = 0 := by
   have := (List.getElem?_eq_some_iff.1 hf).1;simp at this; omega
  rw [h0] at hf;simp only [List.getElem?_cons_zero, Option.some.injEq] at hf;subst hf;exact ⟨cs, by rw [List.getElem?_append_right (by rw [h.1]; exact hi), h.1, h0]; rfl, hc⟩
theorem zat.nums {l : List Int} (h : zat w base v l) : zaO .i64 w w.heap.size v l := by
 obtain ⟨A, c, rfl, h1, h2, h3⟩ := zak h;exact ⟨A, _, c, rfl, h1, h2, rfl, h3⟩
theorem zaY.nums {l : List Int} (h : zaY w base v l) : zaO .u8 w w.heap.size v l := by
 obtain ⟨A, c, rfl, h1, h2, h3⟩ := zak h;exact ⟨A, _, c, rfl, h1, h2, rfl, h3⟩
theorem zc5 {css : List (List Value)} {l : List zam} {P : Nat -> zam -> Value -> Prop} (hl : css.length = l.length) (h : ∀ (k : Nat) x, l[k]? = some x -> ∃ av, css[k]? = some (zae x av) /\ P k x av) : ∀ c ∈ css, c.length = 12 := fun c hc => by
 obtain ⟨k, hk, rfl⟩ := List.getElem_of_mem hc;obtain ⟨av, q, _⟩ := h k l[k] (List.getElem?_eq_getElem (by omega));rw [List.getElem?_eq_getElem hk] at q;injection q with q;rw [q]; rfl
theorem za4.at_ {l : List zam} (h : za4 w base v l) : zaE 12 zbj w w.heap.size v l := by
 obtain ⟨css, h1, h2, h3⟩ := h;obtain ⟨A, c, rfl, k1, k2, k3⟩ := zak h2;refine ⟨A, _, c, css, rfl, k1, k2, rfl, h1, zc5 h1 h3, k3, fun i x hx => ?_⟩;obtain ⟨av, q1, q2⟩ := h3 i x hx;exact ⟨_, q1, av, rfl, zat.nums q2⟩
theorem zbp.at_ {cs : List Value} {g : zad} (h : zbp w base cs g) : zds w w.heap.size cs g := by
 obtain ⟨pv, kv, iv, nv, h1, h2, h3, h4, h5⟩ := h;exact ⟨pv, kv, iv, nv, h1, zat.nums h2, zaY.nums h3, zat.nums h4, h5.at_⟩
theorem zbp.len {cs : List Value} {g : zad} (h : zbp w base cs g) : cs.length = 8 := by
 obtain ⟨pv, kv, iv, nv, rfl, _⟩ := h
 rfl
theorem zdx.len {css : List (List Value)} {gs : List zad} (h : zdx w base css gs) : ∀ c ∈ css, c.length = 8 := fun c hc => by
 obtain ⟨k, hk, rfl⟩ := List.getElem_of_mem hc
 have hk' : k < gs.length := by rw [<- h.1]; exact hk
 obtain ⟨cs, q1, q2⟩ := h.2 k gs[k] (List.getElem?_eq_getElem hk');rw [List.getElem?_eq_getElem hk] at q1;injection q1 with q1;rw [q1]; exact q2.len
theorem zdx.at_ {css : List (List Value)} {gs : List zad} {base' : Nat} {e : TypeId} (h : zdx w base css gs) (ho : w.ownsRow base' e 8 v gs.length css.flatten) : zaI w w.heap.size v gs := by
 obtain ⟨A, c, rfl, h1, h2, h3⟩ := zak ho
 exact ⟨A, _, c, css, rfl, h1, h2, rfl, h.1, h.len, h3, fun i f hf => by
  obtain ⟨cs, k1, k2⟩ := h.2 i f hf
  exact ⟨cs, k1, k2.at_⟩⟩
end
structure zcO (gs : List zad) : Prop where
 each : ∀ g ∈ gs, g.params.length * 8 <= 140737488351232 /\ g.kinds.length <= 140737488351232 /\ g.init.length * 8 <= 140737488351232 /\ g.nodes.length * 104 <= 140737488351232 /\ ∀ x ∈ g.nodes, x.args.length * 8 <= 140737488351232
 len : gs.length * 128 <= 140737488351232
def zlW (gs : List zad) (w : World) (e : Ending) (w' : World) : Prop :=
 Below w.heap.size w w' /\ ∃ pv css, e = .returned (.agg #[pv]) /\ w'.ownsRow w.heap.size 44 8 pv gs.length css.flatten /\ zdx w' w.heap.size css gs
def zmL (w : World) (T U : Nat) (gs : List zad) (j : Nat) (wr : World) : Prop :=
 ∃ (css : List (List Value)) (pv : Value), wr.ownsRow w.heap.size 44 8 pv j css.flatten /\ zdx wr w.heap.size css (gs.take j) /\ Blk wr T 24 #[pv] /\ Blk wr U 24 #[.slice none 0 0] /\ Below w.heap.size w wr
theorem zev : ∀ (css : List (List Value)) (k : Nat) (x : zam) (av u : Value), (∀ c ∈ css, c.length = 12) -> css[k]? = some (zae x av) -> (css.flatten).set (k * 12 + 9) u = (css.set k (zae x u)).flatten
 | [], k, x, av, u, _, h => by simp at h
 | c :: r, 0, x, av, u, hl, h => by
  simp at h; subst h;rw [List.set_cons_zero, List.flatten_cons, List.flatten_cons, Nat.zero_mul, Nat.zero_add];rw [List.set_append_left _ _ (by simp [zae])]
  rfl
 | c :: r, k + 1, x, av, u, hl, h => by
  have hc := hl c List.mem_cons_self;have ih := zev r k x av u (fun d hd => hl d (List.mem_cons_of_mem _ hd)) (by simpa using h);rw [List.set_cons_succ, List.flatten_cons, List.flatten_cons, <- ih];rw [List.set_append_right _ _ (by rw [hc]; omega)]
  congr 2
  rw [hc]; omega
theorem zf9 {w : World} {M size n g j c : Nat} {e : TypeId} {u : Value} {xs : List Value} (h : w.ownsRow M e size (.slice (some ⟨g, 0, none⟩) n c) n xs) (hj : j < n * size) : (w.setCell ⟨g, j, none⟩ u).ownsRow M e size (.slice (some ⟨g, 0, none⟩) n c) n (xs.set j u) := by
 rcases h.2 with ⟨h0, _⟩ | ⟨g', cap, cur, hv, hb, hh, h1, h2, h3, h4⟩
 ·cases h0
 ·injection hv with hv1 _ hv3;injection hv1 with hv1;injection hv1 with hv1;subst hv1 hv3;have hset : (w.setCell ⟨g, j, none⟩ u).heap[g]? = some (.cells (cur.setIfInBounds j u) e (0, 0)) := Blk.set_ (show Blk w g e cur from hh) j u;refine ⟨by rw [List.length_set]; exact h.1, .inr ⟨g, c, _, rfl, hb, hset, h1, h2, by simpa using h3, ?_⟩⟩;rw [Array.toList_setIfInBounds, <- h4, List.take_set]
theorem zbr.start {w : World} {base B : Nat} {v v0 : Value} {l : List zam} {n : Nat} {css : List (List Value)} (hn : l.length = n) (hc : css.length = n) (ho : w.ownsRow base 55 12 v n css.flatten) (h : ∀ (i : Nat) x, l[i]? = some x -> ∃ cs, css[i]? = some cs /\ zbj w B cs x) : zbr w base B 0 v l := by
 subst hn;refine ⟨css, hc, ho, fun k x hx => ?_⟩;obtain ⟨cs, q1, av, rfl, q2⟩ := h k x hx;exact ⟨av, q1, fun h => absurd h (by omega), fun _ => q2⟩
theorem zbr.kept {w w' : World} {base B i : Nat} {v : Value} {l : List zam} {row : Option Nat} (h : zbr w base B i v l) (hg : w.grownBy w' row) (hr : Far w row) (hB : B <= w.heap.size) (hrB : ∀ g, row = some g -> B <= g) : zbr w' base B i v l := by
 obtain ⟨css, h1, h2, h3⟩ := h;refine ⟨css, h1, zaX h2 hg fun g e => (hr g e).imp id fun ⟨t, cs, a, _, _, b⟩ => ⟨t, cs, a, b⟩, fun k x hx => ?_⟩;obtain ⟨av, q1, q2, q3⟩ := h3 k x hx;refine ⟨av, q1, fun hk => zat.kept (q2 hk) hg hr, fun hk => ?_⟩;obtain ⟨A, n, c, r1, r2, r3, r4, r5⟩ := q3 hk;exact ⟨A, n, c, r1, r2, r3, r4, r5.grown hg hB hrB⟩
theorem zbr.fin {w : World} {base B : Nat} {v : Value} {l : List zam} (h : zbr w base B l.length v l) : za4 w base v l := by
 obtain ⟨css, h1, h2, h3⟩ := h;refine ⟨css, h1, h2, fun k x hx => ?_⟩;obtain ⟨av, q1, q2, _⟩ := h3 k x hx;exact ⟨av, q1, q2 (List.getElem?_eq_some_iff.1 hx).1⟩
theorem zlf (x : zam) {av : Value} (h : av.oneCell' = true) : ∀ u ∈ zae x av, u.oneCell' = true := by
 intro u hu;simp only [zae, List.mem_cons, List.not_mem_nil, or_false] at hu
 rcases hu with rfl | rfl | rfl | rfl | rfl | rfl | rfl | rfl | rfl | rfl | rfl | rfl
 all_goals first | rfl | exact h
theorem zkf {w : World} {B : Nat} {css : List (List Value)} {l : List zam} (hc : css.length = l.length) (h : ∀ (i : Nat) x, l[i]? = some x -> ∃ cs, css[i]? = some cs /\ zbj w B cs x) : ∀ u ∈ css.flatten, u.oneCell' = true := by
 intro u hu;obtain ⟨cs, hcs, hu⟩ := List.mem_flatten.1 hu;obtain ⟨k, hk, rfl⟩ := List.getElem_of_mem hcs;obtain ⟨cs', q1, av, rfl, q2⟩ := h k l[k] (List.getElem?_eq_getElem (by omega));rw [List.getElem?_eq_getElem hk] at q1;injection q1 with q1;rw [q1] at hu;obtain ⟨A, n, c, rfl, _⟩ := q2;exact zlf _ rfl u hu
theorem zbW (k : IntKind) (l : List Int) : ∀ u ∈ l.map (Value.int k), u.oneCell' = true := by
 intro u hu;obtain ⟨z, _, rfl⟩ := List.mem_map.1 hu
 rfl
theorem zat.far {w : World} {base g j : Nat} {v u : Value} {l : List Int} {t : TypeId} {cs : Array Value} (h : zat w base v l) (hg : Blk w g t cs) (ht : 3 ≠ t) : zat (w.setCell ⟨g, j, none⟩ u) base v l := ownsRow_setCell_other h (a := ⟨g, j, none⟩) (zaq h hg ht) u
theorem zaY.far {w : World} {base g j : Nat} {v u : Value} {l : List Int} {t : TypeId} {cs : Array Value} (h : zaY w base v l) (hg : Blk w g t cs) (ht : 87 ≠ t) : zaY (w.setCell ⟨g, j, none⟩ u) base v l := ownsRow_setCell_other h (a := ⟨g, j, none⟩) (zaq h hg ht) u
theorem zbr.step {w : World} {base B k n g c : Nat} {u : Value} {l : List zam} {x : zam} (h : zbr w base B k (.slice (some ⟨g, 0, none⟩) n c) l) (hB : B <= base) (hx : l[k]? = some x) (hn : l.length = n) (ho : zat w base u x.args) :
  zbr (w.setCell ⟨g, k * 12 + 9, none⟩ u) base B (k + 1) (.slice (some ⟨g, 0, none⟩) n c) l := by
 obtain ⟨css, h1, h2, h3⟩ := h;have hk : k < l.length := (List.getElem?_eq_some_iff.1 hx).1;subst hn
 have hg : base <= g := by
  obtain ⟨g', cap, e, hb, _⟩ := zbn h2 (by omega);injection e with e;injection e with e;injection e with e
  omega
 obtain ⟨cs, hbk⟩ := zci h2 rfl
 have hl12 := zc5 (P := fun _ _ _ => True) h1 fun i y hy => (h3 i y hy).imp fun a b => ⟨b.1, trivial⟩
 obtain ⟨av, q1, _, _⟩ := h3 k x hx;have hset := zf9 (u := u) h2 (j := k * 12 + 9) (by omega);rw [zev css k x av u hl12 q1] at hset;refine ⟨css.set k (zae x u), by rw [List.length_set]; exact h1, hset, fun i y hy => ?_⟩
 by_cases hik : i = k
 ·subst hik;rw [hx] at hy;injection hy with hy;subst hy;refine ⟨u, by rw [List.getElem?_set_self (by omega)], fun _ => zat.far ho hbk (by decide), fun h => absurd h (by omega)⟩
 ·obtain ⟨av', r1, r2, r3⟩ := h3 i y hy;refine ⟨av', by rw [List.getElem?_set_ne (Ne.symm hik)]; exact r1, fun h => ?_, fun h => ?_⟩
  ·have h4 := r2 (by omega);exact zat.far h4 hbk (by decide)
  ·obtain ⟨A, n, c', a1, a2, a3, a4, a5⟩ := r3 (by omega);exact ⟨A, n, c', a1, a2, a3, a4, a5.setCell (by simp only; omega) _⟩
theorem zat.base {w : World} {base base' : Nat} {v : Value} {l : List Int} (h : zat w base v l) (hb : base' <= base) : zat w base' v l := zbD h hb
theorem za4.base {w : World} {base base' : Nat} {v : Value} {l : List zam} (h : za4 w base v l) (hb : base' <= base) : za4 w base' v l := by
 obtain ⟨css, h1, h2, h3⟩ := h;refine ⟨css, h1, zbD h2 hb, fun k x hx => ?_⟩;obtain ⟨av, q1, q2⟩ := h3 k x hx;exact ⟨av, q1, zbD q2 hb⟩
theorem zbp.base {w : World} {base base' : Nat} {cs : List Value} {g : zad} (h : zbp w base cs g) (hb : base' <= base) : zbp w base' cs g := by
 obtain ⟨pv, kv, iv, nv, h1, h2, h3, h4, h5⟩ := h;exact ⟨pv, kv, iv, nv, h1, zbD h2 hb, zbD h3 hb, zbD h4 hb, h5.base hb⟩
theorem zeQ (A : Option Addr) (n c : Nat) (xs : List Value) (w : World) (B : Nat) (hr : zal w B 1 A n xs) (hone : ∀ u ∈ xs, u.oneCell' = true) (hnc : n <= c) (hc : c <= maxLen) (hB : B <= w.heap.size) (hs : n * 8 <= 140737488351232) :
  Calls Tryd.prog 59 #[.slice A n c] w fun e w' => Below w.heap.size w w' /\ ∃ V x, e = .returned (.slice V n x) /\ w'.ownsRow w.heap.size 3 1 (.slice V n x) n xs := by
 obtain ⟨i0, hi0, hz0, hz1, hz2⟩ := info_parts zdQ;unfold maxLen at hc
 rcases A with _ | ad
 ·have hn : n = 0 := by
   rcases Nat.eq_zero_or_pos n with h0 | h0
   ·exact h0
   ·obtain ⟨ad, h, _⟩ := hr.2 h0; cases h
  subst hn;have hx : xs = [] := List.eq_nil_of_length_eq_zero (by simpa using hr.1);subst hx;clear hr hone
  have hq := fun W : World => (Lib.run_eql_slice_nil (P := Tryd.prog) W 40 _ none 0 c 0 0 Tryd.underlying40)
  go_enter Tryd.func59, Tryd.ntmps59;go_wp2_with fail;go_ret;exact ⟨Below.refl _ _, _, _, rfl, World.ownsRow_nil _ _ _ _⟩
 ·have hE := zcR w 3 1;have hSrc := hr.alloc hB (.cells #[] 3);obtain ⟨Hr, HE, HSrc, Hone⟩ := hd4 hr hE hSrc hone;clear hone hSrc hE hr
  have hq := fun W : World => (Lib.run_eql_slice_nil (P := Tryd.prog) W 40 _ (some ad) n c 0 0 Tryd.underlying40)
  go_enter Tryd.func59, Tryd.ntmps59
  go_wp2_with (first
   | (at_builtin
      refine zau _ rfl (.tmp 5) (.tmp 6) _ rfl w.heap.size 3 i0 _ 1 8 Tryd.underlying40 hi0 hz0 hz1 hz2 rfl (by omega) (.slice (some ⟨w.heap.size, 0, none⟩) 0 0) 0 [] rfl HE.out B (some ad) n c xs rfl HSrc.out ?c1 ?c2 ?c3 ?c4 ?_
      case c1 => exact Hone.out
      case c2 => unfold maxLen; omega
      case c3 => omega
      case c4 => simp
      intro v5 w5 hown5 hg5 hat5))
  have hO5 := zdh (ys := xs) hown5 rfl;obtain ⟨V, x, rfl, _⟩ := zak hO5;have hb5 : Below w.heap.size w w5 := ((Below.refl _ _).alloc (Nat.le_refl _) _).grown hg5 (by simp) (fun k e => by injection e with e; simp only at e; omega);obtain ⟨Hown5, HO5, Hg5, Hat5, Hb5⟩ := hd5 hown5 hO5 hg5 hat5 hb5;clear hb5 hat5 hg5 hO5 hown5;go_ret;exact ⟨Hb5.out, V, x, rfl, HO5.out⟩
theorem zim (A : Option Addr) (n c : Nat) (xs : List Value) (w : World) (B : Nat) (hr : zal w B 1 A n xs) (hone : ∀ u ∈ xs, u.oneCell' = true) (hnc : n <= c) (hc : c <= maxLen) (hB : B <= w.heap.size) (hs : n * 1 <= 140737488351232) :
  Calls Tryd.prog 60 #[.slice A n c] w fun e w' => Below w.heap.size w w' /\ ∃ V x, e = .returned (.slice V n x) /\ w'.ownsRow w.heap.size 87 1 (.slice V n x) n xs := by
 obtain ⟨i0, hi0, hz0, hz1, hz2⟩ := info_parts zhr;unfold maxLen at hc
 rcases A with _ | ad
 ·have hn : n = 0 := by
   rcases Nat.eq_zero_or_pos n with h0 | h0
   ·exact h0
   ·obtain ⟨ad, h, _⟩ := hr.2 h0; cases h
  subst hn;have hx : xs = [] := List.eq_nil_of_length_eq_zero (by simpa using hr.1);subst hx;clear hr hone
  have hq := fun W : World => (Lib.run_eql_slice_nil (P := Tryd.prog) W 41 _ none 0 c 0 0 Tryd.underlying41)
  go_enter Tryd.func60, Tryd.ntmps60;go_wp2_with fail;go_ret;exact ⟨Below.refl _ _, _, _, rfl, World.ownsRow_nil _ _ _ _⟩
 ·have hE := zcR w 87 1;have hSrc := hr.alloc hB (.cells #[] 87);obtain ⟨Hr, HE, HSrc, Hone⟩ := hd4 hr hE hSrc hone;clear hone hSrc hE hr
  have hq := fun W : World => (Lib.run_eql_slice_nil (P := Tryd.prog) W 41 _ (some ad) n c 0 0 Tryd.underlying41)
  go_enter Tryd.func60, Tryd.ntmps60
  go_wp2_with (first
   | (at_builtin
      refine zau _ rfl (.tmp 5) (.tmp 6) _ rfl w.heap.size 87 i0 _ 1 1 Tryd.underlying41 hi0 hz0 hz1 hz2 rfl (by omega) (.slice (some ⟨w.heap.size, 0, none⟩) 0 0) 0 [] rfl HE.out B (some ad) n c xs rfl HSrc.out ?c1 ?c2 ?c3 ?c4 ?_
      case c1 => exact Hone.out
      case c2 => unfold maxLen; omega
      case c3 => omega
      case c4 => simp
      intro v5 w5 hown5 hg5 hat5))
  have hO5 := zdh (ys := xs) hown5 rfl;obtain ⟨V, x, rfl, _⟩ := zak hO5;have hb5 : Below w.heap.size w w5 := ((Below.refl _ _).alloc (Nat.le_refl _) _).grown hg5 (by simp) (fun k e => by injection e with e; simp only at e; omega);obtain ⟨Hown5, HO5, Hg5, Hat5, Hb5⟩ := hd5 hown5 hO5 hg5 hat5 hb5;clear hb5 hat5 hg5 hO5 hown5;go_ret;exact ⟨Hb5.out, V, x, rfl, HO5.out⟩
theorem zaE.slice {α : Type} {size : Nat} {R : World -> Nat -> List Value -> α -> Prop} {w : World} {B : Nat} {v : Value} {l : List α} (h : zaE size R w B v l) : ∃ A c, v = .slice A l.length c /\ l.length <= c /\ c <= maxLen := by
 obtain ⟨A, n, c, css, rfl, h2, h3, h4, _⟩ := h;exact ⟨A, c, by rw [h4], by omega, h3⟩
theorem zeK {w : World} {B c : Nat} {A : Option Addr} {ns : List zam} {N : Nat} (h : zaE 12 zbj w B (.slice A N c) ns) {x : Nat} (hx : x < ns.length) :
  ∃ ad, A = some ad /\ w.cell? (ad.add (x * 12)) = some (.int .u8 (nd ns x).op) /\ w.cell? ⟨(ad.add (x * 12)).block, (ad.add (x * 12)).off + 10, none⟩ = some (.int .i64 (nd ns x).next) := by
 obtain ⟨ad, cs, hA, _, _, _, hNode, n0, nj⟩ := zaE.at_ h (zl2 hx);obtain ⟨av, rfl, _⟩ := hNode;exact ⟨ad, hA, n0 _ rfl, nj 10 _ (by omega) rfl⟩
theorem zd5 {w : World} {B lp M : Nat} {ga : Addr} {g : zad} {pv kv iv nv ov tv : Value} (hL : Blk w lp 121 #[.pointer (some ga), .map (some M), ov, tv]) (hG : zdc w B ga g pv kv iv nv) (hB : B <= w.heap.size)
  (hh : Hop g.nodes) (hn : g.nodes.length <= 4096) (i : Nat) (hi : i < g.nodes.length) :
  Calls Tryd.prog 57 #[.pointer (some ⟨lp, 0, none⟩), .int .i64 i] w fun e w' => e = .returned (.int .i64 (zcU g.nodes i : Nat)) /\ Below w.heap.size w w' := by
 obtain ⟨r, hr⟩ := mn (zcU g.nodes i);rw [hr];obtain ⟨NA, nc, rfl, _, _⟩ := hG.nodes.slice;obtain ⟨ns, hns⟩ := mn (g.nodes);obtain ⟨N, hN⟩ := mn (ns.length);rw [hns] at hh hn hi hr;rw [hN] at hn hi
 have hle : ∀ {k : Nat}, zbX ns k i < N := fun {k} => by rw [<- hN]; exact zfG hh k (by rw [hN]; exact hi)
 have hLl := hL.lt;have hmm := @run_makeMap Tryd.prog;have hm0 := zcx.made w;have hb0 : Below w.heap.size w (w.alloc (.map #[] 0)) := (Below.refl _ _).alloc (Nat.le_refl _) _;have hGn := hG.nodes;rw [hns, hN] at hGn;obtain ⟨HL, HG, Hh, Hr, HN, Hm0, Hb0, Hns⟩ := hd8 hL hG hh hr hN hm0 hb0 hns;clear hns hb0 hm0 hN hr hh hG hL;go_enter Tryd.func57, Tryd.ntmps57
 try go_wp2_with fail
 go_step3
 go_wp2_with fail
 go_step3
 go_wp2_with fail
 go_loopg [1] N (fun gk iv wr => ∃ (k x : Nat) (f : Nat -> Option Nat), k + gk = N /\ iv = .int .i64 x /\ Hid (zbX ns k i = x) /\ Hid (zcx wr w.heap.size k f) /\ Hid (zbJ f N = k /\ ∀ v c, f v = some c -> c = 1 /\ ∃ a, a < k /\ v = zbX ns a i) /\ Hid (∀ b, b < k -> (nd ns (zbX ns b i)).op = 10) /\ Hid (Below w.heap.size w wr))
 case atStart => exact ⟨0, i, _, by omega, rfl, Lib.hid rfl, Hm0, Lib.hid ⟨zb2 N, nofun⟩, Lib.hid (fun b h => absurd h (by omega)), Hb0⟩
 case round =>
  obtain ⟨k, x, f, hk, rfl, hx, hM, hf, hall, hbq⟩ := hrel;have hLq := HL.out.below hbq.out hLl;have kl0 := bc hLq 0;have hGq := HG.out.below (hbq.out.mono hB);have g6 := hGq.c6;rw [Hns.out, HN.out] at g6
  have hxN : x < N := by rw [<- hx.out]; exact hle
  obtain ⟨nad, hNA, n0, n10⟩ := zeK (show zaE 12 zbj wr B (.slice NA N nc) ns by have := hGq.nodes; rwa [Hns.out, HN.out] at this) (x := x) (by rw [HN.out]; exact hxN);subst hNA;have hl := hM.out.look x (by omega)
  have hxI : (x : Int) < N := by omega
  obtain ⟨op, hxo⟩ := mn ((nd ns x).op);obtain ⟨nx, hnx⟩ := mn ((nd ns x).next);rw [hxo] at n0;rw [hnx] at n10
  by_cases h10 : op = 10
  ·subst h10;have hnb := Hh.out _ (zfw (by rw [HN.out]; exact hxN)) hxo;rw [hnx, HN.out] at hnb;obtain ⟨y, rfl⟩ := Int.eq_ofNat_of_zero_le hnb.1
   have hy : hop ns x = y := by rw [zkD hxo, hnx, Int.toNat_natCast]
   have hsx : zbX ns (k + 1) i = y := by rw [zht, hx.out, hy]
   have hyN : y < N := by omega
   rcases hfx : f x with _ | c
   ·have hkN : k < N := by have := zgk hfx hxN; rw [hf.out.1] at this; exact this
    have hcard : zbJ (upd f x 1) N = k + 1 := by rw [zcc hfx hxN, hf.out.1]
    have hnew : ∀ v c, upd f x 1 v = some c -> c = 1 /\ ∃ a, a < k + 1 /\ v = zbX ns a i := by
     intro v c hv
     by_cases hvx : v = x
     ·subst hvx;rw [zcY] at hv;injection hv with hv;exact ⟨hv.symm, k, by omega, hx.out.symm⟩
     ·rw [upd_ne hvx] at hv;obtain ⟨h1, a, h2, h3⟩ := hf.out.2 v c hv;exact ⟨h1, a, by omega, h3⟩
    have hall2 : ∀ b, b < k + 1 -> (nd ns (zbX ns b i)).op = 10 := fun b hb => by
     by_cases hbk : b = k
     ·rw [hbk, hx.out]; exact hxo
     ·exact hall.out b (by omega)
    rw [hfx] at hl;simp only [Option.getD_none, Int.ofNat_eq_natCast, Int.natCast_zero] at hl
    have hgk : 0 < gk := by omega
    have hlz : wr.heap.size >= w.heap.size := hbq.out.size;obtain ⟨HLq, HGq, Hxo, Hnx, Hnb, Hy, Hsx, Hfx⟩ := hd8 hLq hGq hxo hnx hnb hy hsx hfx;obtain ⟨Hcard, Hnew, Hall2, Hk, HLOOK⟩ := hd5 hcard hnew hall2 hk hl;clear hl hk hall2 hnew hcard hfx hsx hy hnb hnx hxo hGq hLq;have hl : (Instr.lookup 64 (.map (some w.heap.size)) (.int .i64 x) false).run Tryd.prog wr = .ok (.int .i64 0) wr := HLOOK.out
    go_wp2_with (first
     | (at_mapUpdate
        refine ziS _ rfl _ _ _ rfl w.heap.size k f rfl hM.out (by unfold maxLen; omega) x 1 (by omega) (by omega) rfl rfl ?_;intro w1 hM1 hg1;have hb1 : Below w.heap.size w w1 := hbq.out.grown hg1 hlz (fun g e => by injection e with e; omega);have hL1 := HL.out.below hb1 hLl;have q0 := Blk.cell hL1 0;simp only [List.getElem?_toArray, List.getElem?_cons_zero, List.getElem?_cons_succ] at q0;have hG1 := HG.out.below (hb1.mono hB);have q6 := hG1.c6;rw [Hns.out, HN.out] at q6;obtain ⟨nad', hNA', q7, q10⟩ := zeK (show zaE 12 zbj w1 B (.slice (some nad) N nc) ns by have := hG1.nodes; rwa [Hns.out, HN.out] at this) (x := x) (by rw [HN.out]; exact hxN);injection hNA' with hNA';subst hNA';rw [Hxo.out] at q7;rw [Hnx.out] at q10;have HM1 := Lib.hid hM1;have Hb1 := Lib.hid hb1
        clear hM1 hg1 hb1 hL1 hG1))
    go_roundg (gk - 1)
    case measure => omega
    case rel => exact ⟨k + 1, y, upd f x 1, by have := Hk.out; omega, rfl, Lib.hid Hsx.out, HM1, Lib.hid ⟨Hcard.out, Hnew.out⟩, Lib.hid Hall2.out, Hb1⟩
   ·obtain ⟨rfl, a, hak, hxa⟩ := hf.out.2 x c hfx;rw [hfx] at hl;have hl : (Instr.lookup 64 (.map (some w.heap.size)) (.int .i64 x) false).run Tryd.prog wr = .ok (.int .i64 1) wr := hl
    have hp : zbX ns (k - a) x = x := by
     have h1 := zbP (ns := ns) a (k - a) i;rw [show a + (k - a) = k by omega, hx.out, <- hxa] at h1;exact h1.symm
    have h1y : zbX ns 1 x = y := hy;obtain ⟨HLq, HGq, Hxo, Hnx, Hnb, Hy, Hsx, Hfx⟩ := hd8 hLq hGq hxo hnx hnb hy hsx hfx;obtain ⟨Hk, Hp, H1y, Hxa, Hak⟩ := hd5 hk hp h1y hxa hak;clear hak hxa h1y hp hk hfx hsx hy hnb hnx hxo hGq hLq;go_wp2_with fail
    go_loopg [6, 7] (k - a - 1) (fun gk2 lv jv wr2 => ∃ m l z : Nat, wr2 = wr /\ Hid (1 <= m) /\ Hid (m + gk2 = k - a) /\ lv = .int .i64 l /\ jv = .int .i64 z /\ Hid (l = zhi ns x m) /\ Hid (z = zbX ns m x))
    case atStart => exact ⟨1, x, y, rfl, Lib.hid (by omega), Lib.hid (by have := Hak.out; omega), rfl, rfl, Lib.hid (by simp [zhi, zbX]), Lib.hid H1y.out.symm⟩
    case round =>
     obtain ⟨m, l, z, rfl, hm1, hmk, rfl, rfl, hlm, hzm⟩ := hrel
     by_cases hzx : z = x
     ·subst hzx
      have hfin : r = l := by
       rw [<- Hr.out, zjT (k := k) (p := m) hm1.out (by rw [HN.out]; have := Hk.out; omega) (by rw [HN.out]; have := Hk.out; have := hmk.out; omega) (by rw [hx.out]; exact Hxo.out) (by rw [hx.out]; exact hzm.out.symm), hx.out, hlm.out]
      have Hfin := Lib.hid hfin;clear hfin;go_wp2_with fail
      try rw [Exit.noGoto_ret]
      go_ret;rw [Hfin.out];exact ⟨rfl, hbq.out⟩
     ·have hz2 : (z == x) = false := by simp [hzx]
      have hmlt : m < k - a := by
       rcases Nat.lt_or_ge m (k - a) with h | h
       ·exact h
       ·exfalso
        have : m = k - a := by have := hmk.out; omega
        apply hzx
        rw [hzm.out, this];exact Hp.out
      have hzi : z = zbX ns (a + m) i := by rw [zbP, <- Hxa.out]; exact hzm.out
      have hzN : z < N := by rw [hzi]; exact hle
      have hzo : (nd ns z).op = 10 := by rw [hzi]; exact hall.out (a + m) (by omega)
      have hzb := Hh.out _ (zfw (by rw [HN.out]; exact hzN)) hzo;rw [HN.out] at hzb;obtain ⟨nad', hNA', p0, p10⟩ := zeK (show zaE 12 zbj wr B (.slice (some nad) N nc) ns by have := HGq.out.nodes; rwa [Hns.out, HN.out] at this) (x := z) (by rw [HN.out]; exact hzN);injection hNA' with hNA';subst hNA';obtain ⟨nz, hnz⟩ := mn ((nd ns z).next);rw [hzo] at p0;rw [hnz] at hzb p10;obtain ⟨t, rfl⟩ := Int.eq_ofNat_of_zero_le hzb.1
      have ht : t = zbX ns (m + 1) x := by rw [zht, <- hzm.out, zkD hzo, hnz, Int.toNat_natCast]
      have hzI : (z : Int) < N := by omega
      have hmn : min l z = zhi ns x (m + 1) := by rw [hlm.out, hzm.out]; rfl
      have hgk : 0 < gk := by have := hmk.out; omega
      obtain ⟨Hzi, Hzo, Hzb, Hnz, Ht, Hmn, Hmlt⟩ := hd7 hzi hzo hzb hnz ht hmn hmlt;clear hmlt hmn ht hnz hzb hzo hzi;go_wp2_with fail
      all_goals
       obtain ⟨u, hu⟩ := nm (min l z)
       have hu' : (u : Int) = min (l : Int) z := by omega
       go_roundg (gk - 1)
       case measure => omega
       case rel => exact ⟨m + 1, u, t, rfl, Lib.hid (by omega), Lib.hid (by have := hmk.out; omega), by congr 1; omega, rfl, Lib.hid (hu.trans Hmn.out), Lib.hid Ht.out⟩
  ·have hqo : (op == 10) = false := by simp [h10]
   have hfin : r = x := by rw [<- Hr.out, zjS (k := k) (by rw [HN.out]; omega) (by rw [hx.out, hxo]; exact h10), hx.out]
   obtain ⟨HLq, HGq, Hl, Hxo, Hnx, Hfin⟩ := hd6 hLq hGq hl hxo hnx hfin;clear hfin hnx hxo hl hGq hLq;go_wp2_with fail
   try rw [Exit.noGoto_ret]
   go_ret;rw [Hfin.out];exact ⟨rfl, hbq.out⟩
def zeD (w : World) (base : Nat) (e : TypeId) (v : Value) (xs : List Value) : Prop :=
 ∃ (dead : List Value) (g k n c C : Nat), v = .slice (some ⟨g, k, none⟩) n c /\ w.ownsRow base e 1 (.slice (some ⟨g, 0, none⟩) (k + n) C) (k + n) (dead ++ xs) /\ dead.length = k /\ xs.length = n /\ n <= c /\ k + c <= C
section
variable {w w' : World} {base : Nat} {e : TypeId} {v : Value} {xs : List Value}
theorem zeD.of_own {g n c : Nat} (h : w.ownsRow base e 1 (.slice (some ⟨g, 0, none⟩) n c) n xs) : zeD w base e (.slice (some ⟨g, 0, none⟩) n c) xs := by
 have hl := h.1
 have hc : n <= c := by
  rcases h.2 with ⟨h0, _⟩ | ⟨g', cap, cur, hv, _, _, h1, _⟩
  ·cases h0
  ·injection hv with _ _ hv; omega
 exact ⟨[], g, 0, n, c, c, rfl, by simpa using h, rfl, by simpa using hl, hc, by omega⟩
theorem zeD.form (h : zeD w base e v xs) : ∃ A c, v = .slice A xs.length c /\ xs.length <= c /\ c <= maxLen /\ zal w w.heap.size 1 A xs.length xs := by
 obtain ⟨dead, g, k, n, c, C, rfl, h, hd, hx, hc, hC⟩ := h;subst hx;have hR := zal.of_own h
 have hm : C <= maxLen := by
  rcases h.2 with ⟨h0, _⟩ | ⟨g', cap, cur, hv, _, _, _, h1, _⟩
  ·cases h0
  ·injection hv with _ _ hv; omega
 refine ⟨_, c, rfl, hc, by omega, ⟨by omega, fun hn => ?_⟩⟩;obtain ⟨ad, hA, hb, hcell⟩ := hR.2 (by omega);injection hA with hA;subst hA;refine ⟨_, rfl, hb, fun j u hu => ?_⟩;have := hcell (k + j) u (by rw [List.getElem?_append_right (by omega), hd, Nat.add_sub_cancel_left]; exact hu);rw [Addr.add_lit, Nat.zero_add] at this;rw [Addr.add_lit];exact this
theorem zeD.block (h : zeD w base e v xs) : ∃ g, v.ownBlock = some g /\ base <= g /\ g < w.heap.size := by
 obtain ⟨dead, g, k, n, c, C, rfl, h, _⟩ := h;exact ⟨g, rfl, h.lt g rfl⟩
theorem zeD.kept {row : Option Nat} (h : zeD w base e v xs) (hg : w.grownBy w' row) (hne : v.ownBlock ≠ row) : zeD w' base e v xs := by
 obtain ⟨dead, g, k, n, c, C, rfl, h, h1⟩ := h;exact ⟨dead, g, k, n, c, C, rfl, h.kept hg (.inr hne), h1⟩
theorem zeD.alloc (h : zeD w base e v xs) (o : Obj) : zeD (w.alloc o) base e v xs := by
 obtain ⟨g, hg, _⟩ := h.block;exact h.kept (World.grownBy_alloc w o none) (by rw [hg]; nofun)
theorem zeD.rest {x : Value} {A : Option Addr} {n c : Nat} (h : zeD w base e (.slice A n c) (x :: xs)) : zeD w base e (.slice (if c = 1 then A else A.map (·.add 1)) (n - 1) (c - 1)) xs := by
 obtain ⟨dead, g, k, n', c', C, hv, h, hd, hx, hc, hC⟩ := h;injection hv with h1 h2 h3;subst h1 h2 h3;simp only [List.length_cons] at hx
 by_cases hc1 : c = 1
 ·rw [if_pos hc1]
  have hn : n = 1 := by omega
  have hxs : xs = [] := List.eq_nil_of_length_eq_zero (by omega);subst hxs hn
  -- the row as it was cut at the front: its last one is dead
  refine ⟨dead, g, k, 0, 0, C, by rw [hc1], ?_, hd, rfl, Nat.le_refl _, by omega⟩
  rcases h.2 with ⟨h0, _⟩ | ⟨g', cap, cur, hv, hb, hh, k1, k2, k3, k4⟩
  ·cases h0
  ·injection hv with hv1 _ hv3;injection hv1 with hv1;injection hv1 with hv1;subst hv1 hv3;refine ⟨by simp [hd], .inr ⟨g, C, cur, rfl, hb, hh, by omega, k2, k3, ?_⟩⟩;have := congrArg (List.take k) k4;rw [List.take_take, List.take_left' hd] at this;rw [List.append_nil, <- this]
   congr 1
   omega
 ·rw [if_neg hc1];refine ⟨dead ++ [x], g, k + 1, n - 1, c - 1, C, ?_, ?_, by simp [hd], by omega, by omega, by omega⟩
  ·simp [Addr.add]
  ·rw [List.append_assoc, List.singleton_append, show k + 1 + (n - 1) = k + n by omega]; exact h
end
section
variable {P : Program} (w : World)
theorem zfs (base : Nat) (t ty e : TypeId) (i : TypeInfo) (z : Value) (bytes : Nat) (ht : P.underlying t = some (.slice e)) (hi : P.info? e = some i) (hz : i.zero = some z)
  (hsize : i.size = 1) (hby : i.bytes = bytes) (hzs : z.cells.size = 1) (v : Value) (xs : List Value) (hown : zeD w base e v xs)
  (a : Addr) (c0 : Nat) (u : Value) (hu : w.cell? a = some u) (h1 : u.oneCell' = true) (h63 : xs.length + 1 <= maxLen) (hbytes : (xs.length + 1) * bytes <= 140737488355328) (hbase : base <= w.heap.size) :
  ∃ v' w', (Builtin.append_ #[t, t] ty #[v, .slice (some a) 1 c0]).run P w = .ok v' w' /\ zeD w' base e v' (xs ++ [u]) /\ w.grownBy w' v.ownBlock /\ (v'.ownBlock = v.ownBlock ∨ v'.ownBlock = some w.heap.size) := by
 obtain ⟨dead, g, k, n, c, C, rfl, h, hd, hx, hc, hC⟩ := hown;subst hby
 have hnews : ∀ j v, [u][j]? = some v -> w.cell? (a.add j) = some v := fun j v hv => by
  match j, hv with
  | 0, hv => simp at hv; subst hv; simpa [Addr.add] using hu
 by_cases hroom : n + 1 <= c
 ·rcases h.2 with ⟨h0, _⟩ | ⟨g', cap, cur, hv, hb, hh, k1, k2, k3, k4⟩
  ·cases h0
  ·injection hv with hv1 _ hv3;injection hv1 with hv1;injection hv1 with hv1;subst hv1 hv3;have hf := run_firstCells_some (P := P) w i.size 1 a 1 c0 [u] (by simp [hsize]) hnews;have hst := run_storeCells_at P g (k + n) e [u] 0 cur w hh (by simp [k3]; omega) (by simpa using h1);simp only [Nat.add_zero] at hst;rw [hsize] at hf;refine ⟨.slice (some ⟨g, k, none⟩) (n + 1) c, w.setRow g (cur.toList.take (k + n) ++ [u] ++ cur.toList.drop (k + n + 1)).toArray, ?_, ⟨dead, g, k, n + 1, c, C, rfl, ⟨by simp only [List.length_append, List.length_singleton, hd, hx]; omega, .inr ⟨g, C, _, rfl, hb, setRow_heap w g cur (cur.toList.take (k + n) ++ [u] ++ cur.toList.drop (k + n + 1)).toArray e _ hh, by omega, k2, ?_, ?_⟩⟩, hd, by simp [hx], hroom, hC⟩, ⟨rfl, rfl, rfl, by simp, fun j _ hj => setRow_other w g j (cur.toList.take (k + n) ++ [u] ++ cur.toList.drop (k + n + 1)).toArray (fun e => hj (by simp [Value.ownBlock, e]))⟩, .inl rfl⟩
   ·simp [Builtin.append_, run_underlying ht, sizeOf, typeInfo, hi, Builtin.lenOf, hroom, hf, Addr.add_lit, hsize]
    have hst' : (storeCells ⟨g, k + n, none⟩ [u]).run P w = .ok () (w.setRow g (List.take (k + n) cur.toList ++ u :: List.drop (k + n + 1) cur.toList).toArray) := by simpa using hst
    rw [hst']
    rfl
   ·simp only [List.size_toArray, List.length_append, List.length_take, List.length_drop, Array.length_toList, k3, List.length_singleton]
    omega
   ·rw [Nat.mul_one] at k4 ⊢;rw [List.toList_toArray, k4, show k + (n + 1) = (dead ++ xs ++ [u]).length by simp only [List.length_append, List.length_singleton, hd, hx]; omega, List.append_assoc dead xs [u]] ;exact List.take_left
 ·have holds : ∀ j v, xs[j]? = some v -> w.cell? ((⟨g, k, none⟩ : Addr).add j) = some v := fun j v hv => by
   obtain ⟨A, c', e', _, _, hR⟩ := zeD.form ⟨dead, g, k, n, c, C, rfl, h, hd, hx, hc, hC⟩;injection e' with e1 e2 e3;obtain ⟨ad, hA, _, hcell⟩ := hR.2 (by have := (List.getElem?_eq_some_iff.1 hv).1; omega);rw [<- e1] at hA;injection hA with hA;subst hA;exact hcell j v hv
  subst hx;have hr := run_append_grow (P := P) w t ty e i z ht hi hz ⟨g, k, none⟩ xs.length c xs (by simp [hsize]) holds a 1 c0 [u] (by simp [hsize]) hnews (by omega) (by simp only [maxLen] at h63; omega) (growslice_fits (by omega) hbytes);have hge := grownCap_ge w (xs.length + 1) c e;have hcm : grownCap w (xs.length + 1) c e <= maxLen := grownCap_le_maxLen w (xs.length + 1) c e h63;refine ⟨_, _, hr, zeD.of_own ⟨by simp, .inr ⟨w.heap.size, _, _, rfl, hbase, heap_alloc_new w.drew _, hge, hcm, ?_, ?_⟩⟩, ⟨rfl, rfl, rfl, by simp, fun j hj _ => by first | exact heap_alloc_old w.drew _ j hj | exact heap_alloc_old w.drew _ hj⟩, .inr rfl⟩
  ·simp only [Array.size_append, List.size_toArray, size_zeroCells, hzs, List.length_singleton]
   omega
  ·simp only [Array.toList_append, List.append_assoc, Nat.mul_one];rw [<- List.append_assoc, show xs.length + 1 = (xs ++ [u]).length by simp];exact List.take_left
theorem ze6 {ops : Array Oper} {o : Oper} {a : Act} {K : Act -> World -> Prop} {Q : Exit -> Act -> World -> Prop} {E : Prop} (hgd : o.guard = none) (s x : Operand) (t : TypeId)
  (ho : o.op = .call { callee := .builtin .append, args := #[s, x], argTypes := #[t, t] })
  (base : Nat) (e : TypeId) (i : TypeInfo) (z : Value) (bytes : Nat) (ht : P.underlying t = some (.slice e)) (hi : P.info? e = some i) (hz : i.zero = some z)
  (hsize : i.size = 1) (hby : i.bytes = bytes) (hzs : z.cells.size = 1) (v : Value) (xs : List Value) (hs : a.eval s = v) (hown : zeD w base e v xs)
  (ad : Addr) (c0 : Nat) (u : Value) (hx : a.eval x = .slice (some ad) 1 c0) (hu : w.cell? ad = some u) (h1 : u.oneCell' = true) (h63 : xs.length + 1 <= maxLen) (hbytes : (xs.length + 1) * bytes <= 140737488355328) (hbase : base <= w.heap.size)
  (h : ∀ v' w', zeD w' base e v' (xs ++ [u]) -> w.grownBy w' v.ownBlock -> (v'.ownBlock = v.ownBlock ∨ v'.ownBlock = some w.heap.size) -> K (a.put o.dst v') w') :
  if Region.wanted o (yielded ops a.tmps) = true then Oper.wp P o a w K Q else E := by
 obtain ⟨v', w', hrun, h2, h3, h4⟩ := zfs (P := P) w base t o.type e i z bytes ht hi hz hsize hby hzs v xs hown ad c0 u hu h1 h63 hbytes hbase;rw [if_pos (by simp [Region.wanted, hgd])];unfold Oper.wp execOp;simp only [ho, resolve, invoke, builtin, Sem.run_bind, Sem.run_pure, Result.andThen_ok, List.map_toArray, List.map_cons, List.map_nil, hs, hx, hrun];exact h v' w' h2 h3 h4
end
end Go.Proofs.YtnfjjliiajaijaaDoor
