/- Walk of the document's question whether graphs are right. Conditions: the graphs lie in memory. What is answered ahead of the laws of nodes in a line. No condition. What a law's walk is told of an argument that came in: a slice of integers reads as a list, within the form's reach. No condition. -/
import Derived.Test.YtncpehhfjkncoaaPlAA
import Derived.Test.YtncpehhfjkncoaaPlBO
import Derived.Test.YtncpehhfjkncoaaPlBL
import Derived.Test.YtncpehhfjkncoaaRows
import Derived.Test.YtncpehhfjkncoaaPlAC
import Derived.ProofKit
import Derived.OpenShut
import Derived.SizedLaws
set_option linter.unusedVariables false
set_option linter.unusedSimpArgs false
set_option maxRecDepth 100000
set_option maxHeartbeats 16000000
namespace Go.Proofs.Ytncpehhfjkncoaa
open Go.RowKit

/-- within bounds -/
structure GsLe (gs : List GraphD) : Prop where
 kinds : ∀ g ∈ gs, g.kinds.length <= 140737488351232
 args : ∀ g ∈ gs, ∀ x ∈ g.nodes, x.args.length <= 140737488351232
theorem right_any {w : World} {B : Nat} {allv : Value} {gs : List GraphD} (h : GraphsAt w B allv gs) (hB : B <= w.heap.size) (hok : GraphsOk gs) (bound : Bool) :
  Calls Try.prog 10 #[.agg #[allv], .bool bound] w fun e w' => e = .returned (.bool (checkB gs bound)) /\ Below w.heap.size w w' := by
 obtain ⟨r, hr⟩ := mn (checkB gs bound);rw [hr];unfold checkB at hr;obtain ⟨G, hG⟩ := nm (w.heap.size);have hP := Blk.new w 24 #[allv];have hb := (Below.refl w.heap.size w).alloc (Nat.le_refl _) (.cells #[allv] 24);have hA := h.below ((Below.refl B w).alloc hB (.cells #[allv] 24));obtain ⟨V, hV⟩ := nm (w.alloc (.cells #[allv] 24));rw [<- hV] at hb hA hP;rw [<- hG] at hP
 have hGV : G < V.heap.size := by rw [hV, World.size_alloc, hG]; omega
 have hBV : B <= V.heap.size := by rw [hV, World.size_alloc]; omega
 obtain ⟨GA, gc, rfl, _, _⟩ := hA.slice;obtain ⟨Z, hZ⟩ := mn (gs.length);rw [hZ] at hr hP hV ⊢;rw [hZ] at hA;have kp0 := bc hP 0
 by_cases hZ0 : Z = 0
 ·have hs : r = false := by rw [<- hr, List.getElem?_eq_none (by omega)]; rfl
  have hz : (Z : Int) < 1 := by omega
  obtain ⟨HA, Hb, HP, Hr, HZ, Hs, H, Hok⟩ := hd8 hA hb hP hr hZ hs h hok;obtain ⟨HG, HV, HZ0⟩ := hd3 hG hV hZ0;clear hZ0 hV hG hok h hs hZ hr hP hb hA;go_enter Try.func10, Try.ntmps10;go_upto_region 1 with fail;rw [<- HV.out, <- HG.out];go_wp2_with fail;go_ret;rw [Hs.out];exact ⟨rfl, Hb.out⟩
 have hz : ¬ (Z : Int) < 1 := by omega
 obtain ⟨g0, hg0⟩ : ∃ g0, gs[0]? = some g0 := ⟨_, List.getElem?_eq_getElem (by omega)⟩
 rw [hg0] at hr;simp only at hr
 by_cases hZ16 : Z <= 16
 case neg =>
  have hs : r = false := by rw [<- hr]; simp [hZ16]
  have hz2 : (16 : Int) < Z := by omega
  obtain ⟨HA, Hb, HP, Hr, HZ, Hs, H, Hok⟩ := hd8 hA hb hP hr hZ hs h hok;obtain ⟨HG, HV, HZ0⟩ := hd3 hG hV hZ0;clear hZ0 hV hG hok h hs hZ hr hP hb hA;clear hZ16;go_enter Try.func10, Try.ntmps10;go_upto_region 1 with fail;rw [<- HV.out, <- HG.out];go_wp2_with fail;go_ret;rw [Hs.out];exact ⟨rfl, Hb.out⟩
 have hz2 : ¬ (16 : Int) < Z := by omega
 have hz3 : (0 : Int) < Z := by omega
 have hz4 : 0 < Z := by omega
 obtain ⟨ad, pv0, kv0, iv0, nv0, hGA, _, hM0⟩ := hA.at_ hg0;subst hGA;obtain ⟨PA0, pc0, hpv0, _, _, _⟩ := hM0.params.slice;subst hpv0;have m0 := hM0.c0;have m4 := hM0.c4
 have ead : ad.add (0 * 8) = ad := by rw [Nat.zero_mul]; first | rfl | simp [Addr.add]
 rw [ead] at m0 m4;obtain ⟨P0, hP0⟩ := mn (g0.params.length);obtain ⟨b0, hb0⟩ := mn (g0.result);rw [hP0] at m0 hr;rw [hb0] at m4 hr;have hZd : decide (Z <= 16) = true := decide_eq_true hZ16;rw [hZd, Bool.true_and] at hr
 by_cases hp0 : P0 = 0
 case neg =>
  have hs : r = false := by rw [<- hr]; simp [hp0]
  have hz5 : ((P0 : Int) != 0) = true := by simp; omega
  obtain ⟨HA, Hb, HP, Hr, HZ, Hs, H, Hok⟩ := hd8 hA hb hP hr hZ hs h hok;obtain ⟨HG, HV, HZ0, HM0, Hg0, HZd, HP0, Hb0⟩ := hd8 hG hV hZ0 hM0 hg0 hZd hP0 hb0;clear hb0 hP0 hZd hg0 hM0 hZ0 hV hG hok h hs hZ hr hP hb hA;clear hZ16 hp0;go_enter Try.func10, Try.ntmps10;go_upto_region 1 with fail;rw [<- HV.out, <- HG.out];go_wp2_with fail;go_ret;rw [Hs.out];exact ⟨rfl, Hb.out⟩
 have hz5 : ((P0 : Int) != 0) = false := by simp; omega
 have hPd : decide (P0 = 0) = true := decide_eq_true hp0;rw [hPd, Bool.true_and] at hr
 cases b0
 case true =>
  have hs : r = false := by rw [<- hr]; rfl
  obtain ⟨HA, Hb, HP, Hr, HZ, Hs, H, Hok⟩ := hd8 hA hb hP hr hZ hs h hok;obtain ⟨HG, HV, HZ0, HM0, Hg0, HZd, HP0, Hb0⟩ := hd8 hG hV hZ0 hM0 hg0 hZd hP0 hb0;have HPd := Lib.hid hPd;clear hPd hb0 hP0 hZd hg0 hM0 hZ0 hV hG hok h hs hZ hr hP hb hA;clear hZ16 hp0;go_enter Try.func10, Try.ntmps10;go_upto_region 1 with fail;rw [<- HV.out, <- HG.out];go_wp2_with fail;go_ret;rw [Hs.out];exact ⟨rfl, Hb.out⟩
 case false =>
  rw [Bool.not_false, Bool.true_and] at hr;obtain ⟨HA, Hb, HP, Hr, HZ, H, Hok, HG⟩ := hd8 hA hb hP hr hZ h hok hG;obtain ⟨HV, HZ0, HM0, Hg0, HZd, HP0, Hb0, HPd⟩ := hd8 hV hZ0 hM0 hg0 hZd hP0 hb0 hPd;clear hPd hb0 hP0 hZd hg0 hM0 hZ0 hV hG hok h hZ hr hP hb hA;clear hp0;go_enter Try.func10, Try.ntmps10;go_upto_region 1 with fail;rw [<- HV.out, <- HG.out];go_wp2_with fail;clear kp0 m0 m4
  go_loopw [40] (fun i wq => ∃ j : Nat, j <= Z /\ i = .int .i64 j /\ Below V.heap.size V wq /\ Hid (∀ g ∈ gs.take j, headB g bound = true)) (fun i _ => Z - (intOf i).toNat)
  case atStart => exact ⟨0, by omega, rfl, Below.refl _ _, (show ∀ g ∈ gs.take 0, headB g bound = true by simp)⟩
  case round =>
   obtain ⟨j, hj, rfl, hbq, hall⟩ := hrel;have hsq := hbq.size;have hAq := HA.out.below (hbq.mono hBV);have hPq := HP.out.below hbq hGV;have hbnd := Hb.out.trans (hbq.mono Hb.out.size);have kp0 := bc hPq 0
   by_cases hjZ : j < Z
   ·obtain ⟨g, hgj⟩ : ∃ g, gs[j]? = some g := ⟨_, List.getElem?_eq_getElem (by rw [HZ.out]; exact hjZ)⟩
    obtain ⟨ad', pv, kv, iv, nv, hadd, _, hM⟩ := hAq.at_ hgj;injection hadd with hadd;subst hadd;have hgm := List.mem_of_getElem? hgj
    have hjI : (j : Int) < Z := by omega
    obtain ⟨PA, pn, pc, KA, kn, kc, IA, il, ic, NA, nn, nc, rfl, rfl, rfl, rfl, hpn, hkn, hil, hnn⟩ := hM.forms;have m0 := hM.c0;have m1 := hM.c1;have m2 := hM.c2;have m3 := hM.c3;have m4 := hM.c4;have m5 := hM.c5;have m6 := hM.c6;have m7 := hM.c7;have hal := (Below.refl wr.heap.size wr).alloc (Nat.le_refl _) (.cells #[.slice PA pn pc, .slice KA kn kc, .int .i64 g.cells, .slice IA il ic, .bool g.result, .int .i64 g.keep, .slice NA nn nc, .int .i64 g.entry] 48);have hT3 := Blk.new wr 48 #[.slice PA pn pc, .slice KA kn kc, .int .i64 g.cells, .slice IA il ic, .bool g.result, .int .i64 g.keep, .slice NA nn nc, .int .i64 g.entry];have hM3 := hM.below (hal.mono (by omega));obtain ⟨W3, hW3⟩ := nm (wr.alloc (.cells #[.slice PA pn pc, .slice KA kn kc, .int .i64 g.cells, .slice IA il ic, .bool g.result, .int .i64 g.keep, .slice NA nn nc, .int .i64 g.entry] 48));obtain ⟨T, hT⟩ := nm (wr.heap.size);rw [<- hW3] at hal hT3 hM3;rw [<- hT] at hT3;have kt0 := bc hT3 0;have kt1 := bc hT3 1;have kt2 := bc hT3 2;have kt3 := bc hT3 3;have kt4 := bc hT3 4;have kt5 := bc hT3 5;have kt6 := bc hT3 6;have kt7 := bc hT3 7;obtain ⟨bh, hbh⟩ := mn (headB g bound);have hhd := refhead_any W3 g _ _ _ _ B (Nat.le_trans hBV (Nat.le_trans hsq hal.size)) hM3.params hM3.kinds hM3.init hM3.nodes (Hok.out.kinds g hgm) bound;rw [hbh] at hhd
    have hstep : bh = true -> ∀ g' ∈ gs.take (j + 1), headB g' bound = true := fun e g' hg' => by
     rw [List.take_add_one, hgj] at hg'
     rcases List.mem_append.1 hg' with h1 | h1
     ·exact hall.out g' h1
     ·simp at h1; rw [h1, hbh, e]
    have hbad : bh = false -> r = false := fun e => by
     rw [<- Hr.out]
     rcases hq : gs.all (fun g => headB g bound) with _ | _
     ·rfl
     ·rw [List.all_eq_true.1 hq g hgm] at hbh; rw [e] at hbh; cases hbh
    have hbqa := hbq.trans (hal.mono hsq);have hbna := hbnd.trans (hal.mono hbnd.size);obtain ⟨Hbq, Hall, HAq, HPq, Hbnd, Hgj, HM, Hgm⟩ := hd8 hbq hall hAq hPq hbnd hgj hM hgm;obtain ⟨Hal, HT3, HM3, Hbh, Hhd, Hstep, Hbad, HW3⟩ := hd8 hal hT3 hM3 hbh hhd hstep hbad hW3;obtain ⟨HTT, Hpn, Hkn, Hil, Hnn, Hbqa, Hbna⟩ := hd7 hT hpn hkn hil hnn hbqa hbna;clear hbna hbqa hnn hil hkn hpn hT hW3 hbad hstep hhd hbh hM3 hT3 hal hgm hM hgj hbnd hPq hAq hall hbq;go_upto_region 6 with fail;rw [<- HW3.out, <- HTT.out];clear m0 m1 m2 m3 m4 m5 m6 m7 kp0;go_wp2_with fail;refine Hhd.out.mono ?_;rintro e w8 ⟨rfl, hb8⟩;have hbe := Hbqa.out.trans (hb8.mono Hbqa.out.size);have hbe2 := Hbna.out.trans (hb8.mono Hbna.out.size);clear hb8 kt0 kt1 kt2 kt3 kt4 kt5 kt6 kt7
    cases bh
    ·have hs := Hbad.out rfl;obtain ⟨Hs, Hbe, Hbe2⟩ := hd3 hs hbe hbe2;clear hbe2 hbe hs;go_wp2_with fail;go_ret;rw [Hs.out];exact ⟨rfl, Hbe2.out⟩
    ·have hs := Hstep.out rfl;obtain ⟨Hs, Hbe, Hbe2⟩ := hd3 hs hbe hbe2;clear hbe2 hbe hs;go_wp2_with fail;exact ⟨⟨j + 1, by omega, by go_num, Hbe.out, Lib.hid Hs.out⟩, by simp [intOf]; omega⟩
   ·have hheads : ∀ g ∈ gs, headB g bound = true := by
     rw [List.take_of_length_le (by rw [HZ.out]; omega)] at hall;exact hall.out
    have hr2 : (gs.all fun g => g.nodes.all (nodeB gs g bound)) = r := by
     have h1 := Hr.out;rw [List.all_eq_true.2 hheads, Bool.true_and] at h1;exact h1
    have hjI : ¬ (j : Int) < Z := by omega
    have hpar : ∀ f ∈ gs, ∀ p ∈ f.params, 0 <= p /\ p < f.kinds.length := fun f hf => (head_par (hheads f hf)).1
    have hpl : ∀ f ∈ gs, f.params.length <= 4 := fun f hf => (head_par (hheads f hf)).2.1
    have hkl : ∀ f ∈ gs, f.kinds.length <= 1024 := fun f hf => (head_par (hheads f hf)).2.2.1
    have hnl : ∀ f ∈ gs, f.nodes.length <= 4096 := fun f hf => (head_par (hheads f hf)).2.2.2
    obtain ⟨Hheads, Hr2, Hpar, Hpl, Hkl, Hnl, Hbq, Hall⟩ := hd8 hheads hr2 hpar hpl hkl hnl hbq hall;obtain ⟨HAq, HPq, Hbnd⟩ := hd3 hAq hPq hbnd;clear hbnd hPq hAq hall hbq hnl hkl hpl hpar hr2 hheads;go_wp2_with fail;clear kp0
    go_loopw [52] (fun i wq => ∃ j : Nat, j <= Z /\ i = .int .i64 j /\ Below V.heap.size V wq /\ Hid (∀ g ∈ gs.take j, g.nodes.all (nodeB gs g bound) = true)) (fun i _ => Z - (intOf i).toNat)
    case atStart => exact ⟨0, by omega, rfl, Hbq.out, (show ∀ g ∈ gs.take 0, g.nodes.all (nodeB gs g bound) = true by simp)⟩
    case round =>
     obtain ⟨j2, hj2, rfl, hbq2, hall2⟩ := hrel;have hsq2 := hbq2.size;have hAq2 := HA.out.below (hbq2.mono hBV);have hPq2 := HP.out.below hbq2 hGV;have hbnd2 := Hb.out.trans (hbq2.mono Hb.out.size);have kp0 := bc hPq2 0
     by_cases hjZ2 : j2 < Z
     ·obtain ⟨g, hgj⟩ : ∃ g, gs[j2]? = some g := ⟨_, List.getElem?_eq_getElem (by rw [HZ.out]; exact hjZ2)⟩
      obtain ⟨ad', pv, kv, iv, nv, hadd, _, hM⟩ := hAq2.at_ hgj;injection hadd with hadd;subst hadd;have hgm := List.mem_of_getElem? hgj
      have hjI2 : (j2 : Int) < Z := by omega
      obtain ⟨PA, pn, pc, KA, kn, kc, IA, il, ic, NA, nn, nc, rfl, rfl, rfl, rfl, hpn, hkn, hil, hnn⟩ := hM.forms;have m0 := hM.c0;have m1 := hM.c1;have m2 := hM.c2;have m3 := hM.c3;have m4 := hM.c4;have m5 := hM.c5;have m6 := hM.c6;have m7 := hM.c7;have hal := (Below.refl wr.heap.size wr).alloc (Nat.le_refl _) (.cells #[.slice PA pn pc, .slice KA kn kc, .int .i64 g.cells, .slice IA il ic, .bool g.result, .int .i64 g.keep, .slice NA nn nc, .int .i64 g.entry] 48);have hT3 := Blk.new wr 48 #[.slice PA pn pc, .slice KA kn kc, .int .i64 g.cells, .slice IA il ic, .bool g.result, .int .i64 g.keep, .slice NA nn nc, .int .i64 g.entry];have hM3 := hM.below (hal.mono (by omega));obtain ⟨W3, hW3⟩ := nm (wr.alloc (.cells #[.slice PA pn pc, .slice KA kn kc, .int .i64 g.cells, .slice IA il ic, .bool g.result, .int .i64 g.keep, .slice NA nn nc, .int .i64 g.entry] 48));obtain ⟨T, hT⟩ := nm (wr.heap.size);rw [<- hW3] at hal hT3 hM3;rw [<- hT] at hT3;have kt6 := bc hT3 6;have hTl := hT3.lt;obtain ⟨bh, hbh⟩ := mn (g.nodes.all (nodeB gs g bound))
      have hstep : bh = true -> ∀ g' ∈ gs.take (j2 + 1), g'.nodes.all (nodeB gs g' bound) = true := fun e g' hg' => by
       rw [List.take_add_one, hgj] at hg'
       rcases List.mem_append.1 hg' with h1 | h1
       ·exact hall2.out g' h1
       ·simp at h1; rw [h1, hbh, e]
      have hbad : bh = false -> r = false := fun e => by
       rw [<- Hr2.out]
       rcases hq : (gs.all fun g => g.nodes.all (nodeB gs g bound)) with _ | _
       ·rfl
       ·rw [List.all_eq_true.1 hq g hgm] at hbh; rw [e] at hbh; cases hbh
      have hbq3 := hbq2.trans (hal.mono hsq2);have hbnd3 := hbnd2.trans (hal.mono hbnd2.size);have hn4 := Hnl.out g hgm;rw [hnn] at hn4;have hkg := Hok.out.kinds g hgm;obtain ⟨Hbq2, Hall2, HAq2, HPq2, Hbnd2, Hgj, HM, Hgm⟩ := hd8 hbq2 hall2 hAq2 hPq2 hbnd2 hgj hM hgm;obtain ⟨Hal, HT3, HM3, Hbh, Hstep, Hbad, HW3, HTT⟩ := hd8 hal hT3 hM3 hbh hstep hbad hW3 hT;obtain ⟨Hpn, Hkn, Hil, Hnn, Hbq3, Hbnd3, Hkg⟩ := hd7 hpn hkn hil hnn hbq3 hbnd3 hkg;clear hkg hbnd3 hbq3 hnn hil hkn hpn hT hW3 hbad hstep hbh hM3 hT3 hal hgm hM hgj hbnd2 hPq2 hAq2 hall2 hbq2;go_upto_region 12 with fail;rw [<- HW3.out, <- HTT.out];clear m0 m1 m2 m3 m4 m5 m6 m7 kp0;go_wp2_with fail;clear kt6
      go_loopw [59] (fun i wq => ∃ k : Nat, k <= nn /\ i = .int .i64 k /\ Below W3.heap.size W3 wq /\ Hid (∀ x ∈ g.nodes.take k, nodeB gs g bound x = true)) (fun i _ => nn - (intOf i).toNat)
      case atStart => exact ⟨0, by omega, rfl, Below.refl _ _, (show ∀ x ∈ g.nodes.take 0, nodeB gs g bound x = true by simp)⟩
      case round =>
       obtain ⟨k, hk, rfl, hbq4, hall4⟩ := hrel;have hsq4 := hbq4.size;have hbq5 := Hbq3.out.trans (hbq4.mono Hbq3.out.size);have hbnd4 := Hbnd3.out.trans (hbq4.mono Hbnd3.out.size);have hM4 := HM3.out.below (hbq4.mono (Nat.le_trans hBV Hbq3.out.size));have hT4 := HT3.out.below hbq4 hTl;have hA4 := HA.out.below (hbq5.mono hBV);have hP4 := HP.out.below hbq5 hGV
       by_cases hkn' : k < nn
       ·obtain ⟨x, hxk⟩ : ∃ x, g.nodes[k]? = some x := ⟨_, List.getElem?_eq_getElem (by rw [Hnn.out]; exact hkn')⟩
        have hxm := List.mem_of_getElem? hxk;obtain ⟨nad, cs, hna, _, _, _, ⟨av, hcs, hav⟩, z0, nj⟩ := RowsAt.at_ hM4.nodes hxk;subst hna hcs;obtain ⟨AA, aac, hava, _, _, _⟩ := hav.slice;subst hava;have n0 : wr.cell? (nad.add (k * 12)) = some (.int .u8 x.op) := z0 _ rfl;have n1 := nj 1 _ (by omega) rfl;have n2 := nj 2 _ (by omega) rfl;have n3 := nj 3 _ (by omega) rfl;have n4 := nj 4 _ (by omega) rfl;have n5 := nj 5 _ (by omega) rfl;have n6 := nj 6 _ (by omega) rfl;have n7 := nj 7 _ (by omega) rfl;have n8 := nj 8 _ (by omega) rfl;have n9 := nj 9 _ (by omega) rfl;have n10 := nj 10 _ (by omega) rfl;have n11 := nj 11 _ (by omega) rfl;clear nj z0
        have hkI : (k : Int) < nn := by omega
        obtain ⟨bn, hbn⟩ := mn (nodeB gs g bound x)
        have hstep4 : bn = true -> ∀ y ∈ g.nodes.take (k + 1), nodeB gs g bound y = true := fun e y hy => by
         rw [List.take_add_one, hxk] at hy
         rcases List.mem_append.1 hy with h1 | h1
         ·exact hall4.out y h1
         ·simp at h1; rw [h1, hbn, e]
        have hbad4 : bn = false -> r = false := fun e => Hbad.out (by
         rw [<- Hbh.out]
         rcases hq : g.nodes.all (nodeB gs g bound) with _ | _
         ·rfl
         ·rw [List.all_eq_true.1 hq x hxm] at hbn; rw [e] at hbn; cases hbn)
        have hal4 := (Below.refl wr.heap.size wr).alloc (Nat.le_refl _) (.cells (ncells x (.slice AA x.args.length aac)).toArray 52);have hPn := Blk.new wr 52 (ncells x (.slice AA x.args.length aac)).toArray;have hsB : B <= wr.heap.size := Nat.le_trans hBV hbq5.size;have hav5 := hav.below (hal4.mono hsB);have hM5 := hM4.below (hal4.mono hsB);have hA5 := hA4.below (hal4.mono hsB);have hT5 := hT4.below hal4 hT4.lt;have hP5 := hP4.below hal4 hP4.lt;obtain ⟨G3, hG3⟩ := nm (wr.heap.size);have hbq6 := hbq4.trans (hal4.mono hsq4);have hbnd6 := hbnd4.trans (hal4.mono hbnd4.size);have hnd := refnode_all _ B (Nat.le_trans hsB hal4.size) _ gs hA5 g (.slice PA pn pc) (.slice KA kn kc) (.slice IA il ic) (.slice (some nad) nn nc) hM5.kinds hM5.nodes Hkg.out bound Hpar.out (by rw [HZ.out]; omega) x (.slice AA x.args.length aac) hav5 (Hok.out.args g Hgm.out x hxm) Hpl.out Hkl.out;rw [hbn] at hnd;obtain ⟨W4, hW4⟩ := nm (wr.alloc (.cells (ncells x (.slice AA x.args.length aac)).toArray 52));rw [<- hW4] at hPn hav5 hbq6 hbnd6 hnd hM5 hA5 hT5 hP5;rw [<- hG3] at hPn
        have hrange : W4.rangeAt G3 0 (ncells x (.slice AA x.args.length aac)) := fun j v hv => by
         rw [hPn.cell (0 + j), Nat.zero_add, List.getElem?_toArray];exact hv
        have hW4' : wr.alloc (.cells #[.int .u8 x.op, .int .u8 x.byo, .int .i64 x.d, .int .i64 x.e, .int .i64 x.a, .int .i64 x.b, .int .i64 x.f, .int .i64 x.cell, .int .u64 x.imm, .slice AA x.args.length aac, .int .i64 x.next, .int .i64 x.els] 52) = W4 := hW4.symm;have kt0 := bc hT5 0;have kt1 := bc hT5 1;have kt2 := bc hT5 2;have kt3 := bc hT5 3;have kt4 := bc hT5 4;have kt5 := bc hT5 5;have kt6 := bc hT5 6;have kt7 := bc hT5 7;have kp0 := bc hP5 0;obtain ⟨Hbq4, Hall4, HM4, HT4, HA4, HP4, Hbnd4, Hbq5⟩ := hd8 hbq4 hall4 hM4 hT4 hA4 hP4 hbnd4 hbq5;obtain ⟨Hxk, Hxm, Hav, Hbn, Hstep4, Hbad4, Hal4, HPn⟩ := hd8 hxk hxm hav hbn hstep4 hbad4 hal4 hPn;obtain ⟨Hav5, Hbq6, Hbnd6, Hnd, Hrange, HW5, HG3, HM5⟩ := hd8 hav5 hbq6 hbnd6 hnd hrange hW4' hG3 hM5;obtain ⟨HA5, HT5, HP5, HW4⟩ := hd4 hA5 hT5 hP5 hW4;clear hW4 hP5 hT5 hA5 hM5 hG3 hW4' hrange hnd hbnd6 hbq6 hav5 hPn hal4 hbad4 hstep4 hbn hav hxm hxk hbq5 hbnd4 hP4 hA4 hT4 hM4 hall4 hbq4;go_upto_region 15 with fail;rw [HW5.out, <- HG3.out];clear n0 n1 n2 n3 n4 n5 n6 n7 n8 n9 n10 n11;go_wp2_with (refine wpList_load_mid rfl 52 _ rfl G3 0 rfl (ncells x (.slice AA x.args.length aac)) _ Hrange.out Try.underlying52 rfl (by kernel_rfl) ?_);refine Hnd.out.mono ?_;rintro e w9 ⟨rfl, hb9⟩;have hbe := Hbq6.out.trans (hb9.mono Hbq6.out.size);have hbe2 := Hbnd6.out.trans (hb9.mono Hbnd6.out.size);clear hb9 kt0 kt1 kt2 kt3 kt4 kt5 kt6 kt7 kp0
        cases bn
        ·have hs := Hbad4.out rfl;obtain ⟨Hs, Hbe, Hbe2⟩ := hd3 hs hbe hbe2;clear hbe2 hbe hs;go_wp2_with fail;go_ret;rw [Hs.out];exact ⟨rfl, Hbe2.out⟩
        ·have hs := Hstep4.out rfl;obtain ⟨Hs, Hbe, Hbe2⟩ := hd3 hs hbe hbe2;clear hbe2 hbe hs;go_wp2_with fail;exact ⟨⟨k + 1, by omega, by go_num, Hbe.out, Lib.hid Hs.out⟩, by simp [intOf]; omega⟩
       ·have hkI : ¬ (k : Int) < nn := by omega
        have hs := Hstep.out (by
         rw [<- Hbh.out];rw [List.take_of_length_le (by rw [Hnn.out]; omega)] at hall4
         exact List.all_eq_true.2 hall4.out)
        obtain ⟨Hs, Hbq4, Hall4, HM4, HT4, HA4, HP4, Hbq5⟩ := hd8 hs hbq4 hall4 hM4 hT4 hA4 hP4 hbq5;have Hbnd4 := Lib.hid hbnd4;clear hbnd4 hbq5 hP4 hA4 hT4 hM4 hall4 hbq4 hs;go_wp2_with fail;exact ⟨⟨j2 + 1, by omega, by go_num, Hbq5.out, Lib.hid Hs.out⟩, by simp [intOf]; omega⟩
     ·have hs : r = true := by
       rw [<- Hr2.out];rw [List.take_of_length_le (by rw [HZ.out]; omega)] at hall2;exact List.all_eq_true.2 hall2.out
      have hjI2 : ¬ (j2 : Int) < Z := by omega
      obtain ⟨Hs, Hbq2, Hall2, HAq2, HPq2, Hbnd2⟩ := hd6 hs hbq2 hall2 hAq2 hPq2 hbnd2;clear hbnd2 hPq2 hAq2 hall2 hbq2 hs;go_wp2_with fail;go_ret;rw [Hs.out];exact ⟨rfl, Hbnd2.out⟩
end Go.Proofs.Ytncpehhfjkncoaa
namespace Go.Proofs.Ytncpehhfjkncoaa
open Go.RowKit

theorem infoKindL : (Try.prog.info? 79).map (fun i => (i.zero, i.size, i.bytes)) = some (some (.int .u8 0), 1, 1) := by kernel_rfl
def kzero (n : Nat) : Array Value := madeCells #[.int .u8 0] n
theorem kzero_list (n : Nat) : (kzero n).toList = (List.replicate n (0 : Int)).map (Value.int .u8) := by
 unfold kzero;rw [toList_madeCells_one]; simp
theorem nums_kzero {w : World} {K n : Nat} {t : TypeId} (h : Blk w K t (kzero n)) (hn : n <= maxLen) : NumsAt .u8 w w.heap.size (.slice (some ⟨K, 0, none⟩) n n) (List.replicate n 0) :=
 ⟨_, _, _, rfl, Nat.le_refl _, hn, by simp, Reads.of_blk h (kzero_list n) (by simp)⟩
theorem make_kinds (n : Nat) (hn : n <= 1000000) (W : World) : (Instr.makeSlice 44 (.int .i64 (n : Int)) (.int .i64 (n : Int))).run Try.prog W = .ok (.slice (some ⟨W.heap.size, 0, none⟩) n n) (W.alloc (.cells (kzero n) 79)) := by
 obtain ⟨ik, hik, hkz0, hkz1, hkz2⟩ := info_parts infoKindL;have h := run_make_rowN (P := Try.prog) 44 79 ik _ Try.underlying44 hik hkz0 .i64 .i64 n n (Nat.le_refl _) (by rw [hkz2]; omega) (by omega) W;rw [hkz1, Nat.mul_one] at h;exact h
theorem nums_nil (k : IntKind) (w : World) (B : Nat) : NumsAt k w B (.slice none 0 0) [] := ⟨none, 0, 0, rfl, Nat.le_refl _, by unfold maxLen; omega, rfl, Reads.none_⟩
def grL : GraphD := ⟨[], List.replicate 16 0, 0, [], false, -1, [ndR (-1)], 0⟩
theorem inline_one (w : World) (pv kv iv nv : Value) (hN : RowsAt 12 NodeAt w w.heap.size nv [ndR (-1)]) :
  Calls Try.prog 11 #[.agg (gcells grL pv kv iv nv).toArray] w fun e w' => e = .returned (.bool true) /\ Below w.heap.size w w' := by
 obtain ⟨NA, nc, rfl, hnc, _⟩ := hN.slice;obtain ⟨K, hK⟩ := mn (([ndR (-1)] : List NodeD).length);have hK1 : K = 1 := hK.symm
 have hK0 : 0 < K := by omega
 have hKl : K <= 1 := by omega
 simp only [hK] at hnc hN;rw [show (gcells grL pv kv iv (.slice NA ([ndR (-1)] : List NodeD).length nc)) = gcells grL pv kv iv (.slice NA K nc) by rw [hK]];have hb := (Below.refl w.heap.size w).alloc (Nat.le_refl _) (.cells #[pv, kv, .int .i64 0, iv, .bool false, .int .i64 (-1), .slice NA K nc, .int .i64 0] 48);have hB := Blk.new w 48 #[pv, kv, .int .i64 0, iv, .bool false, .int .i64 (-1), .slice NA K nc, .int .i64 0];have hN' := hN;have kb6 := bc hB 6;have kb7 := bc hB 7;simp only [gcells, grL];obtain ⟨HK, HK1, HN, Hb, HB⟩ := hd5 hK hK1 hN hb hB;clear hB hb hN hK1 hK;go_enter Try.func11, Try.ntmps11;go_wp2_with fail
 go_loopg [11] K (fun gk iv wr => ∃ j : Nat, j + gk = K /\ iv = .int .i64 j /\ Hid (Below w.heap.size w wr))
 case atStart => exact ⟨0, by omega, rfl, Hb⟩
 case round =>
  obtain ⟨j, hj, rfl, hbj⟩ := hrel
  by_cases hjK : j < K
  ·obtain rfl : j = 0 := by omega
   obtain ⟨ad, cs, hA, _, _, _, hNode, n0, nj⟩ := RowsAt.at_ (hN'.keep (fun p hp => hbj.out.cell hp) (fun _ _ h => h.keep fun p hp => hbj.out.cell hp)) (k := 0) (x := ndR (-1)) rfl;obtain ⟨av, rfl, hav⟩ := hNode;obtain ⟨AA, ac, rfl, _⟩ := hav.slice;subst hA;have c0 := n0 _ rfl
   have e0 : ad.add (0 * 12) = ad := by rw [Nat.zero_mul]; first | rfl | simp [Addr.add]
   have c1 := nj 1 _ (by omega) rfl;have c2 := nj 2 _ (by omega) rfl;have c3 := nj 3 _ (by omega) rfl;have c4 := nj 4 _ (by omega) rfl;have c5 := nj 5 _ (by omega) rfl;have c6 := nj 6 _ (by omega) rfl;have c7 := nj 7 _ (by omega) rfl;have c8 := nj 8 _ (by omega) rfl;have c9 := nj 9 _ (by omega) rfl;have c10 := nj 10 _ (by omega) rfl;have c11 := nj 11 _ (by omega) rfl;rw [e0] at c0 c1 c2 c3 c4 c5 c6 c7 c8 c9 c10 c11;simp only [ndR] at c0 c1 c2 c3 c4 c5 c6 c7 c8 c9 c10 c11;have hbj2 := hbj.out.alloc hbj.out.size (.cells (ncells (ndR (-1)) (.slice AA ([] : List Int).length ac)).toArray 52);have hX := Blk.new wr 52 (ncells (ndR (-1)) (.slice AA ([] : List Int).length ac)).toArray;simp only [ncells, ndR] at hX hbj2;have kx0 := bc hX 0;have kx10 := bc hX 10;clear n0 nj;obtain ⟨Hav, HX, Hbj2, He0⟩ := hd4 hav hX hbj2 e0;clear e0 hbj2 hX hav;go_wp2_with fail
   go_roundg (gk - 1)
   case measure => omega
   case rel => exact ⟨1, by omega, rfl, Hbj2⟩
  ·go_wp2_with fail;go_ret;exact ⟨rfl, hbj.out⟩
theorem first_any (w : World) : Calls Try.prog 5 #[] w fun e w' => e = .returned (.bool true) /\ Below w.heap.size w w' := by
 have hmk : ∀ W : World, (Instr.makeSlice 44 (.int .i64 16) (.int .i64 16)).run Try.prog W = .ok (.slice (some ⟨W.heap.size, 0, none⟩) 16 16) (W.alloc (.cells (kzero 16) 79)) := make_kinds 16 (by omega);obtain ⟨ka, hka⟩ := nm (kzero 16);obtain ⟨na, hna⟩ := nm ((ncells (nopD 2) (.slice none 0 0) ++ ncells (ndR (-1)) (.slice none 0 0) ++ ncells (nopD 1) (.slice none 0 0)).toArray : Array Value);obtain ⟨H, hH⟩ := nm (w.heap.size);obtain ⟨ga, hga⟩ := nm ((gcells grF (.slice none 0 0) (.slice (some ⟨H, 0, none⟩) 16 16) (.slice none 0 0) (.slice (some ⟨H + 1, 0, none⟩) 3 3)).toArray : Array Value)
 have hK := (((Blk.new w 79 ka).alloc (.cells na 52)).alloc (.cells ga 48))
 have hN := ((Blk.new2 w (.cells ka 79) 52 na).alloc (.cells ga 48))
 have hG := (Blk.new ((w.alloc (.cells ka 79)).alloc (.cells na 52)) 48 ga)
 have hb := (((Below.refl w.heap.size w).alloc (Nat.le_refl _) (.cells ka 79)).alloc (by simp) (.cells na 52)).alloc (by simp; omega) (.cells ga 48);simp only [World.size_alloc] at hG;obtain ⟨V, hV⟩ := nm (((w.alloc (.cells ka 79)).alloc (.cells na 52)).alloc (.cells ga 48));rw [<- hV] at hK hN hG hb;rw [<- hH] at hK hN hG
 have hgs : GraphsAt V V.heap.size (.slice (some ⟨H + 1 + 1, 0, none⟩) 1 1) [grF] := by
  refine ⟨_, _, _, [gcells grF (.slice none 0 0) (.slice (some ⟨H, 0, none⟩) 16 16) (.slice none 0 0) (.slice (some ⟨H + 1, 0, none⟩) 3 3)], rfl, Nat.le_refl _, by unfold maxLen; omega, rfl, rfl, by simp [gcells], Reads.of_blk hG (by rw [hga]; simp) (by simp [gcells]), fun i z hz => ?_⟩
  match i, hz with
  | 0, hz =>
   simp only [List.getElem?_cons_zero, Option.some.injEq] at hz;subst hz;refine ⟨_, rfl, _, _, _, _, rfl, nums_nil _ _ _, nums_kzero (by rw [<- hka]; exact hK) (by unfold maxLen; omega), nums_nil _ _ _, ?_⟩;refine ⟨_, _, _, [ncells (nopD 2) (.slice none 0 0), ncells (ndR (-1)) (.slice none 0 0), ncells (nopD 1) (.slice none 0 0)], rfl, Nat.le_refl _, by unfold maxLen; omega, rfl, rfl, by simp [ncells], Reads.of_blk hN (by rw [hna]; simp) (by simp [ncells]), fun i z hz => ?_⟩
   match i, hz with
   | 0, hz =>
    simp only [grF, List.getElem?_cons_zero, Option.some.injEq] at hz;subst hz;exact ⟨_, rfl, _, rfl, nums_nil _ _ _⟩
   | 1, hz =>
    simp only [grF, List.getElem?_cons_zero, List.getElem?_cons_succ, Option.some.injEq] at hz;subst hz;exact ⟨_, rfl, _, rfl, nums_nil _ _ _⟩
   | 2, hz =>
    simp only [grF, List.getElem?_cons_zero, List.getElem?_cons_succ, Option.some.injEq] at hz;subst hz;exact ⟨_, rfl, _, rfl, nums_nil _ _ _⟩
 have hlin := linear_any hgs (Nat.le_refl _) ⟨by intro g hg; simp at hg; rw [hg]; simp [grF]; refine ⟨?_, ?_, ?_⟩ <;> simp [nopD, ndR], by simp⟩
 have hna' : (#[.int .u8 10, .int .u8 0, .int .i64 0, .int .i64 0, .int .i64 0, .int .i64 0, .int .i64 0, .int .i64 0, .int .u64 0, .slice none 0 0, .int .i64 2, .int .i64 0, .int .u8 12, .int .u8 0, .int .i64 0, .int .i64 0, .int .i64 (-1), .int .i64 0, .int .i64 0, .int .i64 0, .int .u64 0, .slice none 0 0, .int .i64 0, .int .i64 0, .int .u8 10, .int .u8 0, .int .i64 0, .int .i64 0, .int .i64 0, .int .i64 0, .int .i64 0, .int .i64 0, .int .u64 0, .slice none 0 0, .int .i64 1, .int .i64 0] : Array Value) = na := by rw [hna]; rfl
 have hga' : (#[.slice none 0 0, .slice (some ⟨H, 0, none⟩) 16 16, .int .i64 0, .slice none 0 0, .bool false, .int .i64 (-1), .slice (some ⟨H + 1, 0, none⟩) 3 3, .int .i64 0] : Array Value) = ga := by rw [hga]; rfl
 have hzV := hb.size;obtain ⟨HK, HN, HG, Hb, Hgs, Hlin, Hka, Hna⟩ := hd8 hK hN hG hb hgs hlin hka hna;obtain ⟨Hga, HV, HHH, HNA, HGA⟩ := hd5 hga hV hH hna' hga';clear hga' hna' hH hV hga hna hka hlin hgs hb hG hN hK;go_enter Try.func5, Try.ntmps5;go_wp2_with fail;rw [<- HHH.out, <- Hka.out, HNA.out, HGA.out, <- HV.out];refine Hlin.out.mono ?_;rintro e w2 ⟨hb2, hpost⟩
 rcases hpost with ⟨h0, _⟩ | ⟨_, pv, css, rfl, hown, hgs2⟩
 ·exact absurd errF h0
 rw [List.map_cons, lineF, List.map_nil] at hgs2;have hbe := Hb.out.trans (hb2.mono hzV);obtain ⟨PV, pvc, hpv, _⟩ := own_any hown;rw [show ([grF] : List GraphD).length = 1 from rfl] at hpv hown;subst hpv;have hga2 := hgs2.at_ hown
 have hga3 := (hga2.below ((Below.refl _ w2).alloc (Nat.le_refl _) (.cells #[.slice PV 1 pvc] 24)))
 have hright := right_any hga3 (by simp) ⟨by intro g hg; simp at hg; rw [hg]; simp, by intro g hg; simp at hg; rw [hg]; intro x hx; simp at hx; rw [hx]; simp [ndR]⟩ true;rw [checkF] at hright;have hB3 := Blk.new w2 24 #[.slice PV 1 pvc];have hb3 := hbe.alloc hbe.size (.cells #[.slice PV 1 pvc] 24);obtain ⟨T, hT⟩ := nm (w2.heap.size);obtain ⟨w3, hw3⟩ := nm (w2.alloc (.cells #[.slice PV 1 pvc] 24));rw [<- hw3] at hga3 hright hB3 hb3;rw [<- hT] at hB3;have kb0 := bc hB3 0;obtain ⟨Hga2, Hga3, Hright, HB3, Hb3, Hgs2, Hown, Hb2⟩ := hd8 hga2 hga3 hright hB3 hb3 hgs2 hown hb2;obtain ⟨Hbe, HT, Hw3⟩ := hd3 hbe hT hw3;clear hw3 hT hbe hb2 hown hgs2 hb3 hB3 hright hga3 hga2;go_upto_region 2 with fail;rw [<- Hw3.out, <- HT.out];go_wp2_with fail;refine Hright.out.mono ?_;rintro e w4 ⟨rfl, hb34⟩;have hsz3 := Hb3.out.size;have hb4 := Hb3.out.trans (hb34.mono hsz3);have hB4 := HB3.out.below hb34 HB3.out.lt;have hga4 := Hga3.out.keep (w' := w4) (fun p hp => hb34.cell (Nat.lt_of_lt_of_le hp (by rw [Hw3.out]; simp)));clear kb0;have kb0 := bc hB4 0;obtain ⟨ad, pv5, kv5, iv5, nv5, hA, _, hM⟩ := hga4.at_ (k := 0) rfl;subst hA;obtain ⟨PA, pc, hp5, _⟩ := hM.params.slice;obtain ⟨KA, kc, hk5, _⟩ := hM.kinds.slice;obtain ⟨IA, ic, hi5, _⟩ := hM.init.slice;obtain ⟨NA, nc, hn5, _⟩ := hM.nodes.slice;have hp5 : pv5 = .slice PA 0 pc := hp5;have hk5 : kv5 = .slice KA 16 kc := hk5;have hi5 : iv5 = .slice IA 0 ic := hi5;have hn5 : nv5 = .slice NA 1 nc := hn5;subst hp5 hk5 hi5 hn5;have hin := inline_one w4 (.slice PA 0 pc) (.slice KA 16 kc) (.slice IA 0 ic) (.slice NA 1 nc) (hM.nodes.more (B' := w4.heap.size) (by have := hb34.size; rw [Hw3.out] at this; simp at this; omega) fun _ _ h => h.more (by have := hb34.size; rw [Hw3.out] at this; simp at this; omega))
 have e0 : ad.add (0 * 8) = ad := by rw [Nat.zero_mul]; first | rfl | simp [Addr.add]
 rw [e0] at hM;have m0 := hM.c0;have m1 := hM.c1;have m2 := hM.c2;have m3 := hM.c3;have m4 := hM.c4;have m5 := hM.c5;have m6 := hM.c6;have m7 := hM.c7;simp only at m2 m4 m5 m7;obtain ⟨Hga4, HB4, HM, Hin, Hb4, Hb34⟩ := hd6 hga4 hB4 hM hin hb4 hb34;clear hb34 hb4 hin hM hB4 hga4;go_wp2_with fail;refine Hin.out.mono ?_;rintro e w5 ⟨rfl, hb45⟩;have hb5 := Hb4.out.trans (hb45.mono Hb4.out.size);obtain ⟨Hb45, Hb5⟩ := hd2 hb45 hb5;clear hb5 hb45;clear m0 m1 m2 m3 m4 m5 m6 m7 kb0;go_wp2_with fail;go_ret;exact ⟨rfl, Hb5.out⟩
end Go.Proofs.Ytncpehhfjkncoaa
namespace Go.Proofs.Ytncpehhfjkncoaa
open Go.ChangeShapes Go.WideShapes Go.ChangeAt Go.RowKit

theorem lits_length (k : IntKind) {H : Type} (l : List Int) : (lits (H := H) k l).length = l.length := by simp [lits]

theorem open_reads {H : Type} {enc : TypeId × Value -> H} {P : Program} {W : World} {base : Nat} {t e by_ : Nat} {k : IntKind} (ht : P.underlying t = some (.slice e)) (he : P.underlying e = some (.int k)) (hC : P.cellsOf e = 1) (hB : P.bytesOf e = by_)
  {v : Value} {d : DataW H} {p : List MemPlace} (hv : Value.okWide P W .any base t v) (h : DataW.Trod enc P W 0 (fun _ => true) true t v d p)
  {ts : List TypeId} {ds : List (DataW H)} {j : Nat} (hsz : (DataW.weightsEach P ts ds).all (· <= reachBytes) = true) (hts : ts[j]? = some t) (hds : ds[j]? = some d) :
  ∃ (A : Option Addr) (n c : Nat) (zs : List Int), v = .slice A n c /\ Reads W W.heap.size 1 A n (zs.map (Value.int k)) /\ zs.length = n /\ n <= c /\ c <= maxLen /\ c * by_ <= 140737488351232 /\ ∀ z ∈ zs, (Lit.int k z).wf = true := by
 obtain ⟨A, n, c, rfl⟩ := okWide_slice ht hv
 have lt : ∀ x ∈ p, x.block < W.heap.size := by obtain ⟨m, hm⟩ := h; exact DataW.trod_lt m _ _ _ hm
 obtain ⟨fuel, hf⟩ := h
 rcases open_ints ht he hC hf with ⟨hcs, _⟩ | ⟨x, l, c', zs, hcs, _, hl, hm, hz, hx, hcell, hwz⟩
 ·simp [Value.cells] at hcs;obtain ⟨rfl, rfl, rfl⟩ := hcs;exact ⟨none, 0, 0, [], rfl, Reads.none_, rfl, Nat.le_refl _, by unfold maxLen; omega, by omega, by simp⟩
 ·simp [Value.cells] at hcs;obtain ⟨rfl, rfl, rfl⟩ := hcs;simp only [if_true] at hz;simp only [Prod.mk.injEq] at hx;obtain ⟨rfl, rfl⟩ := hx;have hr := sized_slice hsz hts hds ht;rw [lits_length, lits_length, hB, List.length_take, List.length_drop, hz, Nat.min_eq_left hl, Nat.add_sub_cancel' hl] at hr;refine ⟨_, _, _, zs.take n, rfl, ⟨by simp [hz, hl], fun hn => ⟨x, rfl, ?_, ?_⟩⟩, by simp [hz, hl], hl, hm, hr, fun z hz' => hwz z (List.mem_of_mem_take hz')⟩
  ·exact lt (.cell x.block (x.off + 0)) (List.mem_map.2 ⟨0, List.mem_range.2 (by rw [hz]; omega), rfl⟩)
  ·intro i u hu;rw [List.getElem?_map, Option.map_eq_some_iff] at hu;obtain ⟨y, hy, rfl⟩ := hu
   have hi : i < zs.length := by
    have := (List.getElem?_eq_some_iff.1 hy).1;rw [List.length_take] at this; omega
   rw [hcell i hi]
   have hit : i < n := by
    have := (List.getElem?_eq_some_iff.1 hy).1;rw [List.length_take] at this; omega
   rw [List.getElem?_take_of_lt hit] at hy;simp [List.getD_eq_getElem?_getD, hy]
theorem u64_of_wf {a : Int} (h : (Lit.int .u64 a).wf = true) : U64 a := by
 have := bounds_u64 h;unfold U64; omega
theorem lt_of_trod {H : Type} {enc : TypeId × Value -> H} {P : Program} {W : World} {b : Nat} {sp : Nat -> Bool} {hd : Bool} {t : TypeId} {v : Value} {d : DataW H} {p : List MemPlace} (h : DataW.Trod enc P W b sp hd t v d p) : ∀ x ∈ p, x.block < W.heap.size := by
 obtain ⟨m, hm⟩ := h; exact DataW.trod_lt m _ _ _ hm
theorem own : ownKnob Try.prog.godebug = none := by kernel_rfl
theorem laidOut : laidOutB Try.prog = true := by kernel_rfl
end Go.Proofs.Ytncpehhfjkncoaa
