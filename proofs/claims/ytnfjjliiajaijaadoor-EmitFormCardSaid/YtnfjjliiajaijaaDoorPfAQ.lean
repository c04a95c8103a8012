/- Walk of ir.Check. Conditions: the graphs lie in memory. -/
import Derived.Test.YtnfjjliiajaijaaDoorPfAA
import Derived.Test.YtnfjjliiajaijaaDoorPfAN
set_option linter.unusedVariables false
set_option linter.unusedSimpArgs false
set_option maxRecDepth 100000
set_option maxHeartbeats 16000000
namespace Go.Proofs.YtnfjjliiajaijaaDoor
open Go.RowKit
def za3 (gs : List zad) (bound : Bool) : Bool := (match gs[0]? with | none => false | some g => decide (gs.length <= 16) && decide (g.params.length = 0) && !g.result) && gs.all (fun g => zca g bound) && gs.all fun g => g.nodes.all (zbg gs g bound)
structure zfl (gs : List zad) : Prop where
 kinds : ∀ g ∈ gs, g.kinds.length <= 140737488351232
 args : ∀ g ∈ gs, ∀ x ∈ g.nodes, x.args.length <= 140737488351232
theorem zby {g : zad} {bound : Bool} (h : zca g bound = true) : (∀ p ∈ g.params, 0 <= p /\ p < g.kinds.length) /\ g.params.length <= 4 /\ g.kinds.length <= 1024 /\ g.nodes.length <= 4096 := by
 unfold zca at h;simp only [Bool.and_eq_true, Bool.not_eq_true'] at h;obtain ⟨⟨⟨h1, h2⟩, h3⟩, h4⟩ := h;refine ⟨fun p hp => ?_, ?_, ?_, ?_⟩
 ·obtain ⟨i, hi, rfl⟩ := List.getElem_of_mem hp;have h5 := List.all_eq_true.1 h3 i (List.mem_range.2 hi);unfold zf8 at h5
  have hg : g.params.getD i 0 = g.params[i] := by rw [List.getD_eq_getElem?_getD, List.getElem?_eq_getElem hi]; rfl
  rw [hg] at h5;simp only [Bool.and_eq_true, Bool.not_eq_true', Bool.or_eq_false_iff, decide_eq_false_iff_not] at h5;obtain ⟨⟨⟨⟨h6, h7⟩, _⟩, _⟩, _⟩ := h5
  omega
 ·unfold zfV at h2;simp only [Bool.or_eq_false_iff, decide_eq_false_iff_not] at h2
  omega
 ·unfold zif at h1;simp only [Bool.or_eq_false_iff, decide_eq_false_iff_not] at h1
  omega
 ·unfold zgJ at h4;simp only [Bool.and_eq_true, decide_eq_true_eq] at h4
  omega
theorem zfL {w : World} {B : Nat} {allv : Value} {gs : List zad} (h : zaI w B allv gs) (hB : B <= w.heap.size) (hok : zfl gs) (bound : Bool) :
  Calls Tryd.prog 15 #[.agg #[allv], .bool bound] w fun e w' => e = .returned (.int .i64 (if za3 gs bound then 0 else 70)) /\ Below w.heap.size w w' := by
 obtain ⟨r, hr⟩ := mn (za3 gs bound);rw [hr];obtain ⟨rv, hrv⟩ := mn ((if r = true then (0 : Int) else 70) : Int);rw [hrv];unfold za3 at hr;obtain ⟨G, hG⟩ := nm (w.heap.size);have hP := Blk.new w 24 #[allv];have hb := (Below.refl w.heap.size w).alloc (Nat.le_refl _) (.cells #[allv] 24);have hA := h.below ((Below.refl B w).alloc hB (.cells #[allv] 24));obtain ⟨V, hV⟩ := nm (w.alloc (.cells #[allv] 24));rw [<- hV] at hb hA hP;rw [<- hG] at hP
 have hGV : G < V.heap.size := by rw [hV, World.size_alloc, hG]; omega
 have hBV : B <= V.heap.size := by rw [hV, World.size_alloc]; omega
 obtain ⟨GA, gc, rfl, _, _⟩ := hA.slice;obtain ⟨Z, hZ⟩ := mn (gs.length);rw [hZ] at hr hP hV ⊢;rw [hZ] at hA;have kp0 := bc hP 0
 by_cases hZ0 : Z = 0
 ·have hs : r = false := by rw [<- hr, List.getElem?_eq_none (by omega)]; rfl
  have hz : ((Z : Int) == 0) = true := by simp [hZ0]
  obtain ⟨HA, Hb, HP, Hr, HZ, Hs, H, Hok⟩ := hd8 hA hb hP hr hZ hs h hok;obtain ⟨HG, HV, Hrv, HZ0⟩ := hd4 hG hV hrv hZ0;clear hZ0 hrv hV hG hok h hs hZ hr hP hb hA;go_enter Tryd.func15, Tryd.ntmps15;go_upto_region 1 with fail;rw [<- HV.out, <- HG.out];go_wp2_with fail;go_ret;rw [<- Hrv.out, Hs.out];exact ⟨rfl, Hb.out⟩
 have hz : ((Z : Int) == 0) = false := by simp [hZ0]
 obtain ⟨g0, hg0⟩ : ∃ g0, gs[0]? = some g0 := ⟨_, List.getElem?_eq_getElem (by omega)⟩
 rw [hg0] at hr;simp only at hr
 by_cases hZ16 : Z <= 16
 case neg =>
  have hs : r = false := by rw [<- hr]; simp [hZ16]
  have hz2 : (16 : Int) < Z := by omega
  obtain ⟨HA, Hb, HP, Hr, HZ, Hs, H, Hok⟩ := hd8 hA hb hP hr hZ hs h hok;obtain ⟨HG, HV, Hrv, HZ0⟩ := hd4 hG hV hrv hZ0;clear hZ0 hrv hV hG hok h hs hZ hr hP hb hA;clear hZ16;go_enter Tryd.func15, Tryd.ntmps15;go_upto_region 1 with fail;rw [<- HV.out, <- HG.out];go_wp2_with fail;go_ret;rw [<- Hrv.out, Hs.out];exact ⟨rfl, Hb.out⟩
 have hz2 : ¬ (16 : Int) < Z := by omega
 have hz3 : (0 : Int) < Z := by omega
 have hz4 : 0 < Z := by omega
 obtain ⟨ad, pv0, kv0, iv0, nv0, hGA, _, hM0⟩ := hA.at_ hg0;subst hGA;obtain ⟨PA0, pc0, hpv0, _, _, _⟩ := hM0.params.slice;subst hpv0;have m0 := hM0.c0;have m4 := hM0.c4
 have ead : ad.add (0 * 8) = ad := by rw [Nat.zero_mul]; first | rfl | simp [Addr.add]
 rw [ead] at m0 m4;obtain ⟨P0, hP0⟩ := mn (g0.params.length);obtain ⟨b0, hb0⟩ := mn (g0.result);rw [hP0] at m0 hr;rw [hb0] at m4 hr;have hZd : decide (Z <= 16) = true := decide_eq_true hZ16;rw [hZd, Bool.true_and] at hr
 by_cases hp0 : P0 = 0
 case neg =>
  have hs : r = false := by rw [<- hr]; simp [hp0]
  have hz5 : (0 : Int) < P0 := by omega
  have hz6 : 0 < P0 := by omega
  obtain ⟨HA, Hb, HP, Hr, HZ, Hs, H, Hok⟩ := hd8 hA hb hP hr hZ hs h hok;obtain ⟨HG, HV, Hrv, HZ0, HM0, Hg0, HZd, HP0⟩ := hd8 hG hV hrv hZ0 hM0 hg0 hZd hP0;have Hb0 := Lib.hid hb0;clear hb0 hP0 hZd hg0 hM0 hZ0 hrv hV hG hok h hs hZ hr hP hb hA;clear hZ16 hp0;go_enter Tryd.func15, Tryd.ntmps15;go_upto_region 1 with fail;rw [<- HV.out, <- HG.out];go_wp2_with fail;go_ret;rw [<- Hrv.out, Hs.out];exact ⟨rfl, Hb.out⟩
 have hz5 : ¬ (0 : Int) < P0 := by omega
 have hz6 : ¬ 0 < P0 := by omega
 have hPd : decide (P0 = 0) = true := decide_eq_true hp0;rw [hPd, Bool.true_and] at hr
 cases b0
 case true =>
  have hs : r = false := by rw [<- hr]; rfl
  obtain ⟨HA, Hb, HP, Hr, HZ, Hs, H, Hok⟩ := hd8 hA hb hP hr hZ hs h hok;obtain ⟨HG, HV, Hrv, HZ0, HM0, Hg0, HZd, HP0⟩ := hd8 hG hV hrv hZ0 hM0 hg0 hZd hP0;obtain ⟨Hb0, HPd⟩ := hd2 hb0 hPd;clear hPd hb0 hP0 hZd hg0 hM0 hZ0 hrv hV hG hok h hs hZ hr hP hb hA;clear hZ16 hp0;go_enter Tryd.func15, Tryd.ntmps15;go_upto_region 1 with fail;rw [<- HV.out, <- HG.out];go_wp2_with fail;go_ret;rw [<- Hrv.out, Hs.out];exact ⟨rfl, Hb.out⟩
 case false =>
  rw [Bool.not_false, Bool.true_and] at hr;obtain ⟨HA, Hb, HP, Hr, HZ, H, Hok, HG⟩ := hd8 hA hb hP hr hZ h hok hG;obtain ⟨HV, Hrv, HZ0, HM0, Hg0, HZd, HP0, Hb0⟩ := hd8 hV hrv hZ0 hM0 hg0 hZd hP0 hb0;have HPd := Lib.hid hPd;clear hPd hb0 hP0 hZd hg0 hM0 hZ0 hrv hV hG hok h hZ hr hP hb hA;clear hp0;go_enter Tryd.func15, Tryd.ntmps15;go_upto_region 1 with fail;rw [<- HV.out, <- HG.out];go_wp2_with fail;clear kp0 m0 m4
  go_loopw [39] (fun i wq => ∃ j : Nat, j <= Z /\ i = .int .i64 j /\ Below V.heap.size V wq /\ Hid (∀ g ∈ gs.take j, zca g bound = true)) (fun i _ => Z - (intOf i).toNat)
  case atStart => exact ⟨0, by omega, rfl, Below.refl _ _, (show ∀ g ∈ gs.take 0, zca g bound = true by simp)⟩
  case round =>
   obtain ⟨j, hj, rfl, hbq, hall⟩ := hrel;have hsq := hbq.size;have hAq := HA.out.below (hbq.mono hBV);have hPq := HP.out.below hbq hGV;have hbnd := Hb.out.trans (hbq.mono Hb.out.size);have kp0 := bc hPq 0
   by_cases hjZ : j < Z
   ·obtain ⟨g, hgj⟩ : ∃ g, gs[j]? = some g := ⟨_, List.getElem?_eq_getElem (by rw [HZ.out]; exact hjZ)⟩
    obtain ⟨ad', pv, kv, iv, nv, hadd, _, hM⟩ := hAq.at_ hgj;injection hadd with hadd;subst hadd;have hgm := List.mem_of_getElem? hgj
    have hjI : (j : Int) < Z := by omega
    have hbx := Blk.new wr.drew 93 #[.slice (some ad) Z gc, .pointer (some (ad.add (j * 8))), .bool bound];have hal := (Below.refl wr.heap.size wr).drew.alloc (Nat.le_refl _) (.cells #[.slice (some ad) Z gc, .pointer (some (ad.add (j * 8))), .bool bound] 93)
    have hCk : Ck (wr.drew.alloc (.cells #[.slice (some ad) Z gc, .pointer (some (ad.add (j * 8))), .bool bound] 93)) B wr.heap.size (.slice (some ad) Z gc) gs (ad.add (j * 8)) g pv kv iv nv bound :=
     ⟨hbx, by omega, hAq.below (hal.mono (by omega)), hM.below (hal.mono (by omega))⟩
    have kp0' := (hal.cell (p := ⟨G, 0, none⟩) (by show G < _; omega)).trans kp0;obtain ⟨bh, hbh⟩ := mn (zca g bound);have hhd := zlz hCk (Hok.out.kinds g hgm);rw [hbh] at hhd
    have hstep : bh = true -> ∀ g' ∈ gs.take (j + 1), zca g' bound = true := fun e g' hg' => by
     rw [List.take_add_one, hgj] at hg'
     rcases List.mem_append.1 hg' with h1 | h1
     ·exact hall.out g' h1
     ·simp at h1; rw [h1, hbh, e]
    have hbad : bh = false -> r = false := fun e => by
     rw [<- Hr.out]
     rcases hq : gs.all (fun g => zca g bound) with _ | _
     ·rfl
     ·rw [List.all_eq_true.1 hq g hgm] at hbh; rw [e] at hbh; cases hbh
    obtain ⟨Hbq, Hall, HAq, HPq, Hbnd, Hgj, HM, Hgm⟩ := hd8 hbq hall hAq hPq hbnd hgj hM hgm;obtain ⟨Hbx, Hal, HCk, Hbh, Hhd, Hstep, Hbad⟩ := hd7 hbx hal hCk hbh hhd hstep hbad;clear hbad hstep hhd hbh hCk hal hbx hgm hM hgj hbnd hPq hAq hall hbq;go_upto_region 6 with fail;refine wp_region_noPanic ?_;refine wp_region_held_drew (S := fun W => W.cell? ⟨G, 0, none⟩ = some (.slice (some ad) Z gc)) (by kernel_rfl) kp0 (fun hHeld => ?_);refine zab 0 ?_;refine zab 1 ?_;refine zab 2 ?_;refine zab 3 ?_;refine zab 4 ?_;refine zab 5 ?_;refine zab 6 ?_;refine zab 7 ?_;refine zbb 8 (fun K hK => ?_);go_simp;refine hK.out _ _ kp0' (fun hHeld2 => ?_);clear hK K hHeld;refine lay ?_;refine zbb 9 (fun K hK => ?_);go_simp;refine Hhd.out.mono ?_;rintro e w8 ⟨rfl, hb8⟩;have kp8 := (hb8.cell (p := ⟨G, 0, none⟩) (by rw [World.size_alloc]; show G < _; have : wr.drew.heap.size = wr.heap.size := rfl; omega)).trans kp0';have hal8 : Below wr.heap.size wr w8 := Hal.out.trans (hb8.mono Hal.out.size);refine hK.out _ _ kp8 (fun hHeld3 => ?_);clear hK K hHeld2;refine lay ?_;refine zab 10 ?_;refine wpAnyH_done (by kernel_rfl) ?_ _;refine NoPanic.normal ?_;have hbe := Hbq.out.trans (hal8.mono Hbq.out.size);have hbe2 := Hbnd.out.trans (hal8.mono Hbnd.out.size);clear hHeld3 kp8 kp0' kp0 hb8 hal8
    cases bh
    ·have hs := Hbad.out rfl;obtain ⟨Hs, Hbe, Hbe2⟩ := hd3 hs hbe hbe2;clear hbe2 hbe hs;go_wp2_with fail;go_ret;rw [<- Hrv.out, Hs.out];exact ⟨rfl, Hbe2.out⟩
    ·have hs := Hstep.out rfl;obtain ⟨Hs, Hbe, Hbe2⟩ := hd3 hs hbe hbe2;clear hbe2 hbe hs;go_wp2_with fail;exact ⟨⟨j + 1, by omega, by go_num, Hbe.out, Lib.hid Hs.out⟩, by simp [intOf]; omega⟩
   ·have hheads : ∀ g ∈ gs, zca g bound = true := by
     rw [List.take_of_length_le (by rw [HZ.out]; omega)] at hall;exact hall.out
    have hr2 : (gs.all fun g => g.nodes.all (zbg gs g bound)) = r := by
     have h1 := Hr.out;rw [List.all_eq_true.2 hheads, Bool.true_and] at h1;exact h1
    have hjI : ¬ (j : Int) < Z := by omega
    have hpar : ∀ f ∈ gs, ∀ p ∈ f.params, 0 <= p /\ p < f.kinds.length := fun f hf => (zby (hheads f hf)).1
    have hpl : ∀ f ∈ gs, f.params.length <= 4 := fun f hf => (zby (hheads f hf)).2.1
    have hkl : ∀ f ∈ gs, f.kinds.length <= 1024 := fun f hf => (zby (hheads f hf)).2.2.1
    have hnl : ∀ f ∈ gs, f.nodes.length <= 4096 := fun f hf => (zby (hheads f hf)).2.2.2
    obtain ⟨Hheads, Hr2, Hpar, Hpl, Hkl, Hnl, Hbq, Hall⟩ := hd8 hheads hr2 hpar hpl hkl hnl hbq hall;obtain ⟨HAq, HPq, Hbnd⟩ := hd3 hAq hPq hbnd;clear hbnd hPq hAq hall hbq hnl hkl hpl hpar hr2 hheads;go_wp2_with fail;clear kp0
    go_loopw [57] (fun i wq => ∃ j : Nat, j <= Z /\ i = .int .i64 j /\ Below V.heap.size V wq /\ Hid (∀ g ∈ gs.take j, g.nodes.all (zbg gs g bound) = true)) (fun i _ => Z - (intOf i).toNat)
    case atStart => exact ⟨0, by omega, rfl, Hbq.out, (show ∀ g ∈ gs.take 0, g.nodes.all (zbg gs g bound) = true by simp)⟩
    case round =>
     obtain ⟨j2, hj2, rfl, hbq2, hall2⟩ := hrel;have hsq2 := hbq2.size;have hAq2 := HA.out.below (hbq2.mono hBV);have hPq2 := HP.out.below hbq2 hGV;have hbnd2 := Hb.out.trans (hbq2.mono Hb.out.size);have kp0 := bc hPq2 0
     by_cases hjZ2 : j2 < Z
     ·obtain ⟨g, hgj⟩ : ∃ g, gs[j2]? = some g := ⟨_, List.getElem?_eq_getElem (by rw [HZ.out]; exact hjZ2)⟩
      obtain ⟨ad', pv, kv, iv, nv, hadd, _, hM⟩ := hAq2.at_ hgj;injection hadd with hadd;subst hadd;have hgm := List.mem_of_getElem? hgj
      have hjI2 : (j2 : Int) < Z := by omega
      have hbx := Blk.new wr.drew 93 #[.slice (some ad) Z gc, .pointer (some (ad.add (j2 * 8))), .bool bound];have hal := (Below.refl wr.heap.size wr).drew.alloc (Nat.le_refl _) (.cells #[.slice (some ad) Z gc, .pointer (some (ad.add (j2 * 8))), .bool bound] 93)
      have hCk : Ck (wr.drew.alloc (.cells #[.slice (some ad) Z gc, .pointer (some (ad.add (j2 * 8))), .bool bound] 93)) B wr.heap.size (.slice (some ad) Z gc) gs (ad.add (j2 * 8)) g pv kv iv nv bound :=
       ⟨hbx, by omega, hAq2.below (hal.mono (by omega)), hM.below (hal.mono (by omega))⟩
      have kp0' := (hal.cell (p := ⟨G, 0, none⟩) (by show G < _; omega)).trans kp0;obtain ⟨W2, hW2⟩ := nm (wr.drew.alloc (.cells #[.slice (some ad) Z gc, .pointer (some (ad.add (j2 * 8))), .bool bound] 93));have hbq3 := hbq2.trans (hal.mono hsq2);have hbnd3 := hbnd2.trans (hal.mono hbnd2.size);rw [<- hW2] at hCk hal hbq3 hbnd3;obtain ⟨bh, hbh⟩ := mn (g.nodes.all (zbg gs g bound))
      have hstep : bh = true -> ∀ g' ∈ gs.take (j2 + 1), g'.nodes.all (zbg gs g' bound) = true := fun e g' hg' => by
       rw [List.take_add_one, hgj] at hg'
       rcases List.mem_append.1 hg' with h1 | h1
       ·exact hall2.out g' h1
       ·simp at h1; rw [h1, hbh, e]
      have hbad : bh = false -> r = false := fun e => by
       rw [<- Hr2.out]
       rcases hq : (gs.all fun g => g.nodes.all (zbg gs g bound)) with _ | _
       ·rfl
       ·rw [List.all_eq_true.1 hq g hgm] at hbh; rw [e] at hbh; cases hbh
      obtain ⟨NA, nn, nc, css, hnv, _, _, hnn, _⟩ := id hCk.gm.nodes;subst hnv;obtain ⟨cb, hcb⟩ := nm (wr.heap.size);have hn4 := Hnl.out g hgm;rw [hnn] at hn4;obtain ⟨Hbq2, Hall2, HAq2, HPq2, Hbnd2, Hgj, HM, Hgm⟩ := hd8 hbq2 hall2 hAq2 hPq2 hbnd2 hgj hM hgm;obtain ⟨Hbx, Hal, HCk, Hbh, Hstep, Hbad, HW2, Hbq3⟩ := hd8 hbx hal hCk hbh hstep hbad hW2 hbq3;obtain ⟨Hbnd3, Hnn⟩ := hd2 hbnd3 hnn;clear hnn hbnd3 hbq3 hW2 hbad hstep hbh hCk hal hbx hgm hM hgj hbnd2 hPq2 hAq2 hall2 hbq2;go_upto_region 12 with fail;refine wp_region_noPanic ?_;refine wp_region_held_drew (S := fun W => W.cell? ⟨G, 0, none⟩ = some (.slice (some ad) Z gc)) (by kernel_rfl) kp0 (fun hHeld => ?_);refine zab 0 ?_;refine zab 1 ?_;refine zab 2 ?_;refine zab 3 ?_;refine zab 4 ?_;refine zab 5 ?_;refine zab 6 ?_;refine zab 7 ?_;refine zbb 8 (fun K hK => ?_);go_simp;refine hK.out _ _ kp0' (fun hHeld2 => ?_);clear hK K hHeld;refine lay ?_;refine zab 9 ?_;refine wpAnyH_done (by kernel_rfl) ?_ _;refine NoPanic.normal ?_;clear hHeld2 kp0' kp0;have eW : (wr.alloc (.cells #[.slice (some ad) Z gc, .pointer (some (ad.add (j2 * 8))), .bool bound] 93)).drew = W2 := HW2.out.symm;rw [eW];have hCk := HCk.out;have ecb : wr.heap.size = cb := hcb.symm;rw [ecb];rw [<- hcb] at hCk;have kc1 := bc hCk.blk 1;have g6 := hCk.gm.c6;obtain ⟨HCK, HECB, Hcb, HEW⟩ := hd4 hCk ecb hcb eW;clear eW hcb ecb hCk;go_wp2_with fail;clear kc1 g6
      go_loopw [77] (fun i wq => ∃ k : Nat, k <= nn /\ i = .int .i64 k /\ Below W2.heap.size W2 wq /\ Hid (∀ x ∈ g.nodes.take k, zbg gs g bound x = true)) (fun i _ => nn - (intOf i).toNat)
      case atStart => exact ⟨0, by omega, rfl, Below.refl _ _, (show ∀ x ∈ g.nodes.take 0, zbg gs g bound x = true by simp)⟩
      case round =>
       obtain ⟨k, hk, rfl, hbq4, hall4⟩ := hrel;have hsq4 := hbq4.size;have hC4 := HCK.out.below hbq4;have hbnd4 := Hbnd3.out.trans (hbq4.mono Hbnd3.out.size);have hbq5 := Hbq3.out.trans (hbq4.mono Hbq3.out.size)
       by_cases hkn : k < nn
       ·obtain ⟨x, hxk⟩ : ∃ x, g.nodes[k]? = some x := ⟨_, List.getElem?_eq_getElem (by rw [Hnn.out]; exact hkn)⟩
        have hxm := List.mem_of_getElem? hxk;obtain ⟨nad, cs, hna, _, _, _, ⟨av, hcs, hav⟩, z0, nj⟩ := zaE.at_ hC4.gm.nodes hxk;subst hna hcs;obtain ⟨AA, aac, hava, _, _, _⟩ := hav.slice;subst hava;have n0 : wr.cell? (nad.add (k * 12)) = some (.int .u8 x.op) := z0 _ rfl;have n1 := nj 1 _ (by omega) rfl;have n2 := nj 2 _ (by omega) rfl;have n3 := nj 3 _ (by omega) rfl;have n4 := nj 4 _ (by omega) rfl;have n5 := nj 5 _ (by omega) rfl;have n6 := nj 6 _ (by omega) rfl;have n7 := nj 7 _ (by omega) rfl;have n8 := nj 8 _ (by omega) rfl;have n9 := nj 9 _ (by omega) rfl;have n10 := nj 10 _ (by omega) rfl;have n11 := nj 11 _ (by omega) rfl;clear nj z0
        have hkI : (k : Int) < nn := by omega
        obtain ⟨bn, hbn⟩ := mn (zbg gs g bound x)
        have hstep4 : bn = true -> ∀ y ∈ g.nodes.take (k + 1), zbg gs g bound y = true := fun e y hy => by
         rw [List.take_add_one, hxk] at hy
         rcases List.mem_append.1 hy with h1 | h1
         ·exact hall4.out y h1
         ·simp at h1; rw [h1, hbn, e]
        have hbad4 : bn = false -> r = false := fun e => Hbad.out (by
         rw [<- Hbh.out]
         rcases hq : g.nodes.all (zbg gs g bound) with _ | _
         ·rfl
         ·rw [List.all_eq_true.1 hq x hxm] at hbn; rw [e] at hbn; cases hbn)
        have hal4 := (Below.refl wr.heap.size wr).alloc (Nat.le_refl _) (.cells (zae x (.slice AA x.args.length aac)).toArray 55);have hPn := Blk.new wr 55 (zae x (.slice AA x.args.length aac)).toArray;have hC5 := hC4.below hal4;have hav5 := hav.below (hal4.mono (by have := hC4.le; have := hC4.blk.lt; omega));obtain ⟨G3, hG3⟩ := nm (wr.heap.size);have hbq6 := hbq4.trans (hal4.mono hsq4);have hbnd6 := hbnd4.trans (hal4.mono hbnd4.size);have hnd := zll hC5 Hpar.out (by rw [HZ.out]; omega) x (.slice AA x.args.length aac) B (by have := hC5.le; have := hC5.blk.lt; omega) hav5 (Hok.out.args g Hgm.out x hxm) Hpl.out Hkl.out;rw [hbn] at hnd;obtain ⟨W3, hW3⟩ := nm (wr.alloc (.cells (zae x (.slice AA x.args.length aac)).toArray 55));rw [<- hW3] at hPn hC5 hav5 hbq6 hbnd6 hnd;rw [<- hG3] at hPn
        have hrange : W3.rangeAt G3 0 (zae x (.slice AA x.args.length aac)) := fun j v hv => by
         rw [hPn.cell (0 + j), Nat.zero_add, List.getElem?_toArray];exact hv
        have hW3' : wr.alloc (.cells #[.int .u8 x.op, .int .u8 x.byo, .int .i64 x.d, .int .i64 x.e, .int .i64 x.a, .int .i64 x.b, .int .i64 x.f, .int .i64 x.cell, .int .u64 x.imm, .slice AA x.args.length aac, .int .i64 x.next, .int .i64 x.els] 55) = W3 := hW3.symm;obtain ⟨Hbq4, Hall4, HC4, Hbnd4, Hbq5, Hxk, Hxm, Hav⟩ := hd8 hbq4 hall4 hC4 hbnd4 hbq5 hxk hxm hav;obtain ⟨Hbn, Hstep4, Hbad4, Hal4, HPn, HC5, Hav5, Hbq6⟩ := hd8 hbn hstep4 hbad4 hal4 hPn hC5 hav5 hbq6;obtain ⟨Hbnd6, Hnd, HW3, Hrange, HW4, HG3⟩ := hd6 hbnd6 hnd hW3 hrange hW3' hG3;clear hG3 hW3' hrange hW3 hnd hbnd6 hbq6 hav5 hC5 hPn hal4 hbad4 hstep4 hbn hav hxm hxk hbq5 hbnd4 hC4 hall4 hbq4;go_upto_region 16 with fail;rw [HW4.out, <- HG3.out];clear n0 n1 n2 n3 n4 n5 n6 n7 n8 n9 n10 n11;go_wp2_with (refine wpList_load_mid rfl 55 _ rfl G3 0 rfl (zae x (.slice AA x.args.length aac)) _ Hrange.out Tryd.underlying55 rfl (by kernel_rfl) ?_);refine Hnd.out.mono ?_;rintro e w9 ⟨rfl, hb9⟩;have hbe := Hbq6.out.trans (hb9.mono Hbq6.out.size);have hbe2 := Hbnd6.out.trans (hb9.mono Hbnd6.out.size);clear hb9
        cases bn
        ·have hs := Hbad4.out rfl;obtain ⟨Hs, Hbe, Hbe2⟩ := hd3 hs hbe hbe2;clear hbe2 hbe hs;go_wp2_with fail;go_ret;rw [<- Hrv.out, Hs.out];exact ⟨rfl, Hbe2.out⟩
        ·have hs := Hstep4.out rfl;obtain ⟨Hs, Hbe, Hbe2⟩ := hd3 hs hbe hbe2;clear hbe2 hbe hs;go_wp2_with fail;exact ⟨⟨k + 1, by omega, by go_num, Hbe.out, Lib.hid Hs.out⟩, by simp [intOf]; omega⟩
       ·have hkI : ¬ (k : Int) < nn := by omega
        have hs := Hstep.out (by
         rw [<- Hbh.out];rw [List.take_of_length_le (by rw [Hnn.out]; omega)] at hall4
         exact List.all_eq_true.2 hall4.out)
        obtain ⟨Hs, Hbq4, Hall4, HC4, Hbnd4, Hbq5⟩ := hd6 hs hbq4 hall4 hC4 hbnd4 hbq5;clear hbq5 hbnd4 hC4 hall4 hbq4 hs;go_wp2_with fail;exact ⟨⟨j2 + 1, by omega, by go_num, Hbq5.out, Lib.hid Hs.out⟩, by simp [intOf]; omega⟩
     ·have hs : r = true := by
       rw [<- Hr2.out];rw [List.take_of_length_le (by rw [HZ.out]; omega)] at hall2;exact List.all_eq_true.2 hall2.out
      have hjI2 : ¬ (j2 : Int) < Z := by omega
      obtain ⟨Hs, Hbq2, Hall2, HAq2, HPq2, Hbnd2⟩ := hd6 hs hbq2 hall2 hAq2 hPq2 hbnd2;clear hbnd2 hPq2 hAq2 hall2 hbq2 hs;go_wp2_with fail;go_ret;rw [<- Hrv.out, Hs.out];exact ⟨rfl, Hbnd2.out⟩
end Go.Proofs.YtnfjjliiajaijaaDoor
