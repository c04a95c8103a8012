/- Part of the proof, named by its texts: FmU FmSm. No condition of its own. -/
import Derived.Test.YtnfjjliiajaijaaDoorPfAA
import Derived.Test.YtnfjjliiajaijaaDoorPfAV
import Derived.Test.YtnfjjliiajaijaaDoorPfAZ
import Derived.Test.YtnfjjliiajaijaaDoorPfAE
import Derived.Deep.RegionHeld3
import Derived.Deep.DeepCutAuto
set_option linter.unusedVariables false
set_option linter.unusedSimpArgs false
set_option maxRecDepth 100000
set_option maxHeartbeats 16000000
namespace Go.Proofs.YtnfjjliiajaijaaDoor
open Go.RowKit
theorem zhS {w : World} {B : Nat} {gsv : Value} {gs : List zad} (h : zaI w B gsv gs) (hB : B <= w.heap.size) (hns : ∀ g ∈ gs, g.nodes.length <= 1048576) (hal : ∀ g ∈ gs, ∀ x ∈ g.nodes, x.args.length * 8 <= 140737488351232) (hrl : ∀ g ∈ gs, ∀ x ∈ g.nodes, (zaT x).length <= 1048576) :
  Calls Tryd.prog 11 #[.agg #[gsv]] w fun e w' => e = .returned (.bool (gs.any zcA)) /\ Below w.heap.size w w' := by
 obtain ⟨iI, hiI, iz0, iz1, iz2⟩ := info_parts zdk;obtain ⟨Y, hY⟩ := mn (gs.any zcA);rw [hY];obtain ⟨A, c, rfl, hc1, hc2⟩ := h.slice;unfold maxLen at hc2;obtain ⟨Z, hZ⟩ := mn (gs.length);rw [hZ] at h hc1 ⊢;obtain ⟨G, hG⟩ := nm (w.heap.size);have hP := Blk.new w 24 #[.slice A Z c];have hb := (Below.refl w.heap.size w).alloc (Nat.le_refl _) (.cells #[.slice A Z c] 24);obtain ⟨V, hV⟩ := nm (w.alloc (.cells #[.slice A Z c] 24));rw [<- hV] at hP hb;rw [<- hG] at hP
 have hA : ∀ W, Below w.heap.size w W -> zaI W B (.slice A Z c) gs := fun W hW => h.below (hW.mono hB)
 obtain ⟨HP, Hb, HV, HG, HZ, HA, Hns, Hal⟩ := hd8 hP hb hV hG hZ hA hns hal;obtain ⟨Hrl, HY, H⟩ := hd3 hrl hY h;clear h hY hrl hal hns hA hZ hG hV hb hP;go_enter Tryd.func11, Tryd.ntmps11;go_upto_region 1 with fail;rw [<- HG.out, <- HV.out];have hQ := HP.out;have kp0 := bc hQ 0;have HQ := Lib.hid hQ;clear hQ;go_wp2_with fail;clear kp0
 go_loopg [13] Z (fun gk iv wr => ∃ j : Nat, j + gk = Z /\ iv = .int .i64 j /\ Hid ((gs.take j).any zcA = false) /\ Hid (Below w.heap.size w wr))
 case atStart => exact ⟨0, by omega, rfl, Lib.hid (by simp), Hb⟩
 case round =>
  obtain ⟨j, hj, rfl, hno, hbj⟩ := hrel
  by_cases hjZ : j < Z
  ·obtain ⟨g, hg⟩ : ∃ g, gs[j]? = some g := ⟨_, List.getElem?_eq_getElem (by rw [HZ.out]; exact hjZ)⟩
   have hgm := List.mem_of_getElem? hg;obtain ⟨ad, pv, kv, iv, nv, hAe, _, hM⟩ := (HA.out _ hbj.out).at_ hg;subst hAe;obtain ⟨PA, pn, pc, KA, kn, kc, IA, il, ic, NA, nn, nc, rfl, rfl, rfl, rfl, hpn, hkn, hil, hnn⟩ := hM.forms;have m0 := hM.c0;have m1 := hM.c1;have m2 := hM.c2;have m3 := hM.c3;have m4 := hM.c4;have m5 := hM.c5;have m6 := hM.c6;have m7 := hM.c7
   have hjI : (j : Int) < Z := by omega
   have hX := Blk.new wr 44 (zaH g (.slice PA pn pc) (.slice KA kn kc) (.slice IA il ic) (.slice NA nn nc)).toArray;have hba := hbj.out.alloc hbj.out.size (.cells (zaH g (.slice PA pn pc) (.slice KA kn kc) (.slice IA il ic) (.slice NA nn nc)).toArray 44);obtain ⟨T, hT⟩ := nm (wr.heap.size);obtain ⟨W1, hW1⟩ := nm (wr.alloc (.cells (zaH g (.slice PA pn pc) (.slice KA kn kc) (.slice IA il ic) (.slice NA nn nc)).toArray 44));rw [<- hW1] at hX hba;rw [<- hT] at hX;have hW1' := hW1.symm;simp only [zaH] at hX hW1'
   have hno2 : (gs.take (j + 1)).any zcA = zcA g := by
    rw [List.take_add_one, hg, Option.toList_some, List.any_append, hno.out]; simp
   obtain ⟨HM, Hpn, Hkn, Hil, Hnn, Hg, Hgm, Hno⟩ := hd8 hM hpn hkn hil hnn hg hgm hno;obtain ⟨Hbj, HX, Hba, HT, HW1, HW1E, Hno2⟩ := hd7 hbj hX hba hT hW1 hW1' hno2;clear hno2 hW1' hW1 hT hba hX hbj hno hgm hg hnn hil hkn hpn hM;go_upto_region 4 with fail;rw [HW1E.out, <- HT.out];clear m0 m1 m2 m3 m4 m5 m6 m7;have hXk := HX.out;have kx6 := bc hXk 6;have HXk := Lib.hid hXk;clear hXk;go_wp2_with fail;clear kx6
   obtain ⟨wa, rfl⟩ : ∃ x, x = wr := ⟨_, rfl⟩
   obtain ⟨ga, rfl⟩ : ∃ x, x = gk := ⟨_, rfl⟩
   go_loopg [20] nn (fun gk iv wr => ∃ i : Nat, i + gk = nn /\ iv = .int .i64 i /\ Hid ((g.nodes.take i).any zeF = false) /\ Hid (Below W1.heap.size W1 wr))
   case atStart => exact ⟨0, by omega, rfl, Lib.hid (by simp), Lib.hid (Below.refl _ _)⟩
   case round =>
    obtain ⟨i, hi, rfl, hni, hbi⟩ := hrel;have hbwi := Hba.out.trans (hbi.out.mono Hba.out.size)
    have hnnb : nn <= 1048576 := by rw [<- Hnn.out]; exact Hns.out g Hgm.out
    by_cases hin : i < nn
    ·obtain ⟨x, hx⟩ : ∃ x, g.nodes[i]? = some x := ⟨_, List.getElem?_eq_getElem (by rw [Hnn.out]; exact hin)⟩
     have hxm := List.mem_of_getElem? hx
     have hke : ∀ p : Addr, p.block < B -> wr.cell? p = wa.cell? p := fun _ hp => ((hbwi.mono hB).cell hp).trans ((Hbj.out.mono hB).cell hp).symm
     have hN9 := HM.out.nodes.keep hke (fun _ _ h => h.keep hke);obtain ⟨nad, cs, hna, _, _, _, ⟨av, hcs, hav⟩, z0, nj⟩ := zaE.at_ hN9 hx;subst hna hcs;obtain ⟨AA, aac, hava, _, _, _⟩ := hav.slice;subst hava;have n0 : wr.cell? (nad.add (i * 12)) = some (.int .u8 x.op) := z0 _ rfl;have n1 := nj 1 _ (by omega) rfl;have n2 := nj 2 _ (by omega) rfl;have n3 := nj 3 _ (by omega) rfl;have n4 := nj 4 _ (by omega) rfl;have n5 := nj 5 _ (by omega) rfl;have n6 := nj 6 _ (by omega) rfl;have n7 := nj 7 _ (by omega) rfl;have n8 := nj 8 _ (by omega) rfl;have n9 := nj 9 _ (by omega) rfl;have n10 := nj 10 _ (by omega) rfl;have n11 := nj 11 _ (by omega) rfl;clear nj z0;have hal4 := (Below.refl wr.heap.size wr).alloc (Nat.le_refl _) (.cells (zae x (.slice AA x.args.length aac)).toArray 55);have hPn := Blk.new wr 55 (zae x (.slice AA x.args.length aac)).toArray;obtain ⟨G3, hG3⟩ := nm (wr.heap.size);obtain ⟨W3, hW3⟩ := nm (wr.alloc (.cells (zae x (.slice AA x.args.length aac)).toArray 55));rw [<- hW3] at hPn hal4;rw [<- hG3] at hPn;have hW3' : wr.alloc (.cells #[.int .u8 x.op, .int .u8 x.byo, .int .i64 x.d, .int .i64 x.e, .int .i64 x.a, .int .i64 x.b, .int .i64 x.f, .int .i64 x.cell, .int .u64 x.imm, .slice AA x.args.length aac, .int .i64 x.next, .int .i64 x.els] 55) = W3 := hW3.symm;have hb3 := hbwi.trans (hal4.mono hbwi.size);have hEo := Blk.new W3 3 #[];have hbE := hb3.alloc hb3.size (.cells #[] 3);obtain ⟨E, hE⟩ := nm (W3.heap.size);obtain ⟨W4, hW4⟩ := nm (W3.alloc (.cells #[] 3));have hPn4 := hPn.alloc (.cells #[] 3);rw [<- hW4] at hEo hbE hPn4;rw [<- hE] at hEo
     have hrange : W4.rangeAt G3 0 (zae x (.slice AA x.args.length aac)) := fun j v hv => by
      rw [hPn4.cell (0 + j), Nat.zero_add, List.getElem?_toArray];exact hv
     have hav4 := hav.keep (w' := W4) fun p hp => (((hbE.mono hB).cell hp).trans ((hbwi.mono hB).cell hp).symm)
     have hrd := zg9 W4 x (.slice AA x.args.length aac) B (Nat.le_trans hB hbE.size) hav4 (by have := Hal.out g Hgm.out x hxm; omega)
     have hsn : (g.nodes.take (i + 1)).any zeF = zeF x := by
      rw [List.take_add_one, hx, Option.toList_some, List.any_append, hni.out]; simp
     have hbi0 := Lib.hid hbi.out;have hal4' := hal4;obtain ⟨Hx, Hxm, Hni, Hbi, Hbwi, Hal4', Hke, HN9⟩ := hd8 hx hxm hni hbi hbwi hal4' hke hN9;obtain ⟨Hav, Hal4, HPn, HG3, HW3, HW3E, Hb3, HEo⟩ := hd8 hav hal4 hPn hG3 hW3 hW3' hb3 hEo;obtain ⟨HbE, HE, HW4, HPn4, Hrange, Hav4, Hrd, Hsn⟩ := hd8 hbE hE hW4 hPn4 hrange hav4 hrd hsn;clear hsn hrd hav4 hrange hPn4 hW4 hE hbE hEo hb3 hW3' hW3 hG3 hPn hal4 hav hN9 hke hal4' hbwi hbi hni hxm hx;go_upto_region 7 with fail;rw [HW3E.out, <- HG3.out];clear n0 n1 n2 n3 n4 n5 n6 n7 n8 n9 n10 n11;obtain ⟨m1, hm1⟩ := mn ((zaT x).length);obtain ⟨m2, hm2⟩ := mn ((zaD x).length);have hm1s := Hrl.out g Hgm.out x Hxm.out;have hm2s := zeE x;rw [hm1] at hm1s;rw [hm2] at hm2s;obtain ⟨Hm1, Hm2⟩ := hd2 hm1 hm2;clear hm2 hm1;go_wp2_with (rw [<- HW4.out, <- HE.out]; refine wpList_load_mid rfl 55 _ rfl G3 0 rfl (zae x (.slice AA x.args.length aac)) _ Hrange.out Tryd.underlying55 rfl (by kernel_rfl) ?_);refine Hrd.out.mono ?_;rintro e w5 ⟨⟨v, rfl, hL⟩, hb5⟩;obtain ⟨RA, rc, rfl, hrc1, hrc2, hRr⟩ := hL;rw [Hm1.out] at hRr hrc1 ⊢;have hbw5 := HbE.out.trans (hb5.mono HbE.out.size);have hP5 := HPn4.out.below hb5 HPn4.out.lt;have hO5 : w5.ownsRow W3.heap.size 3 1 (.slice (some ⟨E, 0, none⟩) 0 0) 0 [] := zc3 (HEo.out.below hb5 HEo.out.lt) (by have := HE.out; omega) rfl rfl (by unfold maxLen; omega)
     have hz3 : W3.heap.size <= w5.heap.size := by
      have h1 := HEo.out.lt;have h2 := hb5.size;have h3 := HE.out
      omega
     have hb35 : Below W3.heap.size W3 w5 := by
      have h1 := (Below.refl W3.heap.size W3).alloc (Nat.le_refl _) (.cells #[] 3);rw [<- HW4.out] at h1;exact h1.trans (hb5.mono h1.size)
     obtain ⟨Hb5, HRr, Hbw5, HP5, HO5, Hb35⟩ := hd6 hb5 hRr hbw5 hP5 hO5 hb35;clear hb35 hO5 hP5 hbw5 hRr hb5
     go_upto_region 8 with (first
      | (at_builtin
         refine zau _ rfl (.tmp 24) (.tmp 26) _ rfl W3.heap.size 3 iI _ 1 8 Tryd.underlying40 hiI iz0 iz1 iz2 rfl (by omega) (.slice (some ⟨E, 0, none⟩) 0 0) 0 [] rfl HO5.out _ RA m1 rc ((zaT x).map (Value.int .i64)) rfl HRr.out ?c1 ?c2 ?c3 ?c4 ?_
         case c1 => exact zbW _ _
         case c2 => simp only [maxLen]; omega
         case c3 => omega
         case c4 => omega
         intro v6 w6 hown6 hg6 hat6;have hown6 := zdh hown6 rfl;obtain ⟨LA, lc, rfl, hlc1, hlc2, _⟩ := zak hown6;have Hown6 := Lib.hid hown6;have Hg6 := Lib.hid hg6;have Hat6 := Lib.hid hat6
         clear hown6 hg6 hat6))
     have hEG : E ≠ G3 := fun e => by
      have h1 := HPn.out.lt;have h2 := HE.out
      omega
     have hP6 := HP5.out.grown Hg6.out (fun e => by injection e with e; exact hEG e.symm);have hb36 := Hb35.out.grown Hg6.out Hb35.out.size (fun b e => (HO5.out.lt b e).1)
     have hrange6 : w6.rangeAt G3 0 (zae x (.slice AA x.args.length aac)) := fun j v hv => by
      rw [hP6.cell (0 + j), Nat.zero_add, List.getElem?_toArray];exact hv
     obtain ⟨HP6, Hb36, Hrange6⟩ := hd3 hP6 hb36 hrange6;clear hrange6 hb36 hP6;clear hEG;go_wp2_with (refine wpList_load_mid rfl 55 _ rfl G3 0 rfl (zae x (.slice AA x.args.length aac)) _ Hrange6.out Tryd.underlying55 rfl (by kernel_rfl) ?_);refine (zgx w6 x (.slice AA x.args.length aac)).mono ?_;rintro e w7 ⟨⟨v, rfl, hL⟩, hb7⟩;obtain ⟨WA, wc, rfl, hwc1, hwc2, hWr⟩ := hL;rw [Hm2.out] at hWr hwc1 ⊢;have hO7 := zaX Hown6.out (zah hb7 none) nofun;have hb37 := Hb36.out.trans (hb7.mono Hb36.out.size);have hz37 := hb37.size;obtain ⟨Hb7, HWr, HO7, Hb37⟩ := hd4 hb7 hWr hO7 hb37;clear hb37 hO7 hWr hb7
     go_upto_region 9 with (first
      | (at_builtin
         refine zau _ rfl (.tmp 28) (.tmp 30) _ rfl W3.heap.size 3 iI _ 1 8 Tryd.underlying40 hiI iz0 iz1 iz2 rfl (by omega) (.slice LA m1 lc) m1 _ rfl HO7.out _ WA m2 wc ((zaD x).map (Value.int .i64)) rfl HWr.out ?c1 ?c2 ?c3 ?c4 ?_
         case c1 => exact zbW _ _
         case c2 => simp only [maxLen]; omega
         case c3 => omega
         case c4 => omega
         intro v8 w8 hown8 hg8 hat8;obtain ⟨MA, mc, rfl, hmc1, hmc2, _⟩ := zak hown8;have Hown8 := Lib.hid hown8;have Hg8 := Lib.hid hg8;have Hat8 := Lib.hid hat8
         clear hown8 hg8 hat8))
     have hb38 := Hb37.out.grown Hg8.out hz37 (fun b e => (HO7.out.lt b e).1);have hbn := Hb3.out.trans (hb38.mono Hb3.out.size)
     have hb18 : Below W1.heap.size W1 w8 := by
      have h1 := hbi0.out.trans (Hal4'.out.mono hbi0.out.size);exact h1.trans (hb38.mono h1.size)
     have hown := Hown8.out;rw [<- List.map_append] at hown;obtain ⟨l, hl⟩ := mn (zaT x ++ zaD x);rw [hl] at hown;obtain ⟨m, hm⟩ := mn (m1 + m2);rw [hm] at hown hmc1 ⊢
     have hll : l.length = m := by rw [<- hl, List.length_append, Hm1.out, Hm2.out, hm]
     have hul : zeF x = l.any zfD := by unfold zeF; rw [hl]
     have hmm : (m : Int) <= 2097152 := by omega
     obtain ⟨Hb38, Hbn, Hb18, Hown, Hl, Hm, Hll, Hul⟩ := hd8 hb38 hbn hb18 hown hl hm hll hul;clear hul hll hm hl hown hb18 hbn hb38;clear Hown8;go_wp2_with fail
     obtain ⟨gi, rfl⟩ : ∃ x, x = gk := ⟨_, rfl⟩
     obtain ⟨wi, rfl⟩ : ∃ x, x = wr := ⟨_, rfl⟩
     go_loopg [34] m (fun gk iv wz => ∃ k : Nat, k + gk = m /\ iv = .int .i64 k /\ wz = w8 /\ Hid ((l.take k).any zfD = false))
     case atStart => exact ⟨0, by omega, rfl, rfl, Lib.hid (by simp)⟩
     case round =>
      obtain ⟨k, hk, rfl, hwz, hnk⟩ := hrel;subst hwz
      by_cases hkm : k < m
      ·obtain ⟨la, u, hAl, _, hu, hcu⟩ := (zal.of_own Hown.out).at_ hkm;subst hAl
       obtain ⟨p, hp⟩ : ∃ p, l[k]? = some p := ⟨_, List.getElem?_eq_getElem (by rw [Hll.out]; exact hkm)⟩
       have hu2 : u = .int .i64 p := by
        rw [List.getElem?_map, hp] at hu;injection hu with hu;exact hu.symm
       subst hu2
       have hkI : (k : Int) < m := by omega
       by_cases hp1 : 13 <= p /\ p <= 15
       ·obtain ⟨hp13, hp16⟩ := hp1
        have hyes : Y = true := by
         rw [<- HY.out, List.any_eq_true];refine ⟨g, Hgm.out, ?_⟩;unfold zcA;rw [List.any_eq_true];refine ⟨x, Hxm.out, ?_⟩;rw [Hul.out, List.any_eq_true];exact ⟨p, List.mem_of_getElem? hp, by unfold zfD; simp; omega⟩
        obtain ⟨Hp, Hu, Hyes⟩ := hd3 hp hu hyes;clear hyes hu hp;go_wp2_with fail;go_ret;rw [Hyes.out];exact ⟨rfl, Hbn.out⟩
       ·have hnk2 : (l.take (k + 1)).any zfD = false := by
         rw [List.take_add_one, hp, Option.toList_some, List.any_append, hnk.out];unfold zfD
         simp; omega
        by_cases hp13 : 13 <= p
        ·have hp15 : ¬ p <= 15 := by omega
         obtain ⟨Hp, Hu, Hnk2, Hnk⟩ := hd4 hp hu hnk2 hnk;clear hnk hnk2 hu hp;clear hp1;go_wp2_with fail
         go_roundg (gk - 1)
         case measure => omega
         case rel => exact ⟨k + 1, by omega, by go_num, rfl, Hnk2⟩
        ·obtain ⟨Hp, Hu, Hnk2, Hnk⟩ := hd4 hp hu hnk2 hnk;clear hnk hnk2 hu hp;clear hp1;go_wp2_with fail
         go_roundg (gk - 1)
         case measure => omega
         case rel => exact ⟨k + 1, by omega, by go_num, rfl, Hnk2⟩
      ·obtain rfl : m = k := by omega
       have hkI : ¬ (m : Int) < m := by omega
       have hnn2 : (g.nodes.take (i + 1)).any zeF = false := by
        have := hnk.out;rw [List.take_of_length_le (by rw [Hll.out]; omega)] at this;rw [Hsn.out, Hul.out, this]
       obtain ⟨Hnk, Hnn2⟩ := hd2 hnk hnn2;clear hnn2 hnk;go_wp2_with fail
       go_roundg (gi - 1)
       case measure => omega
       case rel => exact ⟨i + 1, by omega, by go_num, Hnn2, Hb18⟩
    ·obtain rfl : nn = i := by omega
     have hiI : ¬ (nn : Int) < nn := by omega
     have hn2 : (gs.take (j + 1)).any zcA = false := by
      rw [Hno2.out];unfold zcA;have := hni.out
      rwa [List.take_of_length_le (by rw [Hnn.out]; omega)] at this
     obtain ⟨Hni, Hn2, Hbi, Hbwi⟩ := hd4 hni hn2 hbi hbwi;clear hbwi hbi hn2 hni;go_wp2_with fail
     go_roundg (ga - 1)
     case measure => omega
     case rel => exact ⟨j + 1, by omega, by go_num, Hn2, Hbwi⟩
  ·obtain rfl : Z = j := by omega
   have hjI : ¬ (Z : Int) < Z := by omega
   have hnone : false = Y := by
    have := hno.out;rw [List.take_of_length_le (by rw [HZ.out]; omega)] at this;rw [<- HY.out, this]
   obtain ⟨Hno, Hnone, Hbj⟩ := hd3 hno hnone hbj;clear hbj hnone hno;go_wp2_with fail;go_ret;rw [<- Hnone.out];exact ⟨rfl, Hbj.out⟩
theorem zhU (w : World) (x : zam) (av av2 : Value) (B : Nat) (hB : B <= w.heap.size) (h1 : zaO .i64 w B av x.args) (h2 : zaO .i64 w B av2 x.args) :
  Calls Tryd.prog 24 #[.agg (zae x av).toArray, .agg (zae x av2).toArray] w fun e w' => e = .returned (.bool true) /\ Below w.heap.size w w' := by
 obtain ⟨op, byo, d, e_, a, b, f, cell, imm, args, next, els⟩ := x;simp only at h1 h2;obtain ⟨AA, ac, rfl, hc1, hc2, _⟩ := h1.slice;obtain ⟨AA2, ac2, rfl, hd1, hd2, _⟩ := h2.slice;obtain ⟨m, hm⟩ := mn (args.length);rw [hm] at h1 h2 hc1 hd1;simp only [zae, hm];obtain ⟨NC, hNC⟩ := nm (#[.int .u8 op, .int .u8 byo, .int .i64 d, .int .i64 e_, .int .i64 a, .int .i64 b, .int .i64 f, .int .i64 cell, .int .u64 imm, .slice AA m ac, .int .i64 next, .int .i64 els] : Array Value);obtain ⟨ND, hND⟩ := nm (#[.int .u8 op, .int .u8 byo, .int .i64 d, .int .i64 e_, .int .i64 a, .int .i64 b, .int .i64 f, .int .i64 cell, .int .u64 imm, .slice AA2 m ac2, .int .i64 next, .int .i64 els] : Array Value);rw [<- hNC, <- hND];have hb := ((Below.refl w.heap.size w).alloc (Nat.le_refl _) (.cells NC 55)).alloc (by simp) (.cells ND 55);have hx := h1.below (hb.mono hB);have hy := h2.below (hb.mono hB);have hcon := zdz _ _ _ _ _ B B hx hy;rw [show decide (args = args) = true from decide_eq_true rfl] at hcon
 have hNs : NC.size = 12 := by rw [hNC]; rfl
 have hDs : ND.size = 12 := by rw [hND]; rfl
 have kn0 : NC[0]? = some (.int .u8 op) := by rw [hNC]; rfl
 have kd0 : ND[0]? = some (.int .u8 op) := by rw [hND]; rfl
 have kn1 : NC[1]? = some (.int .u8 byo) := by rw [hNC]; rfl
 have kd1 : ND[1]? = some (.int .u8 byo) := by rw [hND]; rfl
 have kn2 : NC[2]? = some (.int .i64 d) := by rw [hNC]; rfl
 have kd2 : ND[2]? = some (.int .i64 d) := by rw [hND]; rfl
 have kn3 : NC[3]? = some (.int .i64 e_) := by rw [hNC]; rfl
 have kd3 : ND[3]? = some (.int .i64 e_) := by rw [hND]; rfl
 have kn4 : NC[4]? = some (.int .i64 a) := by rw [hNC]; rfl
 have kd4 : ND[4]? = some (.int .i64 a) := by rw [hND]; rfl
 have kn5 : NC[5]? = some (.int .i64 b) := by rw [hNC]; rfl
 have kd5 : ND[5]? = some (.int .i64 b) := by rw [hND]; rfl
 have kn6 : NC[6]? = some (.int .i64 f) := by rw [hNC]; rfl
 have kd6 : ND[6]? = some (.int .i64 f) := by rw [hND]; rfl
 have kn7 : NC[7]? = some (.int .i64 cell) := by rw [hNC]; rfl
 have kd7 : ND[7]? = some (.int .i64 cell) := by rw [hND]; rfl
 have kn8 : NC[8]? = some (.int .u64 imm) := by rw [hNC]; rfl
 have kd8 : ND[8]? = some (.int .u64 imm) := by rw [hND]; rfl
 have kn10 : NC[10]? = some (.int .i64 next) := by rw [hNC]; rfl
 have kd10 : ND[10]? = some (.int .i64 next) := by rw [hND]; rfl
 have kn11 : NC[11]? = some (.int .i64 els) := by rw [hNC]; rfl
 have kd11 : ND[11]? = some (.int .i64 els) := by rw [hND]; rfl
 have kn9 : NC[9]? = some (.slice AA m ac) := by rw [hNC]; rfl
 have kd9 : ND[9]? = some (.slice AA2 m ac2) := by rw [hND]; rfl
 obtain ⟨Hb, HNC, HND, HNs, HDs, Hcon, Hx, Hy⟩ := hd8 hb hNC hND hNs hDs hcon hx hy;obtain ⟨H1, H2, Hm⟩ := hd3 h1 h2 hm;clear hm h2 h1 hy hx hcon hDs hNs hND hNC hb;go_enter Tryd.func24, Tryd.ntmps24;go_wp2_with fail;refine Hcon.out.mono ?_;rintro e w' ⟨rfl, q, rfl⟩;go_wp2_with fail;go_ret;exact ⟨rfl, below_drewN Hb.out _⟩
theorem zhT (v1 v2 : Value) (gs : List zad) (w : World) (B : Nat) (hB : B <= w.heap.size) (h1 : zaI w B v1 gs) (h2 : zaI w B v2 gs) :
  Calls Tryd.prog 9 #[.agg #[v1], .agg #[v2]] w fun e w' => e = .returned (.bool true) /\ Below w.heap.size w w' := by
 obtain ⟨A, c, rfl, hc1, hc2⟩ := h1.slice;obtain ⟨A', c', rfl, hc1', hc2'⟩ := h2.slice;obtain ⟨n, hl⟩ := mn (gs.length);rw [hl] at h1 h2 hc1 hc1' ⊢;unfold maxLen at hc2 hc2';have hbb : Below w.heap.size w ((w.alloc (.cells #[.slice A n c] 24)).alloc (.cells #[.slice A' n c'] 24)) := ((Below.refl _ _).alloc (Nat.le_refl _) _).alloc (by simp) _;have hP := (Blk.new w 24 #[.slice A n c]).alloc (.cells #[.slice A' n c'] 24);have hQ := Blk.new (w.alloc (.cells #[.slice A n c] 24)) 24 #[.slice A' n c'];rw [World.size_alloc] at hQ;generalize hWW : (w.alloc (.cells #[.slice A n c] 24)).alloc (.cells #[.slice A' n c'] 24) = WW at hbb hP hQ;obtain ⟨Hl, Hbb, HP, HQ, HG1, HG2⟩ := hd6 hl hbb hP hQ h1 h2;clear h2 h1 hQ hP hbb hl;have HWW := Lib.hid hWW;clear hWW;go_enter Tryd.func9, Tryd.ntmps9;go_wp2_with fail;rw [HWW.out]
 go_loopw [19] (fun i wr => ∃ j : Nat, j <= n /\ i = .int .i64 j /\ Below w.heap.size w wr /\ Blk wr w.heap.size 24 #[.slice A n c] /\ Blk wr (w.heap.size + 1) 24 #[.slice A' n c']) (fun i _ => n - (intOf i).toNat)
 case atStart => exact ⟨0, by omega, rfl, Hbb.out, HP.out, HQ.out⟩
 case round =>
  obtain ⟨j, hj, rfl, hbw, hP1, hQ1⟩ := hrel
  by_cases hlt : j < n
  ·have hsz := hbw.size;have hQlt := hQ1.lt
   obtain ⟨g, hgk⟩ : ∃ g, gs[j]? = some g := ⟨_, List.getElem?_eq_getElem (by have := Hl.out; omega)⟩
   obtain ⟨ad, pv, kv, iv, nv, hadd, _, hM⟩ := (HG1.out.below (hbw.mono hB)).at_ hgk;obtain ⟨ad', pv', kv', iv', nv', hadd', _, hM'⟩ := (HG2.out.below (hbw.mono hB)).at_ hgk;subst hadd hadd';obtain ⟨PA, pn, pc, KA, kn, kc, IA, il, ic, NA, nn, nc, rfl, rfl, rfl, rfl, hpn, hkn, hil, hnn⟩ := hM.forms;obtain ⟨PA', pn', pc', KA', kn', kc', IA', il', ic', NA', nn', nc', rfl, rfl, rfl, rfl, hpn', hkn', hil', hnn'⟩ := hM'.forms
   have e8 : nn = nn' := by omega
   have e9 : pn = pn' := by omega
   have e10 : kn = kn' := by omega
   have e11 : il = il' := by omega
   subst e8 e9 e10 e11
   have hnb : nn <= 9223372036854775807 := by
    obtain ⟨_, _, _, _, e, h1, h2, _⟩ := hM'.nodes;injection e with _ e2 e3;unfold maxLen at h2; omega
   have g0 := hM.c0;have g1 := hM.c1;have g2 := hM.c2;have g3 := hM.c3;have g4 := hM.c4;have g5 := hM.c5;have g6 := hM.c6;have g7 := hM.c7;have k0 := hM'.c0;have k1 := hM'.c1;have k2 := hM'.c2;have k3 := hM'.c3;have k4 := hM'.c4;have k5 := hM'.c5;have k6 := hM'.c6;have k7 := hM'.c7
   have i0 : (0 : Int) <= (j : Int) := by omega
   have i1 : (j : Int) < (n : Int) := by omega
   have l1 := hM.lt;have l2 := hM'.lt
   have n1 : wr.heap.size ≠ (ad.add (j * 8)).block := by omega
   have n2 : wr.heap.size + 1 ≠ (ad.add (j * 8)).block := by omega
   have n3 : wr.heap.size ≠ (ad'.add (j * 8)).block := by omega
   have n4 : wr.heap.size + 1 ≠ (ad'.add (j * 8)).block := by omega
   have n5 : wr.heap.size ≠ w.heap.size := by omega
   have n6 : wr.heap.size + 1 ≠ w.heap.size := by omega
   have n7 : wr.heap.size ≠ w.heap.size + 1 := by omega
   have n8 : wr.heap.size + 1 ≠ w.heap.size + 1 := by omega
   have kp0 := bc hP1 0;have kq0 := bc hQ1 0;obtain ⟨Hbw, HP1, HQ1, Hgk, HM, HM', Hpn, Hkn⟩ := hd8 hbw hP1 hQ1 hgk hM hM' hpn hkn;obtain ⟨Hil, Hnn, Hpn', Hkn', Hil', Hnn'⟩ := hd6 hil hnn hpn' hkn' hil' hnn';clear hnn' hil' hkn' hpn' hnn hil hkn hpn hM' hM hgk hQ1 hP1 hbw;clear l1 l2;go_upto_region 6 with fail
   go_cut [6, 7] (fun a b wx => ∃ g6 g7, a = .pointer (some ⟨g6, 0, none⟩) /\ b = .pointer (some ⟨g7, 0, none⟩) /\ Blk wx g6 44 #[.slice PA pn pc, .slice KA kn kc, .int .i64 g.cells, .slice IA il ic, .bool g.result, .int .i64 g.keep, .slice NA nn nc, .int .i64 g.entry] /\ Blk wx g7 44 #[.slice PA' pn pc', .slice KA' kn kc', .int .i64 g.cells, .slice IA' il ic', .bool g.result, .int .i64 g.keep, .slice NA' nn nc', .int .i64 g.entry] /\ Below wr.heap.size wr wx)
   case first =>
    as_aux_lemma =>
    go_region_held3 (fun W => W.cell? ⟨w.heap.size, 0, none⟩ = some (.slice (some ad) n c) /\ W.cell? ⟨w.heap.size + 1, 0, none⟩ = some (.slice (some ad') n c') /\ W.cell? (ad.add (j * 8)) = some (.slice PA pn pc) /\ W.cell? ⟨(ad.add (j * 8)).block, (ad.add (j * 8)).off + 1, none⟩ = some (.slice KA kn kc) /\ W.cell? ⟨(ad.add (j * 8)).block, (ad.add (j * 8)).off + 2, none⟩ = some (.int .i64 g.cells) /\ W.cell? ⟨(ad.add (j * 8)).block, (ad.add (j * 8)).off + 3, none⟩ = some (.slice IA il ic) /\ W.cell? ⟨(ad.add (j * 8)).block, (ad.add (j * 8)).off + 4, none⟩ = some (.bool g.result) /\ W.cell? ⟨(ad.add (j * 8)).block, (ad.add (j * 8)).off + 5, none⟩ = some (.int .i64 g.keep) /\ W.cell? ⟨(ad.add (j * 8)).block, (ad.add (j * 8)).off + 6, none⟩ = some (.slice NA nn nc) /\ W.cell? ⟨(ad.add (j * 8)).block, (ad.add (j * 8)).off + 7, none⟩ = some (.int .i64 g.entry)
     /\ W.cell? (ad'.add (j * 8)) = some (.slice PA' pn pc') /\ W.cell? ⟨(ad'.add (j * 8)).block, (ad'.add (j * 8)).off + 1, none⟩ = some (.slice KA' kn kc') /\ W.cell? ⟨(ad'.add (j * 8)).block, (ad'.add (j * 8)).off + 2, none⟩ = some (.int .i64 g.cells) /\ W.cell? ⟨(ad'.add (j * 8)).block, (ad'.add (j * 8)).off + 3, none⟩ = some (.slice IA' il ic') /\ W.cell? ⟨(ad'.add (j * 8)).block, (ad'.add (j * 8)).off + 4, none⟩ = some (.bool g.result) /\ W.cell? ⟨(ad'.add (j * 8)).block, (ad'.add (j * 8)).off + 5, none⟩ = some (.int .i64 g.keep) /\ W.cell? ⟨(ad'.add (j * 8)).block, (ad'.add (j * 8)).off + 6, none⟩ = some (.slice NA' nn nc') /\ W.cell? ⟨(ad'.add (j * 8)).block, (ad'.add (j * 8)).off + 7, none⟩ = some (.int .i64 g.entry)) (go_keep) (fail)
    all_goals
     go_wp2_with fail;go_meet
     first
      | exact ⟨_, _, rfl, rfl, ((Blk.new wr _ _).alloc _).drew, (Blk.new2 wr _ _ _).drew, (((Below.refl _ _).alloc (Nat.le_refl _) _).alloc (by simp) _).drew⟩
      | exact ⟨_, _, rfl, rfl, (Blk.new2 wr _ _ _).drew, ((Blk.new wr _ _).alloc _).drew, (((Below.refl _ _).alloc (Nat.le_refl _) _).alloc (by simp) _).drew⟩
   case rest =>
    obtain ⟨GF, GG, rfl, rfl, hF6, hG7, hbc⟩ := hcut;have hBr : B <= wr.heap.size := Nat.le_trans hB hsz;have hbwc := Hbw.out.trans (hbc.mono hsz);have hP2 := HP1.out.below hbc (by omega);have hQ2 := HQ1.out.below hbc hQlt;have hMc := HM.out.below (hbc.mono hBr);have hMc' := HM'.out.below (hbc.mono hBr);have y0 := bc hF6 0;have y1 := bc hF6 1;have y2 := bc hF6 2;have y3 := bc hF6 3;have y4 := bc hF6 4;have y5 := bc hF6 5;have y6 := bc hF6 6;have y7 := bc hF6 7;have z0 := bc hG7 0;have z1 := bc hG7 1;have z2 := bc hG7 2;have z3 := bc hG7 3;have z4 := bc hG7 4;have z5 := bc hG7 5;have z6 := bc hG7 6;have z7 := bc hG7 7;have h6l := hF6.lt;have h7l := hG7.lt;have hBc : B <= wc.heap.size := Nat.le_trans hBr hbc.size;have hc1 := zdz _ _ _ _ wc B B hMc.params hMc'.params;rw [show decide (g.params = g.params) = true from decide_eq_true rfl] at hc1;obtain ⟨HF6, HG7, Hbwc, HP2, HQ2, HMc, HMc', Hc1⟩ := hd8 hF6 hG7 hbwc hP2 hQ2 hMc hMc' hc1;clear hc1 hMc' hMc hQ2 hP2 hbwc hG7 hF6;clear hbc g0 g1 g2 g3 g4 g5 g6 g7 k0 k1 k2 k3 k4 k5 k6 k7 n1 n2 n3 n4 n5 n6 n7 n8 kp0 kq0;go_wp2_with fail;refine Hc1.out.mono ?_;rintro e w1 ⟨rfl, q1, rfl⟩;have hc2 := zgw _ _ _ _ (wc.drewN q1) B B (show zaO .u8 wc B _ _ from HMc.out.kinds) (show zaO .u8 wc B _ _ from HMc'.out.kinds);rw [show decide (g.kinds = g.kinds) = true from decide_eq_true rfl] at hc2;have Hc2 := Lib.hid hc2;clear hc2;go_wp2_with fail;refine Hc2.out.mono ?_;rintro e w1 ⟨rfl, q2, rfl⟩;have hc3 := zdz _ _ _ _ (wc.drewN (q1 + q2)) B B (show zaO .i64 wc B _ _ from HMc.out.init) (show zaO .i64 wc B _ _ from HMc'.out.init);rw [show decide (g.init = g.init) = true from decide_eq_true rfl] at hc3;have Hc3 := Lib.hid hc3;clear hc3;go_wp2_with fail;refine Hc3.out.mono ?_;rintro e w1 ⟨rfl, q3, rfl⟩;obtain ⟨br, hbr⟩ := mn (g.result);rw [hbr] at y4 z4;have Hbr := Lib.hid hbr;clear hbr
    have hbb2 : (br == br) = true := by simp
    go_wp2_with fail;clear y0 y1 y2 y3 y4 y5 y6 y7 z0 z1 z2 z3 z4 z5 z6 z7;obtain ⟨W3, hW3⟩ := nm (wc.drewN (q1 + q2 + q3))
    have hwd : Below wc.heap.size wc W3 := by rw [hW3]; exact below_drewN (Below.refl _ _) _
    rw [<- hW3];obtain ⟨Hwd, HW3⟩ := hd2 hwd hW3;clear hW3 hwd
    go_loopw [94] (fun i wq => ∃ k : Nat, k <= nn /\ i = .int .i64 k /\ Below W3.heap.size W3 wq) (fun i _ => nn - (intOf i).toNat)
    case atStart => exact ⟨0, by omega, rfl, Below.refl _ _⟩
    case round =>
     obtain ⟨k, hk, rfl, hbk⟩ := hrel;have hbk1 := Hwd.out.trans (hbk.mono Hwd.out.size);have hbk2 := Hbwc.out.trans (hbk1.mono Hbwc.out.size);have hF9 := HF6.out.below hbk1 h6l;have hG9 := HG7.out.below hbk1 h7l
     by_cases hlt2 : k < nn
     ·as_aux_lemma =>
      have hMk := HMc.out.below (hbk1.mono hBc);have hMk' := HMc'.out.below (hbk1.mono hBc)
      obtain ⟨x, hxk⟩ : ∃ x, g.nodes[k]? = some x := ⟨_, List.getElem?_eq_getElem (by rw [Hnn.out]; exact hlt2)⟩
      obtain ⟨nad, cs, hna, hnlt, _, _, ⟨av, hcs, hav⟩, z0, nj⟩ := zaE.at_ hMk.nodes hxk;obtain ⟨nad', cs', hna', hnlt', _, _, ⟨av', hcs', hav'⟩, z0', nj'⟩ := zaE.at_ hMk'.nodes hxk;subst hna hcs hna' hcs';obtain ⟨AA, aac, hava, _, _, _⟩ := hav.slice;obtain ⟨AA', aac', hava', _, _, _⟩ := hav'.slice;subst hava hava';have u0 : wr.cell? (nad.add (k * 12)) = some (.int .u8 x.op) := z0 _ rfl;have v0 : wr.cell? (nad'.add (k * 12)) = some (.int .u8 x.op) := z0' _ rfl;have u1 := nj 1 _ (by omega) rfl;have v1 := nj' 1 _ (by omega) rfl;have u2 := nj 2 _ (by omega) rfl;have v2 := nj' 2 _ (by omega) rfl;have u3 := nj 3 _ (by omega) rfl;have v3 := nj' 3 _ (by omega) rfl;have u4 := nj 4 _ (by omega) rfl;have v4 := nj' 4 _ (by omega) rfl;have u5 := nj 5 _ (by omega) rfl;have v5 := nj' 5 _ (by omega) rfl;have u6 := nj 6 _ (by omega) rfl;have v6 := nj' 6 _ (by omega) rfl;have u7 := nj 7 _ (by omega) rfl;have v7 := nj' 7 _ (by omega) rfl;have u8 := nj 8 _ (by omega) rfl;have v8 := nj' 8 _ (by omega) rfl;have u9 := nj 9 _ (by omega) rfl;have v9 := nj' 9 _ (by omega) rfl;have u10 := nj 10 _ (by omega) rfl;have v10 := nj' 10 _ (by omega) rfl;have u11 := nj 11 _ (by omega) rfl;have v11 := nj' 11 _ (by omega) rfl;clear z0 nj z0' nj';have y6 := bc hF9 6;have z6 := bc hG9 6
      have j1 : (k : Int) < (nn : Int) := by omega
      have j0 : (0 : Int) <= (k : Int) := by omega
      have hsk := hbk1.size;have hcn := zhU wr.drew x (.slice AA x.args.length aac) (.slice AA' x.args.length aac') B (Nat.le_trans hBc hsk) hav hav'
      have hLn : (nad.add (k * 12)).block < wr.heap.size := by rw [block_add]; omega
      have hLn' : (nad'.add (k * 12)).block < wr.heap.size := by rw [block_add]; omega
      have hL6 : GF < wr.heap.size := hF9.lt;have hL7 : GG < wr.heap.size := hG9.lt;obtain ⟨HMk, HMk', Hxk, Hav, Hav', HF9, HG9, Hbk1⟩ := hd8 hMk hMk' hxk hav hav' hF9 hG9 hbk1;obtain ⟨Hbk2, Hcn, Hbk⟩ := hd3 hbk2 hcn hbk;clear hbk hcn hbk2 hbk1 hG9 hF9 hav' hav hxk hMk' hMk;go_upto_region 12 with fail;refine wp_region_noPanic ?_;refine wp_region_held_drew (S := fun W => W.cell? ⟨GF, 6, none⟩ = some (.slice (some nad) nn nc) /\ W.cell? ⟨GG, 6, none⟩ = some (.slice (some nad') nn nc') /\ W.cell? (nad.add (k * 12)) = some (.int .u8 x.op) /\ W.cell? (nad'.add (k * 12)) = some (.int .u8 x.op) /\ W.cell? ⟨(nad.add (k * 12)).block, (nad.add (k * 12)).off + 1, none⟩ = some (.int .u8 x.byo) /\ W.cell? ⟨(nad.add (k * 12)).block, (nad.add (k * 12)).off + 2, none⟩ = some (.int .i64 x.d) /\ W.cell? ⟨(nad.add (k * 12)).block, (nad.add (k * 12)).off + 3, none⟩ = some (.int .i64 x.e) /\ W.cell? ⟨(nad.add (k * 12)).block, (nad.add (k * 12)).off + 4, none⟩ = some (.int .i64 x.a) /\ W.cell? ⟨(nad.add (k * 12)).block, (nad.add (k * 12)).off + 5, none⟩ = some (.int .i64 x.b) /\ W.cell? ⟨(nad.add (k * 12)).block, (nad.add (k * 12)).off + 6, none⟩ = some (.int .i64 x.f) /\ W.cell? ⟨(nad.add (k * 12)).block, (nad.add (k * 12)).off + 7, none⟩ = some (.int .i64 x.cell) /\ W.cell? ⟨(nad.add (k * 12)).block, (nad.add (k * 12)).off + 8, none⟩ = some (.int .u64 x.imm) /\ W.cell? ⟨(nad.add (k * 12)).block, (nad.add (k * 12)).off + 9, none⟩ = some (.slice AA x.args.length aac) /\ W.cell? ⟨(nad.add (k * 12)).block, (nad.add (k * 12)).off + 10, none⟩ = some (.int .i64 x.next) /\ W.cell? ⟨(nad.add (k * 12)).block, (nad.add (k * 12)).off + 11, none⟩ = some (.int .i64 x.els) /\ W.cell? ⟨(nad'.add (k * 12)).block, (nad'.add (k * 12)).off + 1, none⟩ = some (.int .u8 x.byo) /\ W.cell? ⟨(nad'.add (k * 12)).block, (nad'.add (k * 12)).off + 2, none⟩ = some (.int .i64 x.d) /\ W.cell? ⟨(nad'.add (k * 12)).block, (nad'.add (k * 12)).off + 3, none⟩ = some (.int .i64 x.e) /\ W.cell? ⟨(nad'.add (k * 12)).block, (nad'.add (k * 12)).off + 4, none⟩ = some (.int .i64 x.a) /\ W.cell? ⟨(nad'.add (k * 12)).block, (nad'.add (k * 12)).off + 5, none⟩ = some (.int .i64 x.b) /\ W.cell? ⟨(nad'.add (k * 12)).block, (nad'.add (k * 12)).off + 6, none⟩ = some (.int .i64 x.f) /\ W.cell? ⟨(nad'.add (k * 12)).block, (nad'.add (k * 12)).off + 7, none⟩ = some (.int .i64 x.cell) /\ W.cell? ⟨(nad'.add (k * 12)).block, (nad'.add (k * 12)).off + 8, none⟩ = some (.int .u64 x.imm) /\ W.cell? ⟨(nad'.add (k * 12)).block, (nad'.add (k * 12)).off + 9, none⟩ = some (.slice AA' x.args.length aac') /\ W.cell? ⟨(nad'.add (k * 12)).block, (nad'.add (k * 12)).off + 10, none⟩ = some (.int .i64 x.next) /\ W.cell? ⟨(nad'.add (k * 12)).block, (nad'.add (k * 12)).off + 11, none⟩ = some (.int .i64 x.els)) (by kernel_rfl) ⟨y6, z6, u0, v0, u1, u2, u3, u4, u5, u6, u7, u8, u9, u10, u11, v1, v2, v3, v4, v5, v6, v7, v8, v9, v10, v11⟩ (fun hHeld => ?_);refine zab 0 ?_;refine zab 1 ?_;refine zab 2 ?_;refine zab 3 ?_;refine zab 4 ?_;refine zab 5 ?_;refine zab 6 ?_;refine zab 7 ?_;refine zab 8 ?_;refine zab 9 ?_;refine zbb 10 (fun K hK => ?_);go_simp;refine Hcn.out.mono ?_;rintro e w9 ⟨rfl, hb9⟩;have hb9' : Below wr.heap.size wr w9 := (Below.refl wr.heap.size wr).drew.trans hb9;refine hK.out _ _ ⟨(hb9.cell (p := ⟨GF, 6, none⟩) hL6).trans y6, (hb9.cell (p := ⟨GG, 6, none⟩) hL7).trans z6, (hb9.cell (p := nad.add (k * 12)) hLn).trans u0, (hb9.cell (p := nad'.add (k * 12)) hLn').trans v0, (hb9.cell (p := ⟨(nad.add (k * 12)).block, (nad.add (k * 12)).off + 1, none⟩) hLn).trans u1, (hb9.cell (p := ⟨(nad.add (k * 12)).block, (nad.add (k * 12)).off + 2, none⟩) hLn).trans u2, (hb9.cell (p := ⟨(nad.add (k * 12)).block, (nad.add (k * 12)).off + 3, none⟩) hLn).trans u3, (hb9.cell (p := ⟨(nad.add (k * 12)).block, (nad.add (k * 12)).off + 4, none⟩) hLn).trans u4, (hb9.cell (p := ⟨(nad.add (k * 12)).block, (nad.add (k * 12)).off + 5, none⟩) hLn).trans u5, (hb9.cell (p := ⟨(nad.add (k * 12)).block, (nad.add (k * 12)).off + 6, none⟩) hLn).trans u6, (hb9.cell (p := ⟨(nad.add (k * 12)).block, (nad.add (k * 12)).off + 7, none⟩) hLn).trans u7, (hb9.cell (p := ⟨(nad.add (k * 12)).block, (nad.add (k * 12)).off + 8, none⟩) hLn).trans u8, (hb9.cell (p := ⟨(nad.add (k * 12)).block, (nad.add (k * 12)).off + 9, none⟩) hLn).trans u9, (hb9.cell (p := ⟨(nad.add (k * 12)).block, (nad.add (k * 12)).off + 10, none⟩) hLn).trans u10, (hb9.cell (p := ⟨(nad.add (k * 12)).block, (nad.add (k * 12)).off + 11, none⟩) hLn).trans u11, (hb9.cell (p := ⟨(nad'.add (k * 12)).block, (nad'.add (k * 12)).off + 1, none⟩) hLn').trans v1, (hb9.cell (p := ⟨(nad'.add (k * 12)).block, (nad'.add (k * 12)).off + 2, none⟩) hLn').trans v2, (hb9.cell (p := ⟨(nad'.add (k * 12)).block, (nad'.add (k * 12)).off + 3, none⟩) hLn').trans v3, (hb9.cell (p := ⟨(nad'.add (k * 12)).block, (nad'.add (k * 12)).off + 4, none⟩) hLn').trans v4, (hb9.cell (p := ⟨(nad'.add (k * 12)).block, (nad'.add (k * 12)).off + 5, none⟩) hLn').trans v5, (hb9.cell (p := ⟨(nad'.add (k * 12)).block, (nad'.add (k * 12)).off + 6, none⟩) hLn').trans v6, (hb9.cell (p := ⟨(nad'.add (k * 12)).block, (nad'.add (k * 12)).off + 7, none⟩) hLn').trans v7, (hb9.cell (p := ⟨(nad'.add (k * 12)).block, (nad'.add (k * 12)).off + 8, none⟩) hLn').trans v8, (hb9.cell (p := ⟨(nad'.add (k * 12)).block, (nad'.add (k * 12)).off + 9, none⟩) hLn').trans v9, (hb9.cell (p := ⟨(nad'.add (k * 12)).block, (nad'.add (k * 12)).off + 10, none⟩) hLn').trans v10, (hb9.cell (p := ⟨(nad'.add (k * 12)).block, (nad'.add (k * 12)).off + 11, none⟩) hLn').trans v11⟩ (fun hHeld2 => ?_);have hbe := Hbk.out.trans (hb9'.mono Hbk.out.size);have hbe2 := Hbk2.out.trans (hb9'.mono Hbk2.out.size);obtain ⟨Hbe, Hbe2⟩ := hd2 hbe hbe2;clear hbe2 hbe;clear hK K hHeld hb9 hb9';refine lay ?_;refine zab 11 ?_;refine wpAnyH_done (by kernel_rfl) ?_ _;refine NoPanic.normal ?_;clear hHeld2 y6 z6 u0 v0 u1 u2 u3 u4 u5 u6 u7 u8 u9 u10 u11 v1 v2 v3 v4 v5 v6 v7 v8 v9 v10 v11;go_wp2_with fail;exact ⟨⟨k + 1, by omega, by go_num, Hbe.out⟩, by simp [intOf]; omega⟩
     ·have hP9 := HP2.out.below hbk1 HP2.out.lt;have hQ9 := HQ2.out.below hbk1 HQ2.out.lt;obtain ⟨Hbk, Hbk1, Hbk2, HF9, HG9, HP9, HQ9⟩ := hd7 hbk hbk1 hbk2 hF9 hG9 hP9 hQ9;clear hQ9 hP9 hG9 hF9 hbk2 hbk1 hbk;go_wp2_with fail;exact ⟨⟨j + 1, by omega, by go_num, Hbk2.out, HP9.out, HQ9.out⟩, by simp [intOf]; omega⟩
  ·obtain ⟨Hbw, HP1, HQ1⟩ := hd3 hbw hP1 hQ1;clear hQ1 hP1 hbw;go_wp2_with fail;go_ret;exact ⟨rfl, Hbw.out⟩
end Go.Proofs.YtnfjjliiajaijaaDoor
