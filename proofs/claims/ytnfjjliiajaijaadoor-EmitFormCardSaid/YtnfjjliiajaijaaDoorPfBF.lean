/- The walk of the law EmitForm. Conditions: what the law's argument is read as; the table of the bits. -/
import Derived.Test.YtnfjjliiajaijaaDoorPfAA
import Derived.Test.YtnfjjliiajaijaaDoorPfAZ
import Derived.Test.YtnfjjliiajaijaaDoorPfBA
import Derived.Test.YtnfjjliiajaijaaDoorPfBD
import Derived.Test.YtnfjjliiajaijaaDoorPfBE
set_option linter.unusedVariables false
set_option linter.unusedSimpArgs false
set_option maxRecDepth 100000
set_option maxHeartbeats 16000000
namespace Go.Proofs.YtnfjjliiajaijaaDoor
open Go.RowKit
theorem zeB.small {gs : List zad} (h : zeB gs) : zcO gs := ⟨fun g hg => ⟨(h.each g hg).lenP, (h.each g hg).lenK, (h.each g hg).lenI, (h.each g hg).lenN, fun x hx => ((h.each g hg).nodes x hx).len⟩, h.len⟩
theorem zeB.imm {gs : List zad} (h : zeB gs) : ∀ g ∈ gs, ∀ x ∈ g.nodes, U64 x.imm := fun g hg x hx => ((h.each g hg).nodes x hx).imm
theorem walk_EmitForm (w : World) (gv0 : Value) (gs0 : List zad) (hg0 : zgU w gv0 gs0) (ht : TabX w) :
  Calls Tryd.prog 3 #[.agg #[gv0]] w fun e w' => e = .returned (.bool true) /\ Below w.heap.size w w' := by
 obtain ⟨hgs0, hwf0⟩ := hg0;have hsm0 := hwf0.small;have him0 := hwf0.imm
 have hok0 : zfl gs0 := ⟨fun g hg => (hsm0.each g hg).2.1, fun g hg x hx => by have := (hsm0.each g hg).2.2.2.2 x hx; omega⟩
 obtain ⟨G, hG⟩ := nm (w.heap.size);obtain ⟨A0, c0, rfl, hc01, hc02⟩ := hgs0.slice;obtain ⟨Z, hZ⟩ := mn (gs0.length);rw [hZ] at hgs0 hc01 ⊢;obtain ⟨er, her⟩ := mn (zbC gs0);obtain ⟨L, hL⟩ := mn ((ze8 gs0).length);obtain ⟨rn, hrn⟩ := mn (zk6 gs0);obtain ⟨sn, hsn⟩ := mn (ziw gs0);have hP := Blk.new w 24 #[.slice A0 Z c0];have hb := (Below.refl w.heap.size w).alloc (Nat.le_refl _) (.cells #[.slice A0 Z c0] 24);obtain ⟨V, hV⟩ := nm (w.alloc (.cells #[.slice A0 Z c0] 24));rw [<- hV] at hP hb;rw [<- hG] at hP
 have hA0 : ∀ W, Below w.heap.size w W -> zaI W w.heap.size (.slice A0 Z c0) gs0 := fun W h => hgs0.below h
 have hT : ∀ W, Below w.heap.size w W -> TabX W := fun W h => ht.below h ht.1
 obtain ⟨Hb, HP, HV, HG, Hsm0, Him0, Hok0, Hgs0⟩ := hd8 hb hP hV hG hsm0 him0 hok0 hgs0;obtain ⟨Hwf0, HZ, HA0, HT, Ht, Her, HL, Hrn⟩ := hd8 hwf0 hZ hA0 hT ht her hL hrn;have Hsn := Lib.hid hsn;clear hsn hrn hL her ht hT hA0 hZ hwf0 hgs0 hok0 him0 hsm0 hG hV hP hb;go_enter Tryd.func3, Tryd.ntmps3;go_upto_region 1 with fail;rw [<- HV.out, <- HG.out];go_wp2_with fail;refine (zkF V (HT.out _ Hb.out)).mono ?_;rintro e w1 ⟨rfl, hb1⟩;have hbw1 := Hb.out.trans (hb1.mono Hb.out.size);have hz1 := hbw1.size;have hQ1 := HP.out.below hb1 HP.out.lt;have hcp := zhZ (.slice A0 Z c0) gs0 w1 w.heap.size (HA0.out _ hbw1) hz1 Hsm0.out;have kp0 := bc hQ1 0;obtain ⟨Hb1, Hbw1, HQ1, Hcp⟩ := hd4 hb1 hbw1 hQ1 hcp;clear hcp hQ1 hbw1 hb1;go_wp2_with fail;refine Hcp.out.mono ?_;rintro e w2 ⟨hb2, pv, css, rfl, hW, hC⟩;rw [HZ.out] at hW;obtain ⟨PA, pc, rfl, _⟩ := zak hW;have hA2 := hC.at_ (by rw [HZ.out]; exact hW);have hbw2 := Hbw1.out.trans (hb2.mono Hbw1.out.size);obtain ⟨R, hR⟩ := nm (w2.heap.size);have hB := Blk.new w2 24 #[.slice PA Z pc];have hal := (Below.refl w2.heap.size w2).alloc (Nat.le_refl _) (.cells #[.slice PA Z pc] 24);obtain ⟨V3, hV3⟩ := nm (w2.alloc (.cells #[.slice PA Z pc] 24));rw [<- hV3] at hB hal;rw [<- hR] at hB;have hbw3 := hbw2.trans (hal.mono hbw2.size);have hQ3 := (HQ1.out.below hb2 HQ1.out.lt).below hal (HQ1.out.below hb2 HQ1.out.lt).lt
 have hA3 : ∀ W, Below w2.heap.size V3 W -> zaI W w2.heap.size (.slice PA Z pc) gs0 := fun W h => hA2.below (hal.trans h)
 have hem := ziM (HA0.out _ hbw3) hbw3.size Hsm0.out Him0.out (HT.out _ hbw3);have hQ3k := hQ3;clear kp0;have kp0 := bc hQ3k 0;obtain ⟨Hb2, HW, HC, HA2, Hbw2, HR, HB, Hal⟩ := hd8 hb2 hW hC hA2 hbw2 hR hB hal;obtain ⟨HV3, Hbw3, HQ3, HA3, Hem, HQ3k⟩ := hd6 hV3 hbw3 hQ3 hA3 hem hQ3k;clear hQ3k hem hA3 hQ3 hbw3 hV3 hal hB hR hbw2 hA2 hC hW hb2;go_upto_region 4 with fail;rw [<- HV3.out, <- HR.out];go_wp2_with fail;refine Hem.out.mono ?_;intro e w4 hp;have hpp := hp;obtain ⟨hb4, BA, bqc, FA, fc, SA, sc, he, hO⟩ := zlG hp;clear hp;rw [HL.out, Hrn.out, Hsn.out, Her.out] at he;rw [HL.out] at hO;subst he;obtain ⟨R4, hR4⟩ := nm (w4.heap.size);have hJ := Blk.new w4 33 #[.slice BA L bqc, .slice FA rn fc, .slice SA sn sc];have hal4 := (Below.refl w4.heap.size w4).alloc (Nat.le_refl _) (.cells #[.slice BA L bqc, .slice FA rn fc, .slice SA sn sc] 33);obtain ⟨V5, hV5⟩ := nm (w4.alloc (.cells #[.slice BA L bqc, .slice FA rn fc, .slice SA sn sc] 33));rw [<- hV5] at hJ hal4;rw [<- hR4] at hJ;have hb35 := hb4.trans (hal4.mono hb4.size);have hz23 := Hal.out.size;have hb25 : Below w2.heap.size V3 V5 := hb35.mono hz23;have hbw5 := Hbw3.out.trans (hb35.mono Hbw3.out.size);have hQ5 := HQ3.out.below hb35 HQ3.out.lt;have hB5 := HB.out.below hb35 HB.out.lt;have hA5 := HA3.out _ hb25;have hz25 : w2.heap.size <= V5.heap.size := Nat.le_trans hz23 hb25.size;have hsame := zhT (.slice A0 Z c0) (.slice PA Z pc) gs0 V5 w2.heap.size hz25 ((HA0.out _ hbw5).more Hbw2.out.size) hA5;have hQk := hQ5;have hBk := hB5;clear kp0;have kp0 := bc hQk 0;have kb0 := bc hBk 0;obtain ⟨Hpp, Hb4, HO, HR4, HJ, Hal4, HV5, Hb35⟩ := hd8 hpp hb4 hO hR4 hJ hal4 hV5 hb35;obtain ⟨Hb25, Hbw5, HQ5, HB5, HA5, Hsame, HQk, HBk⟩ := hd8 hb25 hbw5 hQ5 hB5 hA5 hsame hQk hBk;clear hBk hQk hsame hA5 hB5 hQ5 hbw5 hb25 hb35 hV5 hal4 hJ hR4 hO hb4 hpp;go_upto_region 5 with fail;rw [<- HV5.out, <- HR4.out];go_wp2_with fail;refine Hsame.out.mono ?_;rintro e w6 ⟨rfl, hb6⟩;have hbw6 := Hbw5.out.trans (hb6.mono Hbw5.out.size);have hB6 := HB5.out.below hb6 HB5.out.lt;have hb26 := Hb25.out.trans (hb6.mono hz25);have hz26 : w2.heap.size <= w6.heap.size := Nat.le_trans hz25 hb6.size;have hJ6 := HJ.out.below hb6 HJ.out.lt;have hrt := zj0 (HA3.out _ hb26) hz26 Hok0.out true;have hBk := hB6;clear kp0 kb0;have kb0 := bc hBk 0;obtain ⟨Hb6, Hbw6, HB6, Hb26, HJ6, Hrt, HBk2⟩ := hd7 hb6 hbw6 hB6 hb26 hJ6 hrt hBk;clear hBk hrt hJ6 hb26 hB6 hbw6 hb6;go_wp2_with fail;refine Hrt.out.mono ?_;rintro e w7 ⟨rfl, hb7⟩;have hbw7 := Hbw6.out.trans (hb7.mono Hbw6.out.size);have hB7 := HB6.out.below hb7 HB6.out.lt;have hb27 := Hb26.out.trans (hb7.mono hz26);have hz27 : w2.heap.size <= w7.heap.size := Nat.le_trans hz26 hb7.size;have hJ7 := HJ6.out.below hb7 HJ6.out.lt;have hJk := hJ7;clear kb0;have kj0 := bc hJk 0
 rcases hck : za3 gs0 true with _ | _
 ·have h70 : er = 70 := by rw [<- Her.out]; exact zgO gs0 hck
  have hL0 : L = 0 := by
   rw [<- HL.out];unfold ze8;rw [if_neg (by rw [zgO gs0 hck]; decide)]
   rfl
  subst h70 hL0;obtain ⟨Hbw7, HB7, Hb27, HJ7, Hb7, Hck, HJk⟩ := hd7 hbw7 hB7 hb27 hJ7 hb7 hck hJk;clear hJk hck hb7 hJ7 hb27 hB7 hbw7;go_wp2_with fail;go_ret;exact ⟨rfl, Hbw7.out⟩
 ·have hus := zhS (HA3.out _ hb27) hz27 (fun g hg => by have := (zge hck Hsm0.out hg).1.len; omega) (fun g hg x hx => (Hsm0.out.each g hg).2.2.2.2 x hx) (zh0 hck);have hBk := hB7;have kb0 := bc hBk 0;obtain ⟨Hz27, Hbw7, HB7, Hb27, HJ7, Hb7, Hck, HJk⟩ := hd8 hz27 hbw7 hB7 hb27 hJ7 hb7 hck hJk;obtain ⟨Hus, HBk3⟩ := hd2 hus hBk;clear hBk hus hJk hck hb7 hJ7 hb27 hB7 hbw7 hz27;go_wp2_with fail;refine Hus.out.mono ?_;rintro e w8 ⟨rfl, hb8⟩;have hbw8 := Hbw7.out.trans (hb8.mono Hbw7.out.size);have hJ8 := HJ7.out.below hb8 HJ7.out.lt;have hJk := hJ8;clear kj0 kb0;have kj0 := bc hJk 0
  rcases hu : gs0.any zcA with _ | _
  ·by_cases ho : zbk gs0 = true
   ·have h31 : er = 31 := by rw [<- Her.out]; exact zfJ gs0 Hck.out hu ho
    have hL0 : L = 0 := by
     rw [<- HL.out];unfold ze8;rw [if_neg (by rw [zfJ gs0 Hck.out hu ho]; decide)]
     rfl
    obtain ⟨gg, hgg, hgn⟩ := zi6 Hck.out Hsm0.out ho;subst h31 hL0;have hQ8 := ((HQ5.out.below Hb6.out HQ5.out.lt).below Hb7.out (HQ5.out.below Hb6.out HQ5.out.lt).lt).below hb8 ((HQ5.out.below Hb6.out HQ5.out.lt).below Hb7.out (HQ5.out.below Hb6.out HQ5.out.lt).lt).lt;have hQk := hQ8;have kq0 := bc hQk 0;obtain ⟨Hbw8, HJ8, Hb8, Hu, HJk2, Ho, Hgg, Hgn⟩ := hd8 hbw8 hJ8 hb8 hu hJk ho hgg hgn;obtain ⟨HQ8, HQk8⟩ := hd2 hQ8 hQk;clear hQk hQ8 hgn hgg ho hJk hu hb8 hJ8 hbw8
    have hz16 : Z <= 16 := by rw [<- HZ.out]; exact (zbI Hck.out).2
    go_upto_region 14 with fail
    go_loopg [6, 51] Z (fun gk bv iv wr => ∃ j : Nat, j + gk = Z /\ iv = .int .i64 j /\ ∃ b, bv = .bool b /\ Hid ((gs0.take j).any (fun g => decide (2000 < g.nodes.length)) = b) /\ Hid (Below w.heap.size w wr))
    case atStart => exact ⟨0, by omega, rfl, false, rfl, Lib.hid rfl, Hbw8⟩
    case round =>
     obtain ⟨j, hj, rfl, b, rfl, hgb, hbj⟩ := hrel
     by_cases hjZ : j < Z
     ·have hjI : (j : Int) < Z := by omega
      obtain ⟨g, hg⟩ : ∃ g, gs0[j]? = some g := ⟨_, List.getElem?_eq_getElem (by rw [HZ.out]; exact hjZ)⟩
      obtain ⟨ad, gpv, gkv, giv, gnv, hAe, _, hM⟩ := (HA0.out _ hbj.out).at_ hg;subst hAe;obtain ⟨QA, pn, pc', KA, kn, kc, IA, il, ic, NA, nn, nc, rfl, rfl, rfl, rfl, hpn, hkn, hil, hnn⟩ := hM.forms;have m0 := hM.c0;have m1 := hM.c1;have m2 := hM.c2;have m3 := hM.c3;have m4 := hM.c4;have m5 := hM.c5;have m6 := hM.c6;have m7 := hM.c7
      have hgn2 : (gs0.take (j + 1)).any (fun g => decide (2000 < g.nodes.length)) = (b || decide (2000 < nn)) := by
       rw [List.take_add_one, hg, Option.toList_some, List.any_append, hgb.out];simp [hnn]
      have hbn := hbj.out.alloc hbj.out.size (.cells #[.slice QA pn pc', .slice KA kn kc, .int .i64 g.cells, .slice IA il ic, .bool g.result, .int .i64 g.keep, .slice NA nn nc, .int .i64 g.entry] 44);obtain ⟨HM, Hg, Hgb, Hbj, Hpn, Hkn, Hil, Hnn⟩ := hd8 hM hg hgb hbj hpn hkn hil hnn;obtain ⟨Hgn2, Hbn⟩ := hd2 hgn2 hbn;clear hbn hgn2 hnn hil hkn hpn hbj hgb hg hM
      cases b
      ·by_cases h2 : 2000 < nn
       ·have h2I : (2000 : Int) < nn := by omega
        have hx : (gs0.take (j + 1)).any (fun g => decide (2000 < g.nodes.length)) = true := by rw [Hgn2.out]; simp [h2]
        have Hx := Lib.hid hx;clear hx;go_wp2_with fail
        go_roundg (gk - 1)
        case measure => omega
        case rel => exact ⟨j + 1, by omega, by go_num, true, rfl, Hx, Hbn⟩
       ·have h2I : ¬ (2000 : Int) < nn := by omega
        have hx : (gs0.take (j + 1)).any (fun g => decide (2000 < g.nodes.length)) = false := by rw [Hgn2.out]; simp; omega
        have Hx := Lib.hid hx;clear hx;go_wp2_with fail
        go_roundg (gk - 1)
        case measure => omega
        case rel => exact ⟨j + 1, by omega, by go_num, false, rfl, Hx, Hbn⟩
      ·have hx : (gs0.take (j + 1)).any (fun g => decide (2000 < g.nodes.length)) = true := by rw [Hgn2.out]; rfl
       have Hx := Lib.hid hx;clear hx;go_wp2_with fail
       go_roundg (gk - 1)
       case measure => omega
       case rel => exact ⟨j + 1, by omega, by go_num, true, rfl, Hx, Hbn⟩
     ·obtain rfl : Z = j := by omega
      have hjI : ¬ (Z : Int) < Z := by omega
      have hbt : b = true := by
       have := hgb.out;rw [List.take_of_length_le (by rw [HZ.out]; omega)] at this;rw [<- this, List.any_eq_true];exact ⟨gg, Hgg.out, decide_eq_true Hgn.out⟩
      subst hbt;obtain ⟨Hgb, Hbj⟩ := hd2 hgb hbj;clear hbj hgb;go_wp2_with fail;go_ret;exact ⟨rfl, Hbj.out⟩
   ·have ho : zbk gs0 = false := by simpa using ho
    have h0 := zkH Hck.out Hsm0.out Him0.out hu ho
    have her0 : er = 0 := by rw [<- Her.out, h0]
    subst her0;obtain ⟨T, hTn⟩ := mn (zav (gs0.map zaK));have hfp := zlD Hck.out Hsm0.out Him0.out ho;have htp := zmc Hck.out Hsm0.out Him0.out ho;obtain ⟨_, hpq⟩ := Hpp.out
    rcases hpq with ⟨hne, _⟩ | ⟨_, bv, fv, sv, lvs, ps, he, hl1, hl2, hI⟩
    ·exact absurd h0 hne
    rw [hTn] at hfp htp hl1 hl2 hI;injection he with he;injection he with he;have he := congrArg Array.toList he;simp only [List.cons.injEq, Value.agg.injEq, and_true] at he;have he := congrArg Array.toList he;simp only [List.cons.injEq, and_true] at he;obtain ⟨rfl, rfl, rfl⟩ := he
    have hcb : ze8 gs0 = (zay T).flatMap zbo := by unfold ze8; rw [if_pos h0, hTn]
    have hZp : 0 < Z := by rw [<- HZ.out]; exact (zbI Hck.out).1
    rw [HZ.out] at hfp htp;have hb48 : Below w4.heap.size w4 w8 := Hal4.out.trans ((Hb6.out.mono Hal4.out.size).trans ((Hb7.out.mono (Nat.le_trans Hal4.out.size Hb6.out.size)).trans (hb8.mono (Nat.le_trans Hal4.out.size (Nat.le_trans Hb6.out.size Hb7.out.size)))));have hI8 := hI.below hb48;have hro : w8.ownsRow V3.heap.size 48 6 (.slice FA rn fc) T.rows.length (zaQ T.rows ps) := hI8.tail.each (.row (.slice FA rn fc) 48 6 T.rows.length (zaQ T.rows ps)) (by unfold zbE; simp);rw [htp.rows] at hro;obtain ⟨FB, fcc, hfe, _, hFl, hfc1, hfc2⟩ := zbn hro hZp;injection hfe with hfe1 hfe2 hfe3;subst hfe1 hfe2 hfe3
    have hTM : ze9 w8 V3.heap.size FB fc rn T (za0 (gs0.map zaK)) (.slice SA sn sc) lvs ps := ⟨hI8.tail, hl1, hl2, htp, hfc1, hfc2⟩
    have hco := ownB HO.out hb48;obtain ⟨_, _, hce, hcl1, hcl2, hcr⟩ := zak hco;injection hce with hce1 _ hce3;subst hce1 hce3;rw [hcb] at hcr
    have hLn : L = 8 * (zay T).length := by rw [<- HL.out, hcb, zdm]
    have hb28 := Hb27.out.trans (hb8.mono Hz27.out);have hGf := (HA3.out _ hb28).more (show w2.heap.size <= w8.heap.size from Nat.le_trans Hz27.out hb8.size);have hfy := zlC hTM hGf (Nat.le_refl _) hcr hLn hcl1 hcl2 hfp;have hB8 := HB7.out.below hb8 HB7.out.lt;have hBk := hB8;have kb0 := bc hBk 0;have kj0 := bc hJk 0;have kj1 := bc hJk 1;have kj2 := bc hJk 2;obtain ⟨Hbw8, HJ8, Hb8, Hu, HJk2, Ho, H0, HTn⟩ := hd8 hbw8 hJ8 hb8 hu hJk ho h0 hTn;obtain ⟨Hfp, Htp, Hl1, Hl2, HI, Hcb, Hb48, HI8⟩ := hd8 hfp htp hl1 hl2 hI hcb hb48 hI8;obtain ⟨Hro, HTM, Hco, Hcr, HLn, Hb28, HGf, Hfy⟩ := hd8 hro hTM hco hcr hLn hb28 hGf hfy;obtain ⟨HB8, HBk4⟩ := hd2 hB8 hBk;clear hBk hB8 hfy hGf hb28 hLn hcr hco hTM hro hI8 hb48 hcb hI hl2 hl1 htp hfp hTn h0 ho hJk hu hb8 hJ8 hbw8;go_wp2_with fail;refine Hfy.out.mono ?_;rintro e w9 ⟨rfl, hb9⟩;have hfin := Hbw8.out.trans (hb9.mono Hbw8.out.size);have Hfin := Lib.hid hfin;clear hfin;go_wp2_with fail;go_ret;exact ⟨rfl, Hfin.out⟩
  ·have h160 : er = 160 := by rw [<- Her.out]; exact zfI gs0 Hck.out hu
   have hL0 : L = 0 := by
    rw [<- HL.out];unfold ze8;rw [if_neg (by rw [zfI gs0 Hck.out hu]; decide)]
    rfl
   subst h160 hL0;obtain ⟨Hbw8, HJ8, Hb8, Hu, HJk2⟩ := hd5 hbw8 hJ8 hb8 hu hJk;clear hJk hu hb8 hJ8 hbw8;go_wp2_with fail;go_ret;exact ⟨rfl, Hbw8.out⟩
end Go.Proofs.YtnfjjliiajaijaaDoor
