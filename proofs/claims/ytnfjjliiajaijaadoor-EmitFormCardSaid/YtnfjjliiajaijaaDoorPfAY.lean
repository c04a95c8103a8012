/- Part of the proof, named by its texts: FmR FmMo FmIs. No condition of its own. -/
import Derived.Test.YtnfjjliiajaijaaDoorPfAA
import Derived.Test.YtnfjjliiajaijaaDoorPfAX
import Derived.Test.YtnfjjliiajaijaaDoorPfAH
import Derived.Laws.BitsAllLaws
import Derived.BigRegion
import Derived.Deep.CutBlock
import Derived.Outline
import Derived.Deep.DeepCutAuto
set_option linter.unusedVariables false
set_option linter.unusedSimpArgs false
set_option maxRecDepth 100000
set_option maxHeartbeats 16000000
namespace Go.Proofs.YtnfjjliiajaijaaDoor
open Go.RowKit
section
variable {w w' : World} {B FB fc N : Nat} {T : zco} {st : Nat -> Nat} {sv : Value} {lvs : List Value} {ps : List (Value × Value)}
theorem ziV (h : ze9 w B FB fc N T st sv lvs ps) :
  Calls Tryd.prog 29 #[.agg #[.slice (some ⟨FB, 0, none⟩) N fc, sv]] w fun e w' => e = .returned (.bool true) /\ Below w.heap.size w w' := by
 obtain ⟨n, hn⟩ := mn (T.sites.length);have hn16 := h.ok.ns;have hN16 := h.ok.n16;rw [hn] at hn16;obtain ⟨hfc1, hfc2⟩ := h.cap;unfold maxLen at hfc2;have hrow : w.ownsRow B 112 2 sv T.sites.length (zaC T.sites lvs) := h.its.each (.row sv 112 2 T.sites.length (zaC T.sites lvs)) (by unfold zbE; simp);rw [hn] at hrow;obtain ⟨SA, sc, rfl, hsc1, hsc2, _⟩ := zak hrow;unfold maxLen at hsc2;have hP := Blk.new w 31 #[.slice (some ⟨FB, 0, none⟩) N fc, .slice SA n sc];have hb := (Below.refl w.heap.size w).alloc (Nat.le_refl _) (.cells #[.slice (some ⟨FB, 0, none⟩) N fc, .slice SA n sc] 31);obtain ⟨V, hV⟩ := nm (w.alloc (.cells #[.slice (some ⟨FB, 0, none⟩) N fc, .slice SA n sc] 31));obtain ⟨G, hG⟩ := nm (w.heap.size);have hM := h.below hb;rw [<- hV] at hP hb hM;rw [<- hG] at hP;have hP0 := hP;have kp0 := bc hP 0;have kp1 := bc hP 1
 have hN16I : ¬ (16 : Int) < N := by omega
 have hn16I : ¬ (65536 : Int) < n := by omega
 clear hrow;obtain ⟨H, HP, HP0, Hb, HV, HG, Hn, HM⟩ := hd8 h hP hP0 hb hV hG hn hM;clear hM hn hG hV hb hP0 hP h;go_enter Tryd.func29, Tryd.ntmps29;go_upto_region 1 with fail;rw [<- HG.out, <- HV.out];go_upto_region 4 with fail;clear kp0 kp1
 go_loopg [27] N (fun gk iv wr => ∃ j : Nat, j + gk = N /\ iv = .int .i64 j /\ Hid (Below V.heap.size V wr))
 case atStart => exact ⟨0, by omega, rfl, Lib.hid (Below.refl _ _)⟩
 case round =>
  obtain ⟨j, hj, rfl, hbj⟩ := hrel;have hPr := HP0.out.below hbj.out HP0.out.lt
  by_cases hjN : j < N
  ·have hjI : (j : Int) < N := by omega
   have hMr := HM.out.below hbj.out
   obtain ⟨q, hq⟩ : ∃ q, T.rows[j]? = some q := ⟨_, List.getElem?_eq_getElem (by rw [hMr.ok.rows]; exact hjN)⟩
   obtain ⟨pv, sv', ho1, ho2, hrow⟩ := hMr.row hq;obtain ⟨e1, e2, z0, z1, z8, hpl4, hpk, hsl6, hsa, hsb, hres⟩ := hMr.ok.row j q hq;have hup := hMr.ok.up j hjN;have htop := hMr.ok.le (j + 1) N (by omega) (Nat.le_refl _);have htop2 := hMr.ok.top;obtain ⟨s0, hs0⟩ := mn (q.start);obtain ⟨s1, hs1⟩ := mn (q.stop);obtain ⟨z, hz⟩ := mn (q.size);obtain ⟨rs, hrs⟩ := mn (q.resume);obtain ⟨pl, hpl⟩ := mn (q.params.length);obtain ⟨sl, hsl⟩ := mn (q.saves.length);rw [hpl] at ho1 hpl4;rw [hsl] at ho2 hsl6;obtain ⟨KP, kpc, hkp, hkpc1, hkpc2, _⟩ := zak ho1;obtain ⟨SV, svc, hsv, hsvc1, hsvc2, _⟩ := zak ho2;unfold maxLen at hkpc2 hsvc2;subst hkp hsv;have r0 := hrow 0 _ rfl;have r1 := hrow 1 _ rfl;have r2 := hrow 2 _ rfl;have r3 := hrow 3 _ rfl;have r4 := hrow 4 _ rfl;have r5 := hrow 5 _ rfl;rw [hs0, Nat.add_zero] at r0;rw [hs1] at r1;rw [hz] at r2 z0 z1 z8 hsa;rw [hrs] at r5 hres;rw [hs0] at e1;rw [hs1] at e2;obtain ⟨R1, hR1⟩ := nm (wr.heap.size);have hX := Blk.new wr 48 #[.int .i64 (s0 : Nat), .int .i64 (s1 : Nat), .int .i64 z, .slice KP pl kpc, .slice SV sl svc, .int .i64 rs];have hal := (Below.refl wr.heap.size wr).alloc (Nat.le_refl _) (.cells #[.int .i64 (s0 : Nat), .int .i64 (s1 : Nat), .int .i64 z, .slice KP pl kpc, .slice SV sl svc, .int .i64 rs] 48);obtain ⟨W1, hW1⟩ := nm (wr.alloc (.cells #[.int .i64 (s0 : Nat), .int .i64 (s1 : Nat), .int .i64 z, .slice KP pl kpc, .slice SV sl svc, .int .i64 rs] 48));rw [<- hW1] at hX hal;rw [<- hR1] at hX;have hM1 := hMr.below hal;have hP1 := hPr.below hal hPr.lt;have hb1 := hbj.out.trans (hal.mono hbj.out.size)
   have f1 : ¬ (s0 : Int) < 0 := by omega
   have f2 : ¬ (s1 : Int) <= s0 := by omega
   have f3 : ¬ (1048576 : Int) < s1 := by omega
   have hprev : 0 < j -> ∃ s2 : Nat, W1.cell? ⟨FB, (j - 1) * 6 + 1, none⟩ = some (.int .i64 (s2 : Nat)) /\ ¬ (s0 : Int) < s2 := fun hj0 => by
    obtain ⟨q', hq'⟩ : ∃ q', T.rows[j - 1]? = some q' := ⟨_, List.getElem?_eq_getElem (by rw [hMr.ok.rows]; omega)⟩
    obtain ⟨_, _, _, _, hrow'⟩ := hM1.row hq';obtain ⟨_, e4, _⟩ := hMr.ok.row (j - 1) q' hq';refine ⟨q'.stop, hrow' 1 _ rfl, ?_⟩;rw [e4, show j - 1 + 1 = j by omega]
    omega
   obtain ⟨HPr, HMr, Hq, Ho1, Ho2, Hrow, He1, He2⟩ := hd8 hPr hMr hq ho1 ho2 hrow e1 e2;obtain ⟨Hpk, Hsa, Hsb, Hres, Hup, Htop, Htop2, Hs0⟩ := hd8 hpk hsa hsb hres hup htop htop2 hs0;obtain ⟨Hs1, Hz, Hrs, Hpl, Hsl, HR1, HX, Hal⟩ := hd8 hs1 hz hrs hpl hsl hR1 hX hal;obtain ⟨HW1, HM1, HP1, Hb1, Hprev, Hbj⟩ := hd6 hW1 hM1 hP1 hb1 hprev hbj;clear hbj hprev hb1 hP1 hM1 hW1 hal hX hR1 hsl hpl hrs hz hs1 hs0 htop2 htop hup hres hsb hsa hpk e2 e1 hrow ho2 ho1 hq hMr hPr;go_upto_region 6 with fail;rw [<- HR1.out, <- HW1.out];clear r0 r1 r2 r3 r4 r5
   go_cut [62] from 32 to 62 (fun t wx => t = .bool false /\ wx = W1.drew)
   case first =>
    have hXk := HX.out;have hPk := HP1.out;have kx0 := bc hXk 0;have kx1 := bc hXk 1;have kp0 := bc hPk 0;refine wp_region_noPanic ?_
    by_cases hj0 : j = 0
    ·subst hj0;refine wp_region_held_drew (S := fun W => W.cell? ⟨R1, 0, none⟩ = some (.int .i64 (s0 : Nat)) /\ W.cell? ⟨R1, 1, none⟩ = some (.int .i64 (s1 : Nat))) (by kernel_rfl) ⟨kx0, kx1⟩ (fun hHeld => ?_);refine zab 0 ?_;refine zab 1 ?_;refine zab 2 ?_;refine zab 3 ?_;refine zab 4 ?_;refine zab 5 ?_;refine zab 6 ?_;refine zab 7 ?_;refine zab 8 ?_;refine zab 9 ?_;refine zab 10 ?_;refine zab 11 ?_;refine zab 12 ?_;refine zab 13 ?_;refine zab 14 ?_;refine zab 15 ?_;refine zab 16 ?_;refine zab 17 ?_;refine zab 18 ?_;refine zac 19 ?_;refine zac 20 ?_;refine zac 21 ?_;refine zac 22 ?_;refine zac 23 ?_;refine zac 24 ?_;refine zac 25 ?_;refine zac 26 ?_;refine zac 27 ?_;refine zac 28 ?_;refine zab 29 ?_;refine zab 30 ?_;refine wpAnyH_done (by kernel_rfl) ?_ _;refine NoPanic.normal ?_;clear hHeld;go_wp2_with fail;go_meet;exact ⟨rfl, rfl⟩
    ·obtain ⟨s2, hc2, f4⟩ := Hprev.out (by omega)
     have hj0I : (0 : Int) < j := by omega
     have hj0N : 0 < j := by omega
     obtain ⟨k, hk⟩ := mn (j - 1);rw [hk] at hc2
     have hkN : k < N := by omega
     have hwr : IntKind.i64.wrap ((j : Int) - 1) = k := by rw [IntKind.wrap_i64]; omega
     refine wp_region_held_drew (S := fun W => W.cell? ⟨R1, 0, none⟩ = some (.int .i64 (s0 : Nat)) /\ W.cell? ⟨R1, 1, none⟩ = some (.int .i64 (s1 : Nat)) /\ W.cell? ⟨G, 0, none⟩ = some (.slice (some ⟨FB, 0, none⟩) N fc) /\ W.cell? ⟨FB, k * 6 + 1, none⟩ = some (.int .i64 (s2 : Nat))) (by kernel_rfl) ⟨kx0, kx1, kp0, hc2⟩ (fun hHeld => ?_);refine zab 0 ?_;refine zab 1 ?_;refine zab 2 ?_;refine zab 3 ?_;refine zab 4 ?_;refine zab 5 ?_;refine zab 6 ?_;refine zab 7 ?_;refine zab 8 ?_;refine zab 9 ?_;refine zab 10 ?_;refine zab 11 ?_;refine zab 12 ?_;refine zab 13 ?_;refine zab 14 ?_;refine zab 15 ?_;refine zab 16 ?_;refine zab 17 ?_;refine zab 18 ?_;refine zab 19 ?_;refine zab 20 ?_;refine zab 21 ?_;refine zab 22 ?_;refine zab 23 ?_;refine zab 24 ?_;refine zab 25 ?_;refine zab 26 ?_;refine zab 27 ?_;refine zab 28 ?_;refine zab 29 ?_;refine zab 30 ?_;refine wpAnyH_done (by kernel_rfl) ?_ _;refine NoPanic.normal ?_;clear hHeld;go_wp2_with fail;go_meet;exact ⟨rfl, rfl⟩
   case rest =>
    obtain ⟨rfl, rfl⟩ := hcut;have hXk := HX.out.drew;have hbd := Hb1.out.drew
    have g1 : ¬ z < 0 := by omega
    have g2 : ¬ (65536 : Int) < z := by omega
    have g3 : z.tmod 8 = 0 := by rw [Int.tmod_eq_emod_of_nonneg z0]; exact z8
    have g4 : ¬ (4 : Int) < pl := by omega
    have kx2 := bc hXk 2;have kx3 := bc hXk 3;obtain ⟨HXk, Hbd⟩ := hd2 hXk hbd;clear hbd hXk;clear z8;go_upto_region 11 with fail;clear kx2 kx3
    obtain ⟨wa, rfl⟩ : ∃ x, x = wr := ⟨_, rfl⟩
    obtain ⟨ga, rfl⟩ : ∃ x, x = gk := ⟨_, rfl⟩
    go_loopg [86] pl (fun gk iv wx => ∃ k : Nat, k + gk = pl /\ iv = .int .i64 k /\ wx = W1.drew)
    case atStart => exact ⟨0, by omega, rfl, rfl⟩
    case round =>
     obtain ⟨k, hk, rfl, rfl⟩ := hrel
     by_cases hkl : k < pl
     ·have hkI : (k : Int) < pl := by omega
      obtain ⟨pa, u, hA, _, hu, hcu⟩ := (zdO (zdC (ownB Ho1.out Hal.out))).at_ hkl;subst hA
      obtain ⟨kk, hkk⟩ : ∃ kk, q.params[k]? = some kk := ⟨_, List.getElem?_eq_getElem (by rw [Hpl.out]; exact hkl)⟩
      have hu2 : u = .int .u8 kk := by
       unfold zcf at hu;rw [List.getElem?_map, hkk] at hu;injection hu with hu;exact hu.symm
      subst hu2;have hk1 := Hpk.out kk (List.mem_of_getElem? hkk)
      have hk1' : ¬ (1 : Int) < kk := by omega
      obtain ⟨Hkk, Hu, Hk1⟩ := hd3 hkk hu hk1;clear hk1 hu hkk;go_wp2_with fail
      go_roundg (gk - 1)
      case measure => omega
      case rel => exact ⟨k + 1, by omega, by go_num, rfl⟩
     ·obtain rfl : pl = k := by omega
      have hkI : ¬ (pl : Int) < pl := by omega
      have hXk := HX.out.drew;have kx4 := bc hXk 4;have HXk := Lib.hid hXk;clear hXk;go_upto_region 17 with fail;clear kx4
      go_loopg [96] sl (fun gk iv wx => ∃ k : Nat, k + gk = sl /\ iv = .int .i64 k /\ Hid (Below W1.heap.size W1.drew wx))
      case atStart => exact ⟨0, by omega, rfl, Lib.hid (Below.refl _ _)⟩
      case round =>
       obtain ⟨k, hk, rfl, hbk⟩ := hrel;have hbk1 := Below.of_drew hbk.out;have hXr := HX.out.below hbk1 HX.out.lt
       by_cases hks : k < sl
       ·have hkI : (k : Int) < sl := by omega
        obtain ⟨⟨rg, o⟩, hro⟩ : ∃ m, q.saves[k]? = some m := ⟨_, List.getElem?_eq_getElem (by rw [Hsl.out]; exact hks)⟩
        obtain ⟨q6, q11, o0, oz, o8⟩ := Hsa.out k rg o hro;have hbak : Below wa.heap.size wa wr := Hal.out.trans (hbk1.mono Hal.out.size);obtain ⟨SB, rfl, hSB, hc0, hc1⟩ := zf5 Ho2.out (by omega) hbak hro;obtain ⟨S2, hS2⟩ := nm (wr.heap.size);have hY := Blk.new wr 50 #[.int .i64 rg, .int .i64 o];have hal2 := (Below.refl wr.heap.size wr).alloc (Nat.le_refl _) (.cells #[.int .i64 rg, .int .i64 o] 50);obtain ⟨W2, hW2⟩ := nm (wr.alloc (.cells #[.int .i64 rg, .int .i64 o] 50));rw [<- hW2] at hY hal2;rw [<- hS2] at hY;have hX2 := hXr.below hal2 hXr.lt;have hb2 := (hbk.out.trans (hal2.mono hbk.out.size)).drew;have hba2 := hbak.trans (hal2.mono hbak.size);have hXk := hXr
        have k1 : ¬ rg < 6 := by omega
        have k2 : ¬ (11 : Int) < rg := by omega
        have kx4 := bc hXk 4;obtain ⟨HXk, HXr, Hro, Hbak, HS2, HY, Hal2, HW2⟩ := hd8 hXk hXr hro hbak hS2 hY hal2 hW2;obtain ⟨HX2, Hb2, Hba2, Hbk, Hbk1, Ho8⟩ := hd6 hX2 hb2 hba2 hbk hbk1 o8;clear o8 hbk1 hbk hba2 hb2 hX2 hW2 hal2 hY hS2 hbak hro hXr hXk;go_upto_region 19 with fail;rw [<- HS2.out, <- HW2.out];clear kx4 hc0 hc1
        go_cut [132] from 101 to 132 (fun t wx => t = .bool false /\ wx = W2.drew)
        case first =>
         have hXk := HX2.out;have hYk := HY.out;have kx2 := bc hXk 2;have kx4 := bc hXk 4;have ky0 := bc hYk 0;have ky1 := bc hYk 1;refine wp_region_noPanic ?_
         by_cases hk0 : k = 0
         ·subst hk0;refine wp_region_held_drew (S := fun W => W.cell? ⟨S2, 0, none⟩ = some (.int .i64 rg) /\ W.cell? ⟨S2, 1, none⟩ = some (.int .i64 o) /\ W.cell? ⟨R1, 2, none⟩ = some (.int .i64 z)) (by kernel_rfl) ⟨ky0, ky1, kx2⟩ (fun hHeld => ?_);refine zab 0 ?_;refine zab 1 ?_;refine zab 2 ?_;refine zab 3 ?_;refine zab 4 ?_;refine zab 5 ?_;refine zab 6 ?_;refine zab 7 ?_;refine zab 8 ?_;refine zab 9 ?_;refine zab 10 ?_;refine zab 11 ?_;refine zac 12 ?_;refine zac 13 ?_;refine zac 14 ?_;refine zac 15 ?_;refine zac 16 ?_;refine zac 17 ?_;refine zac 18 ?_;refine zac 19 ?_;refine zac 20 ?_;refine zac 21 ?_;refine zab 22 ?_;refine zab 23 ?_;refine zab 24 ?_;refine zab 25 ?_;refine zab 26 ?_;refine zab 27 ?_;refine zab 28 ?_;refine zbb 29 (fun K hK => ?_);go_simp;refine (zgn o z _ o0 oz Ho8.out).mono ?_;rintro e w1 ⟨rfl, rfl⟩;refine hK.out _ _ hHeld (fun hHeld2 => ?_);clear hK K hHeld;refine lay ?_;refine zab 30 ?_;refine zab 31 ?_;refine wpAnyH_done (by kernel_rfl) ?_ _;refine NoPanic.normal ?_;clear hHeld2;go_wp2_with fail;go_meet;exact ⟨rfl, rfl⟩
         ·have hk0N : 0 < k := by omega
          obtain ⟨p, hp⟩ := mn (k - 1)
          obtain ⟨⟨rp, op⟩, hrp⟩ : ∃ m, q.saves[p]? = some m := ⟨_, List.getElem?_eq_getElem (by rw [Hsl.out]; omega)⟩
          obtain ⟨SB', hSB', _, hp0, _⟩ := zf5 Ho2.out (by omega) Hba2.out hrp;injection hSB' with hSB';injection hSB' with hSB';subst hSB';have hlt := Hsb.out p k _ _ hrp Hro.out (by omega)
          have k3 : ¬ rg <= rp := by
           have : rp < rg := hlt
           omega
          have hwr : IntKind.i64.wrap ((k : Int) - 1) = p := by rw [IntKind.wrap_i64]; omega
          have hpl : p < sl := by omega
          obtain ⟨Hrp, Hlt⟩ := hd2 hrp hlt;clear hlt hrp;refine wp_region_held_drew (S := fun W => W.cell? ⟨S2, 0, none⟩ = some (.int .i64 rg) /\ W.cell? ⟨S2, 1, none⟩ = some (.int .i64 o) /\ W.cell? ⟨R1, 2, none⟩ = some (.int .i64 z) /\ W.cell? ⟨R1, 4, none⟩ = some (.slice (some ⟨SB, 0, none⟩) sl svc) /\ W.cell? ⟨SB, p * 2, none⟩ = some (.int .i64 rp)) (by kernel_rfl) ⟨ky0, ky1, kx2, kx4, hp0⟩ (fun hHeld => ?_);refine zab 0 ?_;refine zab 1 ?_;refine zab 2 ?_;refine zab 3 ?_;refine zab 4 ?_;refine zab 5 ?_;refine zab 6 ?_;refine zab 7 ?_;refine zab 8 ?_;refine zab 9 ?_;refine zab 10 ?_;refine zab 11 ?_;refine zab 12 ?_;refine zab 13 ?_;refine zab 14 ?_;refine zab 15 ?_;refine zab 16 ?_;refine zab 17 ?_;refine zab 18 ?_;refine zab 19 ?_;refine zab 20 ?_;refine zab 21 ?_;refine zab 22 ?_;refine zab 23 ?_;refine zab 24 ?_;refine zab 25 ?_;refine zab 26 ?_;refine zab 27 ?_;refine zab 28 ?_;refine zbb 29 (fun K hK => ?_);go_simp;refine (zgn o z _ o0 oz Ho8.out).mono ?_;rintro e w1 ⟨rfl, rfl⟩;refine hK.out _ _ hHeld (fun hHeld2 => ?_);clear hK K hHeld;refine lay ?_;refine zab 30 ?_;refine zab 31 ?_;refine wpAnyH_done (by kernel_rfl) ?_ _;refine NoPanic.normal ?_;clear hHeld2;go_wp2_with fail;go_meet;exact ⟨rfl, rfl⟩
        case rest =>
         obtain ⟨rfl, rfl⟩ := hcut;go_wp2_with fail
         go_roundg (gk - 1)
         case measure => omega
         case rel => exact ⟨k + 1, by omega, by go_num, Hb2⟩
       ·obtain rfl : sl = k := by omega
        have hkI : ¬ (sl : Int) < sl := by omega
        have hXk := hXr;have hbe := Hbd.out.trans (hbk.out.mono Hbd.out.size);have kx0 := bc hXk 0;have kx1 := bc hXk 1;have kx5 := bc hXk 5;obtain ⟨HXk, HXr, Hbk, Hbk1, Hbe⟩ := hd5 hXk hXr hbk hbk1 hbe;clear hbe hbk1 hbk hXr hXk;go_upto_region 22 with fail
        go_cut [151] from 134 to 151 (fun t wx => t = .bool false /\ wx = wr)
        case first =>
         have hres := Hres.out
         rcases hres with rfl | ⟨h1, h2⟩
         ·go_wp2_with fail;go_meet;exact ⟨rfl, rfl⟩
         ·have he1 := He1.out;have he2 := He2.out
          have n1 : (rs != (-1 : Int)) = true := by simp; omega
          have n2 : ¬ rs < s0 := by omega
          have n3 : ¬ ((s1 : Int) - 1) < rs := by omega
          obtain ⟨H1, H2, HE1, HE2⟩ := hd4 h1 h2 he1 he2;clear he2 he1 h2 h1;go_wp2_with fail;go_meet;exact ⟨rfl, rfl⟩
        case rest =>
         obtain ⟨rfl, rfl⟩ := hcut;clear kx0 kx1 kx5;go_wp2_with fail
         go_roundg (ga - 1)
         case measure => omega
         case rel => exact ⟨j + 1, by omega, by go_num, Hbe⟩
  ·obtain rfl : N = j := by omega
   have hjI : ¬ (N : Int) < N := by omega
   have hPk := hPr;have kp1 := bc hPk 1;obtain ⟨HPk, HPr⟩ := hd2 hPk hPr;clear hPr hPk;go_upto_region 26 with fail;clear kp1
   obtain ⟨w0, rfl⟩ : ∃ x, x = wr := ⟨_, rfl⟩
   obtain ⟨g0, rfl⟩ : ∃ x, x = gk := ⟨_, rfl⟩
   go_loopg [156] n (fun gk iv wx => ∃ j : Nat, j + gk = n /\ iv = .int .i64 j /\ Hid (Below V.heap.size V wx))
   case atStart => exact ⟨0, by omega, rfl, hbj⟩
   case round =>
    obtain ⟨j, hjn, rfl, hbr⟩ := hrel
    by_cases hjl : j < n
    ·have hjI2 : (j : Int) < n := by omega
     have hMr := HM.out.below hbr.out;have hPr := HP0.out.below hbr.out HP0.out.lt;have hrow : wr.ownsRow B 112 2 (.slice SA n sc) T.sites.length (zaC T.sites lvs) := hMr.its.each (.row (.slice SA n sc) 112 2 T.sites.length (zaC T.sites lvs)) (by unfold zbE; simp);rw [Hn.out] at hrow;obtain ⟨SB, sc', hse, _, hSl, _⟩ := zbn hrow (by omega);injection hse with hse _ hsc;subst hse hsc
     obtain ⟨s, hs⟩ : ∃ s, T.sites[j]? = some s := ⟨_, List.getElem?_eq_getElem (by rw [Hn.out]; exact hjl)⟩
     obtain ⟨i, r, hr, hs1, hs2, hlive⟩ := hMr.ok.site j s hs;obtain ⟨lv, hlo, c0, c1⟩ := zhP hMr.its hMr.l1 (by rw [Hn.out]) hs;obtain ⟨LA, lc, rfl, hlc1, hlc2, _⟩ := zak hlo;obtain ⟨ll, hll⟩ := mn (s.2.length);obtain ⟨a, ha⟩ := mn (s.1);rw [hll] at c1 hlo hlc1;rw [ha] at c0 hs1 hs2;unfold maxLen at hlc2
     have hiN : i < N := by rw [<- hMr.ok.rows]; exact (List.getElem?_eq_some_iff.1 hr).1
     obtain ⟨S2, hS2⟩ := nm (wr.heap.size);have hY := Blk.new wr 112 #[.int .i64 (a : Nat), .slice LA ll lc];have hal2 := (Below.refl wr.heap.size wr).alloc (Nat.le_refl _) (.cells #[.int .i64 (a : Nat), .slice LA ll lc] 112);obtain ⟨W2, hW2⟩ := nm (wr.alloc (.cells #[.int .i64 (a : Nat), .slice LA ll lc] 112));rw [<- hW2] at hY hal2;rw [<- hS2] at hY;have hb2 := hbr.out.trans (hal2.mono hbr.out.size);have hP2 := hPr.below hal2 hPr.lt;have hM2 := hMr.below hal2;have hlo2 := ownB hlo hal2;have how := zj9 hM2 hr hs1 hs2;have hP2k := hP2;have hY2k := hY;have kp0 := bc hP2k 0;have kp1 := bc hP2k 1;have ky0 := bc hY2k 0;obtain ⟨HMr, HPr, Hrow, Hs, Hr, Hs1, Hs2, Hlive⟩ := hd8 hMr hPr hrow hs hr hs1 hs2 hlive;obtain ⟨Hlo, Hll, Ha, HS2, HY, Hal2, HW2, Hb2⟩ := hd8 hlo hll ha hS2 hY hal2 hW2 hb2;obtain ⟨HP2, HM2, Hlo2, How, HP2k, HY2k, Hbr⟩ := hd7 hP2 hM2 hlo2 how hP2k hY2k hbr;clear hbr hY2k hP2k how hlo2 hM2 hP2 hb2 hW2 hal2 hY hS2 ha hll hlo hlive hs2 hs1 hr hs hrow hPr hMr;go_upto_region 28 with fail;rw [<- HS2.out, <- HW2.out];clear c0 c1;go_wp2_with fail;refine How.out.mono ?_;rintro e W3 ⟨rfl, hb3⟩;have hY3 := HY.out.below hb3 HY.out.lt;have hP3 := HP2.out.below hb3 HP2.out.lt;have hM3 := HM2.out.below hb3;have hlo3 := ownB Hlo2.out hb3;have hbw3 := (Hb2.out.trans (hb3.mono Hb2.out.size)).drew;clear kp0 kp1 ky0;obtain ⟨Hb3, HY3, HP3, HM3, Hlo3, Hbw3⟩ := hd6 hb3 hY3 hP3 hM3 hlo3 hbw3;clear hbw3 hlo3 hM3 hP3 hY3 hb3;go_upto_region 29 with fail
     go_cut [182] from 165 to 182 (fun t wx => t = .bool false /\ wx = W3.drew)
     case first =>
      have hPk := HP3.out;have hYk := HY3.out;have kp1 := bc hPk 1;have ky0 := bc hYk 0;refine wp_region_noPanic ?_
      by_cases hj0 : j = 0
      ·subst hj0;refine wp_region_held_drew (S := fun W => W.cell? ⟨S2, 0, none⟩ = some (.int .i64 (a : Nat))) (by kernel_rfl) ky0 (fun hHeld => ?_);refine zab 0 ?_;refine zab 1 ?_;refine zab 2 ?_;refine zab 3 ?_;refine zab 4 ?_;refine zab 5 ?_;refine zac 6 ?_;refine zac 7 ?_;refine zac 8 ?_;refine zac 9 ?_;refine zac 10 ?_;refine zac 11 ?_;refine zac 12 ?_;refine zac 13 ?_;refine zac 14 ?_;refine zac 15 ?_;refine zab 16 ?_;refine zab 17 ?_;refine wpAnyH_done (by kernel_rfl) ?_ _;refine NoPanic.normal ?_;clear hHeld;go_wp2_with fail;go_meet;exact ⟨rfl, rfl⟩
      ·have hj0N : 0 < j := by omega
       obtain ⟨p, hp⟩ := mn (j - 1)
       obtain ⟨s', hs'⟩ : ∃ s', T.sites[p]? = some s' := ⟨_, List.getElem?_eq_getElem (by rw [Hn.out]; omega)⟩
       obtain ⟨_, _, d0, _⟩ := zhP HM3.out.its HM3.out.l1 (by rw [Hn.out]) hs';have hlt := HM3.out.ok.sup p j s' s hs' Hs.out (by omega);obtain ⟨a', ha'⟩ := mn (s'.1);rw [ha'] at d0
       have k3 : ¬ (a : Int) <= a' := by
        have := Ha.out
        omega
       have hwr : IntKind.i64.wrap ((j : Int) - 1) = p := by rw [IntKind.wrap_i64]; omega
       have hpl : p < n := by omega
       obtain ⟨Hs', Hlt, Ha'⟩ := hd3 hs' hlt ha';clear ha' hlt hs';refine wp_region_held_drew (S := fun W => W.cell? ⟨S2, 0, none⟩ = some (.int .i64 (a : Nat)) /\ W.cell? ⟨G, 1, none⟩ = some (.slice (some ⟨SB, 0, none⟩) n sc) /\ W.cell? ⟨SB, p * 2, none⟩ = some (.int .i64 (a' : Nat))) (by kernel_rfl) ⟨ky0, kp1, d0⟩ (fun hHeld => ?_);refine zab 0 ?_;refine zab 1 ?_;refine zab 2 ?_;refine zab 3 ?_;refine zab 4 ?_;refine zab 5 ?_;refine zab 6 ?_;refine zab 7 ?_;refine zab 8 ?_;refine zab 9 ?_;refine zab 10 ?_;refine zab 11 ?_;refine zab 12 ?_;refine zab 13 ?_;refine zab 14 ?_;refine zab 15 ?_;refine zab 16 ?_;refine zab 17 ?_;refine wpAnyH_done (by kernel_rfl) ?_ _;refine NoPanic.normal ?_;clear hHeld;go_wp2_with fail;go_meet;exact ⟨rfl, rfl⟩
     case rest =>
      obtain ⟨rfl, rfl⟩ := hcut;have hYk := HY3.out.drew;have hPk := HP3.out.drew;obtain ⟨_, _, _, _, hrow'⟩ := HM3.out.row Hr.out;have e2 := hrow' 2 _ rfl;have e2 : W3.drew.cell? ⟨FB, i * 6 + 2, none⟩ = some (.int .i64 r.size) := e2;have hlive := Hlive.out;obtain ⟨z, hz⟩ := mn (r.size);rw [hz] at e2 hlive;have ky1 := bc hYk 1;have kp0 := bc hPk 0;obtain ⟨HYk, HPk, Hrow', Hz, HLV⟩ := hd5 hYk hPk hrow' hz hlive;clear hlive hz hrow' hPk hYk;go_upto_region 32 with fail;clear ky1
      obtain ⟨wb, rfl⟩ : ∃ x, x = wr := ⟨_, rfl⟩
      obtain ⟨gb, rfl⟩ : ∃ x, x = gk := ⟨_, rfl⟩
      go_loopg [186] ll (fun gk iv wx => ∃ k : Nat, k + gk = ll /\ iv = .int .i64 k /\ wx = W3.drew)
      case atStart => exact ⟨0, by omega, rfl, rfl⟩
      case round =>
       obtain ⟨k, hk, rfl, rfl⟩ := hrel
       by_cases hkl : k < ll
       ·have hkI : (k : Int) < ll := by omega
        obtain ⟨la, u, hA, _, hu, hcu⟩ := (zdO (zdC Hlo3.out)).at_ hkl;subst hA
        obtain ⟨o, ho⟩ : ∃ o, s.2[k]? = some o := ⟨_, List.getElem?_eq_getElem (by rw [Hll.out]; exact hkl)⟩
        have hu2 : u = .int .i64 o := by
         rw [List.getElem?_map, ho] at hu;injection hu with hu;exact hu.symm
        subst hu2;obtain ⟨o0, oz, o8⟩ := HLV.out.word o (List.mem_of_getElem? ho);have hwy := zgn o z W3.drew o0 oz o8
        by_cases hk0 : k = 0
        ·subst hk0
         have hcu0 : W3.drew.cell? la = some (.int .i64 o) := by
          have := hcu;unfold Addr.add at this
          simpa using this
         obtain ⟨Ho, Hu, Ho8, Hwy⟩ := hd4 ho hu o8 hwy;clear hwy o8 hu ho;go_wp2_with fail;refine Hwy.out.mono ?_;rintro e w1 ⟨rfl, rfl⟩;go_wp2_with fail
         go_roundg (gk - 1)
         case measure => omega
         case rel => exact ⟨0 + 1, by omega, by go_num, rfl⟩
        ·have hk0N : 0 < k := by omega
         obtain ⟨p, hp⟩ := mn (k - 1);obtain ⟨la', u', hA', _, hu', hcu'⟩ := (zdO (zdC Hlo3.out)).at_ (show p < ll by omega);injection hA' with hA';subst hA'
         obtain ⟨o', ho'⟩ : ∃ o, s.2[p]? = some o := ⟨_, List.getElem?_eq_getElem (by rw [Hll.out]; omega)⟩
         have hu2' : u' = .int .i64 o' := by
          rw [List.getElem?_map, ho'] at hu';injection hu' with hu';exact hu'.symm
         subst hu2';have hlt : o' < o := zj2 HLV.out.up ho' ho (by omega)
         have k3 : ¬ o <= o' := by omega
         have hwr : IntKind.i64.wrap ((k : Int) - 1) = p := by rw [IntKind.wrap_i64]; omega
         have hkp : (k : Int) - 1 = p := by omega
         have hpl : p < ll := by omega
         have hYl := HYk.out;have ky1 := bc hYl 1;obtain ⟨HYl, Ho, Hu, Ho8, Hwy, Hu', Ho', Hlt⟩ := hd8 hYl ho hu o8 hwy hu' ho' hlt;clear hlt ho' hu' hwy o8 hu ho hYl;go_wp2_with fail;refine Hwy.out.mono ?_;rintro e w1 ⟨rfl, rfl⟩;go_wp2_with fail
         go_roundg (gk - 1)
         case measure => omega
         case rel => exact ⟨k + 1, by omega, by go_num, rfl⟩
       ·obtain rfl : ll = k := by omega
        have hkI : ¬ (ll : Int) < ll := by omega
        go_wp2_with fail
        go_roundg (gb - 1)
        case measure => omega
        case rel => exact ⟨j + 1, by omega, by go_num, Hbw3⟩
    ·obtain rfl : n = j := by omega
     have hjI2 : ¬ (n : Int) < n := by omega
     have hfin := Hb.out.trans (hbr.out.mono Hb.out.size);obtain ⟨Hfin, Hbr⟩ := hd2 hfin hbr;clear hbr hfin;go_wp2_with fail;go_ret;exact ⟨rfl, Hfin.out⟩
end
theorem zno : (Tryd.prog.info? 71).map (fun i => (i.zero, i.size, i.bytes)) = some (some (.agg #[.int .u8 0, .int .i64 0, .int .i64 0, .int .i64 0, .int .i32 0]), 5, 40) := by kernel_rfl
def mOf (r : List Int) : zaw := ⟨r.getD 0 0, r.getD 1 0, r.getD 2 0, r.getD 3 0, IntKind.i32.wrap (leV ((r.drop 4).take 4))⟩
def zgW : Nat -> List Int -> Option (List zaw)
 | 0, _ => some []
 | k + 1, r => if zaP (mOf (r.take 8)) then (zgW k (r.drop 8)).map (mOf (r.take 8) :: ·) else none
theorem znt : ∀ (ys : List Int), 8 <= ys.length -> ∃ x0 x1 x2 x3 x4 x5 x6 x7 zs, ys = x0 :: x1 :: x2 :: x3 :: x4 :: x5 :: x6 :: x7 :: zs
 | [], h => absurd h (by simp)
 | [_], h => absurd h (by simp)
 | [_, _], h => absurd h (by simp)
 | [_, _, _], h => absurd h (by simp)
 | [_, _, _, _], h => absurd h (by simp)
 | [_, _, _, _, _], h => absurd h (by simp)
 | [_, _, _, _, _, _], h => absurd h (by simp)
 | [_, _, _, _, _, _, _], h => absurd h (by simp)
 | x0 :: x1 :: x2 :: x3 :: x4 :: x5 :: x6 :: x7 :: zs, _ => ⟨x0, x1, x2, x3, x4, x5, x6, x7, zs, rfl⟩
theorem zji (i : zaw) (hw : i.Wf) : mOf (zbo i) = i := by
 obtain ⟨op, d, a, b, imm⟩ := i;have h := hw.imm;simp only at h
 have e : ((zbo ⟨op, d, a, b, imm⟩).drop 4).take 4 = zcl 4 (imm % 4294967296) := by
  rw [zbo, List.drop_append_of_le_length (by simp), List.drop_of_length_le (by simp), List.nil_append, List.take_of_length_le (by rw [zcX]; omega)]
 unfold mOf;rw [e, zku 4 _ (by omega), IntKind.wrap_i32];simp only [zbo, List.cons_append, List.getD_cons_zero, List.getD_cons_succ, zaw.mk.injEq, true_and]
 omega
theorem zhC : ∀ (l : List zaw), (∀ i ∈ l, i.Wf /\ zaP i = true) -> zgW l.length (l.flatMap zbo) = some l
 | [], _ => rfl
 | i :: l, h => by
  obtain ⟨hw, hg⟩ := h i (List.mem_cons_self ..)
  have ht : ((i :: l).flatMap zbo).take 8 = zbo i := by
   rw [List.flatMap_cons, List.take_append_of_le_length (by rw [zc6]; omega), List.take_of_length_le (by rw [zc6]; omega)]
  have hd : ((i :: l).flatMap zbo).drop 8 = l.flatMap zbo := by
   rw [List.flatMap_cons, List.drop_append_of_le_length (by rw [zc6]; omega), List.drop_of_length_le (by rw [zc6]; omega), List.nil_append]
  rw [List.length_cons, zgW, ht, hd, zji i hw, if_pos hg, zhC l (fun j hj => h j (List.mem_cons_of_mem _ hj))]
  rfl
def zeu (f : Nat) : Int := ([68, 65, 66, 73] : List Int).getD f 0
theorem zgC (op : Int) (cs : List Int) (h : zaS op = some cs) (f : Nat) (hf : f < 4) (w : World) :
  Calls Tryd.prog 81 #[.int .u8 op, .int .i64 f] w fun e w' => e = .returned (.bool (zbQ cs (zeu f))) /\ Below w.heap.size w w' := by
 by_cases h1 : op = 1 ∨ op = 2 ∨ op = 3 ∨ op = 4 ∨ op = 5 ∨ op = 6 ∨ op = 7 ∨ op = 8 ∨ op = 9 ∨ op = 10 ∨ op = 11 ∨ op = 12 ∨ op = 13
 ·rcases h1 with rfl | rfl | rfl | rfl | rfl | rfl | rfl | rfl | rfl | rfl | rfl | rfl | rfl
  all_goals
   simp only [zaS] at h;simp at h;subst h
   rcases (show f = 0 ∨ f = 1 ∨ f = 2 ∨ f = 3 by omega) with rfl | rfl | rfl | rfl
   all_goals
    go_enter Tryd.func81, Tryd.ntmps81;go_wp2_with fail;go_ret;exact ⟨by rfl, (Below.refl _ _).alloc (Nat.le_refl _) _⟩
 ·have h2 : 39 <= op /\ op <= 52 /\ cs = [68, 65, 66] := by
   unfold zaS at h;rw [if_neg (by omega), if_neg (by omega), if_neg (by omega), if_neg (by omega), if_neg (by omega), if_neg (by omega), if_neg (by omega), if_neg (by omega)] at h
   by_cases h3 : 39 <= op /\ op <= 52
   ·rw [if_pos h3] at h;injection h with h;exact ⟨h3.1, h3.2, h.symm⟩
   ·rw [if_neg h3] at h; cases h
  obtain ⟨g1, g2, rfl⟩ := h2
  have g3 : (32 : Int) <= op := by omega
  clear h h1
  rcases (show f = 0 ∨ f = 1 ∨ f = 2 ∨ f = 3 by omega) with rfl | rfl | rfl | rfl
  all_goals
   go_enter Tryd.func81, Tryd.ntmps81;go_wp2_with fail;go_ret;exact ⟨by rfl, Below.refl _ _⟩
theorem znm (i : zaw) (hw : i.Wf) (w : World) :
  Calls Tryd.prog 46 #[.agg (zaW i).toArray] w fun e w' => e = .returned (.bool (zaP i)) /\ Below w.heap.size w w' := by
 obtain ⟨op, d, a, b, imm⟩ := i;obtain ⟨⟨ho0, ho1⟩, ⟨hd0, hd1⟩, ⟨ha0, ha1⟩, ⟨hb0, hb1⟩, ⟨hi0, hi1⟩⟩ := hw;simp only at *;have hP0 := Blk.new w 71 #[.int .u8 op, .int .i64 d, .int .i64 a, .int .i64 b, .int .i32 imm];have hb00 : Below w.heap.size w (w.alloc (.cells #[.int .u8 op, .int .i64 d, .int .i64 a, .int .i64 b, .int .i32 imm] 71)) := (Below.refl _ _).alloc (Nat.le_refl _) _;show Calls Tryd.prog 46 #[.agg #[.int .u8 op, .int .i64 d, .int .i64 a, .int .i64 b, .int .i32 imm]] w _;have kp0 := bc hP0 0;have kp1 := bc hP0 1;have kp2 := bc hP0 2;have kp3 := bc hP0 3;have kp4 := bc hP0 4
 rcases hl : zaS op with _ | cs
 ·have hg : zaP ⟨op, d, a, b, imm⟩ = false := by unfold zaP; simp only [hl]
  have hno : op < 1 ∨ (13 < op /\ op < 39) ∨ 52 < op := by
   unfold zaS at hl
   by_cases g : op < 1 ∨ (13 < op /\ op < 39) ∨ 52 < op
   ·exact g
   ·exfalso
    repeat' split at hl
    all_goals first | (cases hl; done) | omega
  obtain ⟨Hg, Hl, Hb00, HP0⟩ := hd4 hg hl hb00 hP0;clear hP0 hb00 hl hg
  rcases hno with g1 | ⟨g1, g2⟩ | g1
  ·have g3 : ¬ 1 <= op := by omega
   have g4 : ¬ 39 <= op := by omega
   go_enter Tryd.func46, Tryd.ntmps46;go_wp2_with fail;go_ret;exact ⟨by rw [Hg.out]; rfl, Hb00.out⟩
  ·have g3 : 1 <= op := by omega
   have g5 : ¬ op <= 13 := by omega
   have g4 : ¬ 39 <= op := by omega
   go_enter Tryd.func46, Tryd.ntmps46;go_wp2_with fail;go_ret;exact ⟨by rw [Hg.out]; rfl, Hb00.out⟩
  ·have g3 : 1 <= op := by omega
   have g5 : ¬ op <= 13 := by omega
   have g4 : 39 <= op := by omega
   have g6 : ¬ op <= 52 := by omega
   go_enter Tryd.func46, Tryd.ntmps46;go_wp2_with fail;go_ret;exact ⟨by rw [Hg.out]; rfl, Hb00.out⟩
 ·have hQ0 := Blk.new2 w (.cells #[.int .u8 op, .int .i64 d, .int .i64 a, .int .i64 b, .int .i32 imm] 71) 3 #[.int .i64 d, .int .i64 a, .int .i64 b, .int .i64 imm];have hP1 := hP0.alloc (.cells #[.int .i64 d, .int .i64 a, .int .i64 b, .int .i64 imm] 3);have hb01 := hb00.alloc (by simp) (.cells #[.int .i64 d, .int .i64 a, .int .i64 b, .int .i64 imm] 3)
  have hyes : (1 <= op /\ op <= 13) ∨ (1 <= op /\ ¬ op <= 13 /\ 39 <= op /\ op <= 52) := by
   by_cases g : (1 <= op /\ op <= 13) ∨ (1 <= op /\ ¬ op <= 13 /\ 39 <= op /\ op <= 52)
   ·exact g
   ·exfalso
    unfold zaS at hl;rw [if_neg (by omega), if_neg (by omega), if_neg (by omega), if_neg (by omega), if_neg (by omega), if_neg (by omega), if_neg (by omega), if_neg (by omega), if_neg (by omega)] at hl
    cases hl
  obtain ⟨Hl, Hb00, HP0, HQ0, HP1, Hb01⟩ := hd6 hl hb00 hP0 hQ0 hP1 hb01;clear hb01 hP1 hQ0 hP0 hb00 hl;go_enter Tryd.func46, Tryd.ntmps46;go_upto_region 1 with fail
  go_cut [23] from 5 to 23 (fun c wx => c = .bool false /\ wx = w.alloc (.cells #[.int .u8 op, .int .i64 d, .int .i64 a, .int .i64 b, .int .i32 imm] 71))
  case first =>
   rcases hyes with ⟨y1, y2⟩ | ⟨y1, y2, y3, y4⟩
   ·go_wp2_with fail;go_meet;exact ⟨rfl, rfl⟩
   ·go_wp2_with fail;go_meet;exact ⟨rfl, rfl⟩
  case rest =>
   obtain ⟨hv1, hw1⟩ := hcut;subst hv1 hw1;clear hyes;go_wp2_with fail
   go_loopw [4] (fun i wq => ∃ k : Nat, k <= 4 /\ i = .int .i64 k /\ Blk wq w.heap.size 71 #[.int .u8 op, .int .i64 d, .int .i64 a, .int .i64 b, .int .i32 imm] /\ Blk wq (w.heap.size + 1) 3 #[.int .i64 d, .int .i64 a, .int .i64 b, .int .i64 imm] /\ Below w.heap.size w wq /\ Hid (zbt ⟨op, d, a, b, imm⟩ cs k)) (fun i _ => 4 - (intOf i).toNat)
   case atStart => exact ⟨0, by omega, rfl, HP1.out, HQ0.out, Hb01.out, (show zbt _ _ _ from ⟨by omega, by omega, by omega, by omega⟩)⟩
   case round =>
    obtain ⟨k, hk, rfl, hP, hQ, hbw, hparts⟩ := hrel;clear kp0 kp1 kp2 kp3 kp4
    by_cases hk4 : k < 4
    ·have kq0 := bc hQ 0;have kq1 := bc hQ 1;have kq2 := bc hQ 2;have kq3 := bc hQ 3;have kp0 := bc hP 0;have kp4 := bc hP 4;obtain ⟨HP, HQ, Hbw⟩ := hd3 hP hQ hbw;clear hbw hQ hP
     rcases (show k = 0 ∨ k = 1 ∨ k = 2 ∨ k = 3 by omega) with rfl | rfl | rfl | rfl
     ·obtain ⟨U, hu⟩ := mn (zbQ cs 68);go_wp2_with fail;refine (zgC op cs Hl.out 0 (by omega) wr).mono ?_;rintro e w5 ⟨rfl, hb5⟩;rw [show zbQ cs (zeu 0) = U from hu];have hP5 := HP.out.below hb5 HP.out.lt;have hQ5 := HQ.out.below hb5 HQ.out.lt;have hbw5 := Hbw.out.trans (hb5.mono Hbw.out.size);clear kq0 kq1 kq2 kq3;have kq0 := bc hQ5 0;have kq1 := bc hQ5 1;have kq2 := bc hQ5 2;have kq3 := bc hQ5 3;have kp0 := bc hP5 0;have kp4 := bc hP5 4;obtain ⟨Hu, HP5, HQ5, Hbw5⟩ := hd4 hu hP5 hQ5 hbw5;clear hbw5 hQ5 hP5 hu;clear hb5
      cases U with
      | true =>
       by_cases g1 : d < 0
       ·have hno : zap (zbQ cs 68) true d = false := by rw [Hu.out, zap]; simp; omega
        have hg : zaP ⟨op, d, a, b, imm⟩ = false := by unfold zaP; simp only [Hl.out, hno, Bool.false_and, Bool.and_false]
        obtain ⟨Hg, Hno⟩ := hd2 hg hno;clear hno hg;go_wp2_with fail;go_ret;exact ⟨by rw [Hg.out]; rfl, Hbw5.out⟩
       ·by_cases g2 : 15 < d
        ·have hno : zap (zbQ cs 68) true d = false := by rw [Hu.out, zap]; simp; omega
         have hg : zaP ⟨op, d, a, b, imm⟩ = false := by unfold zaP; simp only [Hl.out, hno, Bool.false_and, Bool.and_false]
         obtain ⟨Hg, Hno⟩ := hd2 hg hno;clear hno hg;go_wp2_with fail;go_ret;exact ⟨by rw [Hg.out]; rfl, Hbw5.out⟩
        ·have hok : zap (zbQ cs 68) true d = true := by rw [Hu.out, zap]; simp; omega
         have hp : zbt ⟨op, d, a, b, imm⟩ cs (0 + 1) := ⟨fun _ => hok, fun h => by omega, fun h => by omega, fun h => by omega⟩
         obtain ⟨Hp, Hok⟩ := hd2 hp hok;clear hok hp;go_wp2_with fail;exact ⟨⟨0 + 1, by omega, by go_num, HP5.out, HQ5.out, Hbw5.out, Hp.out⟩, by simp [intOf]⟩
      | false =>
       by_cases g1 : d = 0
       ·have hok : zap (zbQ cs 68) true d = true := by rw [Hu.out, zap]; simp [g1]
        have g4 : ¬ d < 0 := by omega
        have g5 : ¬ 15 < d := by omega
        have g6 : (d != 0) = false := by simpa using g1
        have Hg1 := Lib.hid g1;clear g1
        have hp : zbt ⟨op, d, a, b, imm⟩ cs (0 + 1) := ⟨fun _ => hok, fun h => by omega, fun h => by omega, fun h => by omega⟩
        obtain ⟨Hp, Hok⟩ := hd2 hp hok;clear hok hp;go_wp2_with fail;exact ⟨⟨0 + 1, by omega, by go_num, HP5.out, HQ5.out, Hbw5.out, Hp.out⟩, by simp [intOf]⟩
       ·have hno : zap (zbQ cs 68) true d = false := by rw [Hu.out, zap]; simp [g1]
        have hg : zaP ⟨op, d, a, b, imm⟩ = false := by unfold zaP; simp only [Hl.out, hno, Bool.false_and, Bool.and_false]
        have g6 : (d != 0) = true := by simpa using g1
        obtain ⟨Hg, Hno⟩ := hd2 hg hno;clear hno hg;go_wp2_with fail;go_ret;exact ⟨by rw [Hg.out]; rfl, Hbw5.out⟩
     ·obtain ⟨U, hu⟩ := mn (zbQ cs 65);go_wp2_with fail;refine (zgC op cs Hl.out 1 (by omega) wr).mono ?_;rintro e w5 ⟨rfl, hb5⟩;rw [show zbQ cs (zeu 1) = U from hu];have hP5 := HP.out.below hb5 HP.out.lt;have hQ5 := HQ.out.below hb5 HQ.out.lt;have hbw5 := Hbw.out.trans (hb5.mono Hbw.out.size);clear kq0 kq1 kq2 kq3;have kq0 := bc hQ5 0;have kq1 := bc hQ5 1;have kq2 := bc hQ5 2;have kq3 := bc hQ5 3;have kp0 := bc hP5 0;have kp4 := bc hP5 4;obtain ⟨Hu, HP5, HQ5, Hbw5⟩ := hd4 hu hP5 hQ5 hbw5;clear hbw5 hQ5 hP5 hu;clear hb5
      cases U with
      | true =>
       by_cases g1 : a < 0
       ·have hno : zap (zbQ cs 65) true a = false := by rw [Hu.out, zap]; simp; omega
        have hg : zaP ⟨op, d, a, b, imm⟩ = false := by unfold zaP; simp only [Hl.out, hno, Bool.false_and, Bool.and_false]
        obtain ⟨Hg, Hno⟩ := hd2 hg hno;clear hno hg;go_wp2_with fail;go_ret;exact ⟨by rw [Hg.out]; rfl, Hbw5.out⟩
       ·by_cases g2 : 15 < a
        ·have hno : zap (zbQ cs 65) true a = false := by rw [Hu.out, zap]; simp; omega
         have hg : zaP ⟨op, d, a, b, imm⟩ = false := by unfold zaP; simp only [Hl.out, hno, Bool.false_and, Bool.and_false]
         obtain ⟨Hg, Hno⟩ := hd2 hg hno;clear hno hg;go_wp2_with fail;go_ret;exact ⟨by rw [Hg.out]; rfl, Hbw5.out⟩
        ·have hok : zap (zbQ cs 65) true a = true := by rw [Hu.out, zap]; simp; omega
         have hp : zbt ⟨op, d, a, b, imm⟩ cs (1 + 1) := ⟨fun _ => hparts.out.1 (by omega), fun _ => hok, fun h => by omega, fun h => by omega⟩
         obtain ⟨Hp, Hok⟩ := hd2 hp hok;clear hok hp;go_wp2_with fail;exact ⟨⟨1 + 1, by omega, by go_num, HP5.out, HQ5.out, Hbw5.out, Hp.out⟩, by simp [intOf]⟩
      | false =>
       by_cases g1 : a = 0
       ·have hok : zap (zbQ cs 65) true a = true := by rw [Hu.out, zap]; simp [g1]
        have g4 : ¬ a < 0 := by omega
        have g5 : ¬ 15 < a := by omega
        have g6 : (a != 0) = false := by simpa using g1
        have Hg1 := Lib.hid g1;clear g1
        have hp : zbt ⟨op, d, a, b, imm⟩ cs (1 + 1) := ⟨fun _ => hparts.out.1 (by omega), fun _ => hok, fun h => by omega, fun h => by omega⟩
        obtain ⟨Hp, Hok⟩ := hd2 hp hok;clear hok hp;go_wp2_with fail;exact ⟨⟨1 + 1, by omega, by go_num, HP5.out, HQ5.out, Hbw5.out, Hp.out⟩, by simp [intOf]⟩
       ·have hno : zap (zbQ cs 65) true a = false := by rw [Hu.out, zap]; simp [g1]
        have hg : zaP ⟨op, d, a, b, imm⟩ = false := by unfold zaP; simp only [Hl.out, hno, Bool.false_and, Bool.and_false]
        have g6 : (a != 0) = true := by simpa using g1
        obtain ⟨Hg, Hno⟩ := hd2 hg hno;clear hno hg;go_wp2_with fail;go_ret;exact ⟨by rw [Hg.out]; rfl, Hbw5.out⟩
     ·obtain ⟨U, hu⟩ := mn (zbQ cs 66);go_wp2_with fail;refine (zgC op cs Hl.out 2 (by omega) wr).mono ?_;rintro e w5 ⟨rfl, hb5⟩;rw [show zbQ cs (zeu 2) = U from hu];have hP5 := HP.out.below hb5 HP.out.lt;have hQ5 := HQ.out.below hb5 HQ.out.lt;have hbw5 := Hbw.out.trans (hb5.mono Hbw.out.size);clear kq0 kq1 kq2 kq3;have kq0 := bc hQ5 0;have kq1 := bc hQ5 1;have kq2 := bc hQ5 2;have kq3 := bc hQ5 3;have kp0 := bc hP5 0;have kp4 := bc hP5 4;obtain ⟨Hu, HP5, HQ5, Hbw5⟩ := hd4 hu hP5 hQ5 hbw5;clear hbw5 hQ5 hP5 hu;clear hb5
      cases U with
      | true =>
       by_cases g1 : b < 0
       ·have hno : zap (zbQ cs 66) true b = false := by rw [Hu.out, zap]; simp; omega
        have hg : zaP ⟨op, d, a, b, imm⟩ = false := by unfold zaP; simp only [Hl.out, hno, Bool.false_and, Bool.and_false]
        obtain ⟨Hg, Hno⟩ := hd2 hg hno;clear hno hg;go_wp2_with fail;go_ret;exact ⟨by rw [Hg.out]; rfl, Hbw5.out⟩
       ·by_cases g2 : 15 < b
        ·have hno : zap (zbQ cs 66) true b = false := by rw [Hu.out, zap]; simp; omega
         have hg : zaP ⟨op, d, a, b, imm⟩ = false := by unfold zaP; simp only [Hl.out, hno, Bool.false_and, Bool.and_false]
         obtain ⟨Hg, Hno⟩ := hd2 hg hno;clear hno hg;go_wp2_with fail;go_ret;exact ⟨by rw [Hg.out]; rfl, Hbw5.out⟩
        ·have hok : zap (zbQ cs 66) true b = true := by rw [Hu.out, zap]; simp; omega
         have hp : zbt ⟨op, d, a, b, imm⟩ cs (2 + 1) := ⟨fun _ => hparts.out.1 (by omega), fun _ => hparts.out.2.1 (by omega), fun _ => hok, fun h => by omega⟩
         obtain ⟨Hp, Hok⟩ := hd2 hp hok;clear hok hp;go_wp2_with fail;exact ⟨⟨2 + 1, by omega, by go_num, HP5.out, HQ5.out, Hbw5.out, Hp.out⟩, by simp [intOf]⟩
      | false =>
       by_cases g1 : b = 0
       ·have hok : zap (zbQ cs 66) true b = true := by rw [Hu.out, zap]; simp [g1]
        have g4 : ¬ b < 0 := by omega
        have g5 : ¬ 15 < b := by omega
        have g6 : (b != 0) = false := by simpa using g1
        have Hg1 := Lib.hid g1;clear g1
        have hp : zbt ⟨op, d, a, b, imm⟩ cs (2 + 1) := ⟨fun _ => hparts.out.1 (by omega), fun _ => hparts.out.2.1 (by omega), fun _ => hok, fun h => by omega⟩
        obtain ⟨Hp, Hok⟩ := hd2 hp hok;clear hok hp;go_wp2_with fail;exact ⟨⟨2 + 1, by omega, by go_num, HP5.out, HQ5.out, Hbw5.out, Hp.out⟩, by simp [intOf]⟩
       ·have hno : zap (zbQ cs 66) true b = false := by rw [Hu.out, zap]; simp [g1]
        have hg : zaP ⟨op, d, a, b, imm⟩ = false := by unfold zaP; simp only [Hl.out, hno, Bool.false_and, Bool.and_false]
        have g6 : (b != 0) = true := by simpa using g1
        obtain ⟨Hg, Hno⟩ := hd2 hg hno;clear hno hg;go_wp2_with fail;go_ret;exact ⟨by rw [Hg.out]; rfl, Hbw5.out⟩
     ·obtain ⟨U, hu⟩ := mn (zbQ cs 73);go_wp2_with fail;refine (zgC op cs Hl.out 3 (by omega) wr).mono ?_;rintro e w5 ⟨rfl, hb5⟩;rw [show zbQ cs (zeu 3) = U from hu];have hP5 := HP.out.below hb5 HP.out.lt;have hQ5 := HQ.out.below hb5 HQ.out.lt;have hbw5 := Hbw.out.trans (hb5.mono Hbw.out.size);clear kq0 kq1 kq2 kq3;have kq0 := bc hQ5 0;have kq1 := bc hQ5 1;have kq2 := bc hQ5 2;have kq3 := bc hQ5 3;have kp0 := bc hP5 0;have kp4 := bc hP5 4;obtain ⟨Hu, HP5, HQ5, Hbw5⟩ := hd4 hu hP5 hQ5 hbw5;clear hbw5 hQ5 hP5 hu;clear hb5
      cases U with
      | true =>
       by_cases g0 : True
       ·have hok : zap (zbQ cs 73) false imm = true := by rw [Hu.out, zap]; simp
        have hp : zbt ⟨op, d, a, b, imm⟩ cs (3 + 1) := ⟨fun _ => hparts.out.1 (by omega), fun _ => hparts.out.2.1 (by omega), fun _ => hparts.out.2.2.1 (by omega), fun _ => hok⟩
        obtain ⟨Hp, Hok⟩ := hd2 hp hok;clear hok hp;go_wp2_with fail;exact ⟨⟨3 + 1, by omega, by go_num, HP5.out, HQ5.out, Hbw5.out, Hp.out⟩, by simp [intOf]⟩
       ·exact absurd trivial g0
      | false =>
       by_cases g1 : imm = 0
       ·have hok : zap (zbQ cs 73) false imm = true := by rw [Hu.out, zap]; simp [g1]
        have g4 : ¬ imm < 0 := by omega
        have g5 : ¬ 15 < imm := by omega
        have g6 : (imm != 0) = false := by simpa using g1
        have Hg1 := Lib.hid g1;clear g1
        have hp : zbt ⟨op, d, a, b, imm⟩ cs (3 + 1) := ⟨fun _ => hparts.out.1 (by omega), fun _ => hparts.out.2.1 (by omega), fun _ => hparts.out.2.2.1 (by omega), fun _ => hok⟩
        obtain ⟨Hp, Hok⟩ := hd2 hp hok;clear hok hp;go_wp2_with fail;exact ⟨⟨3 + 1, by omega, by go_num, HP5.out, HQ5.out, Hbw5.out, Hp.out⟩, by simp [intOf]⟩
       ·have hno : zap (zbQ cs 73) false imm = false := by rw [Hu.out, zap]; simp [g1]
        have hg : zaP ⟨op, d, a, b, imm⟩ = false := by unfold zaP; simp only [Hl.out, hno, Bool.false_and, Bool.and_false]
        have g6 : (imm != 0) = true := by simpa using g1
        obtain ⟨Hg, Hno⟩ := hd2 hg hno;clear hno hg;go_wp2_with fail;go_ret;exact ⟨by rw [Hg.out]; rfl, Hbw5.out⟩
    ·obtain rfl : k = 4 := by omega
     obtain ⟨p1, p2, p3, p4⟩ := hparts.out
     have hg : zaP ⟨op, d, a, b, imm⟩ = za2 op imm := by
      unfold zaP;simp only [Hl.out];rw [p1 (by omega), p2 (by omega), p3 (by omega), p4 (by omega)];simp
     have kp0 := bc hP 0;have kp4 := bc hP 4;obtain ⟨Hg, HP, HQ, Hbw⟩ := hd4 hg hP hQ hbw;clear hbw hQ hP hg;clear hparts p1 p2 p3 p4;obtain ⟨r8, hr8⟩ := mn (imm.tmod 8)
     by_cases h13 : op = 11 ∨ op = 12 ∨ op = 13
     ·have h8 : 0 <= imm -> r8 = imm % 8 := fun h => by rw [<- hr8, Int.tmod_eq_emod_of_nonneg h]
      have hc : (0 <= imm /\ imm <= 65536 /\ (r8 == 0) = true) ∨ (0 <= imm /\ imm <= 65536 /\ (r8 == 0) = false) ∨ (0 <= imm /\ ¬ imm <= 65536) ∨ (¬ 0 <= imm /\ True) := by
       by_cases g1 : 0 <= imm <;> by_cases g2 : imm <= 65536 <;> by_cases g3 : r8 = 0 <;> simp [g1, g2, g3]
      have hs1 : (0 <= imm /\ imm <= 65536 /\ (r8 == 0) = true) -> (op = 11 ∨ op = 12) -> za2 op imm = true := fun ⟨g1, g2, g3⟩ g4 => by
       have := h8 g1
       have g3' : r8 = 0 := by simpa using g3
       unfold za2;rw [if_pos g4];simp [g1, g2]; omega
      have hs2 : (0 <= imm /\ imm <= 65536 /\ (r8 == 0) = false) -> (op = 11 ∨ op = 12) -> za2 op imm = false := fun ⟨g1, g2, g3⟩ g4 => by
       have := h8 g1
       have g3' : r8 ≠ 0 := by simpa using g3
       unfold za2;rw [if_pos g4];simp [g1, g2]; omega
      have hs3 : (0 <= imm /\ ¬ imm <= 65536) -> (op = 11 ∨ op = 12) -> za2 op imm = false := fun ⟨g1, g2⟩ g4 => by
       unfold za2; rw [if_pos g4]; simp [g1, g2]
      have hs4 : (¬ 0 <= imm) -> (op = 11 ∨ op = 12 ∨ op = 13) -> za2 op imm = false := fun g1 g4 => by
       unfold za2
       by_cases g5 : op = 11 ∨ op = 12
       ·rw [if_pos g5]; simp [g1]
       ·rw [if_neg g5, if_pos (by omega)]; simp [g1]
      have hs5 : 0 <= imm -> op = 13 -> za2 op imm = true := fun g1 g4 => by
       unfold za2; rw [if_neg (by omega), if_pos g4]; simp [g1]
      obtain ⟨Hs1, Hs2, Hs3, Hs4, Hs5, H8⟩ := hd6 hs1 hs2 hs3 hs4 hs5 h8;clear h8 hs5 hs4 hs3 hs2 hs1
      rcases h13 with rfl | rfl | rfl
      ·rcases hc with ⟨g1, g2, g3⟩ | ⟨g1, g2, g3⟩ | ⟨g1, g2⟩ | ⟨g1, _⟩
       ·have hgg := Hs1.out ⟨g1, g2, g3⟩ (by omega);have Hgg := Lib.hid hgg;clear hgg;go_wp2_with fail;go_ret;exact ⟨by rw [Hg.out, Hgg.out]; rfl, Hbw.out⟩
       ·have hgg := Hs2.out ⟨g1, g2, g3⟩ (by omega);have Hgg := Lib.hid hgg;clear hgg;go_wp2_with fail;go_ret;exact ⟨by rw [Hg.out, Hgg.out]; rfl, Hbw.out⟩
       ·have hgg := Hs3.out ⟨g1, g2⟩ (by omega);have Hgg := Lib.hid hgg;clear hgg;go_wp2_with fail;go_ret;exact ⟨by rw [Hg.out, Hgg.out]; rfl, Hbw.out⟩
       ·have hgg := Hs4.out g1 (by omega);have Hgg := Lib.hid hgg;clear hgg;go_wp2_with fail;go_ret;exact ⟨by rw [Hg.out, Hgg.out]; rfl, Hbw.out⟩
      ·rcases hc with ⟨g1, g2, g3⟩ | ⟨g1, g2, g3⟩ | ⟨g1, g2⟩ | ⟨g1, _⟩
       ·have hgg := Hs1.out ⟨g1, g2, g3⟩ (by omega);have Hgg := Lib.hid hgg;clear hgg;go_wp2_with fail;go_ret;exact ⟨by rw [Hg.out, Hgg.out]; rfl, Hbw.out⟩
       ·have hgg := Hs2.out ⟨g1, g2, g3⟩ (by omega);have Hgg := Lib.hid hgg;clear hgg;go_wp2_with fail;go_ret;exact ⟨by rw [Hg.out, Hgg.out]; rfl, Hbw.out⟩
       ·have hgg := Hs3.out ⟨g1, g2⟩ (by omega);have Hgg := Lib.hid hgg;clear hgg;go_wp2_with fail;go_ret;exact ⟨by rw [Hg.out, Hgg.out]; rfl, Hbw.out⟩
       ·have hgg := Hs4.out g1 (by omega);have Hgg := Lib.hid hgg;clear hgg;go_wp2_with fail;go_ret;exact ⟨by rw [Hg.out, Hgg.out]; rfl, Hbw.out⟩
      ·clear hc
       by_cases g1 : 0 <= imm
       ·have hgg := Hs5.out g1 rfl;have Hgg := Lib.hid hgg;clear hgg;go_wp2_with fail;go_ret;exact ⟨by rw [Hg.out, Hgg.out]; rfl, Hbw.out⟩
       ·have hgg := Hs4.out g1 (by omega);have Hgg := Lib.hid hgg;clear hgg;go_wp2_with fail;go_ret;exact ⟨by rw [Hg.out, Hgg.out]; rfl, Hbw.out⟩
     ·have hgg : za2 op imm = true := by unfold za2; rw [if_neg (by omega), if_neg (by omega)]
      have e1 : (op == 11) = false /\ (op == 12) = false /\ (op == 13) = false := by simp only [beq_eq_false_iff_ne, ne_eq]; omega
      have e2 : (op != 13) = true := by simp only [bne_iff_ne, ne_eq]; omega
      have Hgg := Lib.hid hgg;clear hgg;clear h13 hr8;go_wp2_with fail;go_ret;exact ⟨by rw [Hg.out, Hgg.out]; rfl, Hbw.out⟩
end Go.Proofs.YtnfjjliiajaijaaDoor
