/- Walk of layout.Layout. Conditions: the graphs lie in memory, and are right. -/
import Derived.Test.YtnfjjliiajaijaaDoorPfAA
import Derived.Test.YtnfjjliiajaijaaDoorPfAH
import Derived.Test.YtnfjjliiajaijaaDoorPfAQ
import Derived.Laws.ResultCell
import Derived.Deep.CutBlock
import Derived.Deep.DeepMust
import Derived.Deep.DeepCutAuto
set_option linter.unusedVariables false
set_option linter.unusedSimpArgs false
set_option maxRecDepth 100000
set_option maxHeartbeats 16000000
namespace Go.Proofs.YtnfjjliiajaijaaDoor
open Go.RowKit
def znw (g : zad) (w : World) (e : Ending) (w' : World) : Prop :=
 Below w.heap.size w w' /\ ∃ v, e = .returned (.tuple #[v, .int .i64 0]) /\ zl8 w' w.heap.size v g
def zgT (g : zad) (w : World) (e : Ending) (w' : World) : Prop :=
 Below w.heap.size w w' /\ ∃ v, e = .returned (.tuple #[v, .int .i64 0]) /\ zl8 w' w.heap.size v g /\ ∃ z sv cv vv r, v = .agg #[z, sv, cv, vv, r] /\ ∀ b, sv.ownBlock = some b -> cv.ownBlock ≠ some b
theorem zlw : (Tryd.prog.info? 3).map (fun i => (i.zero, i.size, i.bytes)) = some (some (.int .i64 0), 1, 8) := by kernel_rfl
theorem zlv : (Tryd.prog.info? 50).map (fun i => (i.zero, i.size, i.bytes)) = some (some (.agg #[.int .i64 0, .int .i64 0]), 2, 16) := by kernel_rfl
structure zl4 (g : zad) : Prop where
 k0 : 16 <= g.kinds.length
 k1 : g.kinds.length <= 1024
 c0 : 0 <= g.cells
 c1 : g.cells <= 64
 n1 : g.nodes.length <= 4096
theorem zfd {gs : List zad} (h : za3 gs true = true) : ∀ g ∈ gs, zl4 g := fun g hg => by
 unfold za3 at h;rw [Bool.and_eq_true, Bool.and_eq_true] at h;have h4 := List.all_eq_true.1 h.1.2 g hg;have h5 := (zby h4).2.2;unfold zca zif zfV at h4;simp only [Bool.and_eq_true, Bool.not_eq_true', Bool.or_eq_false_iff, decide_eq_false_iff_not, Bool.true_and] at h4;exact ⟨by omega, by omega, by omega, by omega, h5.2⟩
theorem zib (w : World) (B : Nat) (gv : Value) (gs : List zad) (f : Nat) (g : zad) (hg : zaI w B gv gs) (hB : B <= w.heap.size) (hok : zfl gs) (hc : za3 gs true = true) (hgf : gs[f]? = some g) :
  Calls Tryd.prog 19 #[.agg #[gv], .int .i64 f] w fun e w' => zgT g w e w' := by
 obtain ⟨i0, hi0, iz0, iz1, iz2⟩ := info_parts zlw;obtain ⟨is, his, hsz0, hsz1, hsz2⟩ := info_parts zlv;obtain ⟨hk0, hk1, hc0, hc1, hn1⟩ := zfd hc g (List.mem_of_getElem? hgf);obtain ⟨GA, gc, rfl, hgc1, hgc2⟩ := hg.slice;obtain ⟨gn, hgn⟩ := mn (gs.length)
 have hfn : f < gn := by rw [<- hgn]; exact (List.getElem?_eq_some_iff.1 hgf).1
 rw [hgn] at hg hgc1 ⊢;unfold maxLen at hgc2;obtain ⟨Gs, hGs⟩ := nm (w.heap.size);obtain ⟨R, hR⟩ := nm (w.heap.size + 1);have hP := (Blk.new w 24 #[.slice GA gn gc]).alloc (.cells #[.int .i64 0, .slice none 0 0, .slice none 0 0, .slice none 0 0, .int .i64 0] 73);have hQ := Blk.new2 w (.cells #[.slice GA gn gc] 24) 73 #[.int .i64 0, .slice none 0 0, .slice none 0 0, .slice none 0 0, .int .i64 0];have hb := ((Below.refl w.heap.size w).alloc (Nat.le_refl _) (.cells #[.slice GA gn gc] 24)).alloc (by simp) (.cells #[.int .i64 0, .slice none 0 0, .slice none 0 0, .slice none 0 0, .int .i64 0] 73);obtain ⟨V, hV⟩ := nm ((w.alloc (.cells #[.slice GA gn gc] 24)).alloc (.cells #[.int .i64 0, .slice none 0 0, .slice none 0 0, .slice none 0 0, .int .i64 0] 73));rw [<- hV] at hb hP hQ;rw [<- hGs] at hP;rw [<- hR] at hQ;have hA := hg.below (hb.mono hB);have hchk := zfL hA (Nat.le_trans hB hb.size) hok true;rw [hc] at hchk;have kp0 := bc hP 0;have hPl := hP.lt;have hQl := hQ.lt;have hzV := hb.size;obtain ⟨Hb, HP, HQ, HV, HGGs, HHR, HA, Hg⟩ := hd8 hb hP hQ hV hGs hR hA hg;obtain ⟨Hchk, Hok, Hc, Hgn, HB⟩ := hd5 hchk hok hc hgn hB;clear hB hgn hc hok hchk hg hA hR hGs hV hQ hP hb;go_enter Tryd.func19, Tryd.ntmps19;go_upto_region 1 with fail;rw [<- HV.out, <- HHR.out, <- HGGs.out];go_wp2_with fail;refine Hchk.out.mono ?_;rintro e w2 ⟨rfl, hb2⟩;have hbw2 := Hb.out.trans (hb2.mono hzV);have hA2 := HA.out.below (hb2.mono (Nat.le_trans HB.out hzV));have hP2 := HP.out.below hb2 hPl;have hQ2 := HQ.out.below hb2 hQl;have hz2 := hbw2.size;obtain ⟨ad, pv, kv, iv, nv, rfl, _, hGM⟩ := hA2.at_ hgf;have c0 := hGM.c0;have c1 := hGM.c1;have c2 := hGM.c2;have c3 := hGM.c3;have c4 := hGM.c4;have c5 := hGM.c5;have c6 := hGM.c6;have c7 := hGM.c7
 have hf0 : ¬ (f : Int) < 0 := by omega
 have hf1 : ¬ (gn : Int) <= f := by omega
 have hf2 : decide (gn <= f) = false := by simp; omega
 have hf3 : decide ((f : Int) < 0) = false := by simp
 clear kp0;have kp0 := bc hP2 0;obtain ⟨KA, kc, hkv, hkc, _, hKR⟩ := hGM.kinds.slice
 obtain ⟨NA, nc, hnv, hnc1, hnc2⟩ : ∃ NA nc, nv = .slice NA g.nodes.length nc /\ g.nodes.length <= nc /\ nc <= maxLen := by
  obtain ⟨NA, nn, nc, css, h1, h2, h3, h4, _⟩ := hGM.nodes;exact ⟨NA, nc, by rw [h1, h4], by omega, h3⟩
 obtain ⟨nn, hnl⟩ := mn (g.nodes.length);rw [hnl] at hnv hnc1 hn1;obtain ⟨kn, hkn⟩ := mn (g.kinds.length);rw [hkn] at hkv hk0 hk1 hkc;rw [hkv] at c1;rw [hnv] at c6;obtain ⟨PA, pc, hpv, _⟩ := hGM.params.slice;obtain ⟨IA, ic, hiv, _⟩ := hGM.init.slice;rw [hpv] at c0;rw [hiv] at c3
 obtain ⟨ns, hns⟩ : ∃ ns : Nat, (kn : Int) - 16 = ns := ⟨kn - 16, by omega⟩
 have hnsg : zaG g = ns := by unfold zaG; omega
 have hns1 : ns <= 1008 := by omega
 obtain ⟨Gb, hGb⟩ := nm (w2.heap.size);obtain ⟨L, hL⟩ := nm (w2.heap.size + 1);obtain ⟨gcs, hgcs⟩ := nm (#[pv, kv, .int .i64 g.cells, iv, .bool g.result, .int .i64 g.keep, nv, .int .i64 g.entry] : Array Value);have hX := (Blk.new w2 44 gcs).alloc (.cells #[.int .i64 0, .slice none 0 0, .slice none 0 0, .slice none 0 0, .int .i64 (-1)] 73);have hY := Blk.new2 w2 (.cells gcs 44) 73 #[.int .i64 0, .slice none 0 0, .slice none 0 0, .slice none 0 0, .int .i64 (-1)];have hal := ((Below.refl w2.heap.size w2).alloc (Nat.le_refl _) (.cells gcs 44)).alloc (by simp) (.cells #[.int .i64 0, .slice none 0 0, .slice none 0 0, .slice none 0 0, .int .i64 (-1)] 73);obtain ⟨W4, hW4⟩ := nm ((w2.alloc (.cells gcs 44)).alloc (.cells #[.int .i64 0, .slice none 0 0, .slice none 0 0, .slice none 0 0, .int .i64 (-1)] 73));rw [<- hW4] at hX hY hal;rw [<- hGb] at hX;rw [<- hL] at hY;have hb4 := hbw2.trans (hal.mono hz2);have hR4 := hQ2.below hal hQ2.lt;obtain ⟨rz, hrz⟩ := nm (#[.int .i64 0, .slice none 0 0, .slice none 0 0, .slice none 0 0, .int .i64 0] : Array Value)
 have hrzs : rz.size = 5 := by rw [hrz]; rfl
 rw [<- hrz] at hR4;have hN4 := hGM.nodes.keep (fun _ hp => (hal.mono (Nat.le_trans HB.out hz2)).cell hp) (fun _ _ h => h.keep fun _ hp => (hal.mono (Nat.le_trans HB.out hz2)).cell hp)
 have hNw : ∀ W : World, Below w.heap.size w W -> zaE 12 zbj W B nv g.nodes := fun W hb => by
  have hk : ∀ p : Addr, p.block < B -> W.cell? p = w2.cell? p := fun p hp => ((hb.mono HB.out).cell hp).trans ((hbw2.mono HB.out).cell hp).symm
  exact hGM.nodes.keep hk fun _ _ h => h.keep hk
 have hz4 := hb4.size
 have hLw : w.heap.size <= L := by omega
 have hLR : R ≠ L := by have := hQ2.lt; omega
 have hGR : Gb ≠ L := by omega
 have hRG : R ≠ Gb := by have := hQ2.lt; omega
 have hXl : Gb < W4.heap.size := hX.lt;rw [hnv] at hN4 hNw
 obtain ⟨gcl, hgcl⟩ : ∃ gcl : Nat, g.cells = gcl := ⟨g.cells.toNat, by omega⟩
 rw [hgcl] at c2 hc0 hc1;rw [hpv, hkv, hiv, hnv, hgcl] at hgcs;obtain ⟨HX, HY, Hal, HW4, Hb4, HR4, HN4, HNw⟩ := hd8 hX hY hal hW4 hb4 hR4 hN4 hNw;obtain ⟨HGM, HGb, HL, Hkn, Hpv, Hiv, Hkv, Hnv⟩ := hd8 hGM hGb hL hkn hpv hiv hkv hnv;obtain ⟨HKR, HA2, HP2, HQ2, Hbw2, Hnl, Hnsg, Hgcl⟩ := hd8 hKR hA2 hP2 hQ2 hbw2 hnl hnsg hgcl;obtain ⟨Hgcs, Hrz, Hrzs⟩ := hd3 hgcs hrz hrzs;clear hrzs hrz hgcs hgcl hnsg hnl hbw2 hQ2 hP2 hA2 hKR hnv hkv hiv hpv hkn hL hGb hGM hNw hN4 hR4 hb4 hW4 hal hY hX;clear hb2;go_upto_region 9 with fail;rw [<- Hgcs.out, <- HW4.out, <- HL.out, <- HGb.out];clear c0 c1 c2 c3 c4 c5 c6 c7 kp0;have hX' : Blk W4 Gb 44 gcs := HX.out;rw [Hgcs.out] at hX';have kx1 := bc hX' 1;have kx2 := bc hX' 2;have kx4 := bc hX' 4;have kx6 := bc hX' 6;have HX' := Lib.hid hX';clear hX';go_wp2_with fail;clear kx1 kx2 kx4 kx6
 go_loopw [43] (fun i wr => ∃ (j : Nat) (sv : Value), j <= ns /\ i = .int .i64 j /\ Blk wr Gb 44 gcs /\ Blk wr R 73 rz /\ Blk wr L 73 #[.int .i64 ((8 * j : Nat) : Int), sv, .slice none 0 0, .slice none 0 0, .int .i64 (-1)] /\ wr.ownsRow w.heap.size 3 1 sv j ((zaL 0 j).map (Value.int .i64)) /\ Below w.heap.size w wr) (fun i _ => ns - (intOf i).toNat)
 case atStart => exact ⟨0, .slice none 0 0, by omega, rfl, HX.out, HR4.out, HY.out, World.ownsRow_nil _ _ _ _, Hb4.out⟩
 case round =>
  obtain ⟨j, sv, hj, rfl, hXq, hRq, hLq, hOq, hbq⟩ := hrel;have hsz := hbq.size;have hLl := hLq.lt
  by_cases hlt : j < ns
  ·as_aux_lemma =>
   have hltI : (j : Int) < ns := by omega
   obtain ⟨s, hs⟩ := mn (((8 * j : Nat) : Int) : Int)
   have hs8 : s < 1000000 := by omega
   have hs0 : 0 <= s := by omega
   rw [hs] at hLq;have kl1 := bc hLq 1;obtain ⟨HXq, HRq, HLq, HOq, Hbq, Hns, Hs⟩ := hd7 hXq hRq hLq hOq hbq hns hs;clear hs hns hbq hOq hLq hRq hXq;go_upto_region 11 with fail;refine zaf (S := fun W => W.cell? ⟨L, 1, none⟩ = some sv) #[false, false, false, false, false, false, false, true] (by kernel_rfl) kl1 (fun hHeld => ?_);refine zaa 0 ?_;refine zaa 1 ?_;refine zaa 2 ?_;refine zag 3 (fun K hK => ?_);go_simp;refine (zfb wr.drew L s sv _ _ _ HLq.out.drew hs0 hs8).mono ?_;rintro e w5 ⟨rfl, rfl⟩;obtain ⟨W5, hW5⟩ := nm (wr.drew.setCell ⟨L, 0, none⟩ (.int .i64 (s + 8)));have hL5 := HLq.out.drew.set_fst (.int .i64 (s + 8));rw [<- hW5] at hL5 ⊢;obtain ⟨s8, hs8'⟩ := mn (s + 8);rw [hs8'] at hL5
   have hX5 : Blk W5 Gb 44 gcs := by rw [hW5]; exact HXq.out.drew.far (p := ⟨L, 0, none⟩) hGR _
   have hR5 : Blk W5 R 73 rz := by rw [hW5]; exact HRq.out.drew.far (p := ⟨L, 0, none⟩) hLR _
   have hO5 : W5.ownsRow w.heap.size 3 1 sv j ((zaL 0 j).map (Value.int .i64)) := by rw [hW5]; exact ownsRow_setCell_other (w := wr.drew) HOq.out (a := ⟨L, 0, none⟩) (zaq HOq.out HLq.out (by decide)) _
   have hb5 : Below w.heap.size w W5 := by rw [hW5]; exact (Below.drew' Hbq.out).setCell (p := ⟨L, 0, none⟩) hLw _
   have hz5 := hb5.size;obtain ⟨HW5, Hs8'⟩ := hd2 hW5 hs8';clear hs8' hW5;refine hK.out _ _ (hL5.cell 1) (fun hHeld2 => ?_);clear hK K hHeld;refine lay ?_;refine zag 4 (fun K hK => ?_);go_simp;refine hK.out _ _ ((hL5.alloc _).cell 1) (fun hHeld3 => ?_);clear hK K hHeld2;refine lay ?_;refine zag 5 (fun K hK => ?_);refine zaB _ rfl (.tmp 46) (.tmp 49) _ rfl w.heap.size 3 i0 _ 1 8 Tryd.underlying40 hi0 iz0 iz1 iz2 rfl (by omega) sv j ((zaL 0 j).map (Value.int .i64)) rfl (hO5.alloc _) (W5.heap.size + 1) (some ⟨W5.heap.size, 0, none⟩) 1 1 [.int .i64 s] rfl (zal.new1 _ _ _) ?c1 ?c2 ?c3 ?c4 ?_
   case c1 => intro u hu; simp at hu; rw [hu]; rfl
   case c2 => simp only [maxLen]; omega
   case c3 => omega
   case c4 => simp; omega
   intro v6 w6 hown6 hg6 hat6;obtain ⟨g6, c6, rfl, _⟩ := zbn hown6 (by omega);have hne := zaq hO5 hL5 (by decide);have hL6 := (hL5.alloc (.cells #[.int .i64 s] 3)).grown hg6 (Ne.symm hne);have hX6 := (hX5.alloc (.cells #[.int .i64 s] 3)).grown hg6 (Ne.symm (zaq hO5 hX5 (by decide)));have hR6 := (hR5.alloc (.cells #[.int .i64 s] 3)).grown hg6 (Ne.symm (zaq hO5 hR5 (by decide)));have hb6 : Below w.heap.size w w6 := (hb5.alloc hz5 (.cells #[.int .i64 s] 3)).grown hg6 (by simp; omega) (fun k e => (World.ownsRow.lt hO5 k e).1)
   have hO6 : w6.ownsRow w.heap.size 3 1 (.slice (some ⟨g6, 0, none⟩) (j + 1) c6) (j + 1) ((zaL 0 (j + 1)).map (Value.int .i64)) := by rw [zfm, List.map_append, Nat.zero_add, Hs.out]; exact hown6
   have kl61 := bc hL6 1;have fl61 := Blk.frozen hL6 1;have hL7 := hL6.set5_1 (.slice (some ⟨g6, 0, none⟩) (j + 1) c6);have hX7 := hX6.far (p := ⟨L, 1, none⟩) hGR (.slice (some ⟨g6, 0, none⟩) (j + 1) c6);have hR7 := hR6.far (p := ⟨L, 1, none⟩) hLR (.slice (some ⟨g6, 0, none⟩) (j + 1) c6);have hO7 := ownsRow_setCell_other hO6 (a := ⟨L, 1, none⟩) (zaq hO6 hL6 (by decide)) (.slice (some ⟨g6, 0, none⟩) (j + 1) c6);have hb7 := hb6.setCell (p := ⟨L, 1, none⟩) hLw (.slice (some ⟨g6, 0, none⟩) (j + 1) c6);refine hK.out _ _ kl61 (fun hHeld4 => ?_);clear hK K hHeld3 hat6 hg6 hown6;obtain ⟨HL5, HX5, HR5, HO5, Hb5, HL6, HX6, HR6⟩ := hd8 hL5 hX5 hR5 hO5 hb5 hL6 hX6 hR6;obtain ⟨Hb6, HO6, HL7, HX7, HR7, HO7, Hb7, Hne⟩ := hd8 hb6 hO6 hL7 hX7 hR7 hO7 hb7 hne;clear hne hb7 hO7 hR7 hX7 hL7 hO6 hb6 hR6 hX6 hL6 hb5 hO5 hR5 hX5 hL5;refine lay ?_;refine zaa 6 ?_;refine zao 7 (fun K hK => ?_);go_simp;refine hK.out _ _ ?_;clear hK K hHeld4;refine zai (by kernel_rfl) ?_ _;clear kl1 kl61 fl61;go_wp2_with fail;exact ⟨⟨j + 1, _, by omega, by go_num, HX7.out, HR7.out, by rw [show ((8 * (j + 1) : Nat) : Int) = s8 by have := Hs.out; have := Hs8'.out; omega]; exact HL7.out, HO7.out, Hb7.out⟩, by simp [intOf]; omega⟩
  ·obtain rfl : j = ns := by omega
   have hltI : ¬ (j : Int) < j := by omega
   have hXc := hXq;rw [Hgcs.out] at hXc;have kx2 := bc hXc 2;obtain ⟨HXq, HRq, HLq, HOq, Hbq, Hns, HXc⟩ := hd7 hXq hRq hLq hOq hbq hns hXc;clear hXc hns hbq hOq hLq hRq hXq;go_wp2_with fail;clear kx2
   go_loopw [55] (fun i wr => ∃ (k : Nat) (cv : Value), k <= gcl /\ i = .int .i64 k /\ Blk wr Gb 44 gcs /\ Blk wr R 73 rz /\ Blk wr L 73 #[.int .i64 ((8 * (j + k) : Nat) : Int), sv, cv, .slice none 0 0, .int .i64 (-1)] /\ wr.ownsRow w.heap.size 3 1 sv j ((zaL 0 j).map (Value.int .i64)) /\ wr.ownsRow w.heap.size 3 1 cv k ((zaL j k).map (Value.int .i64)) /\ Hid (∀ b, sv.ownBlock = some b -> cv.ownBlock ≠ some b) /\ Below w.heap.size w wr) (fun i _ => gcl - (intOf i).toNat)
   case atStart => exact ⟨0, .slice none 0 0, by omega, rfl, HXq.out, HRq.out, HLq.out, HOq.out, World.ownsRow_nil _ _ _ _, (by intro b _ h; cases h), Hbq.out⟩
   case round =>
    obtain ⟨k, cv, hk, rfl, hXq, hRq, hLq, hOq, hCq, hap, hbq⟩ := hrel;have hsz := hbq.size;have hLl := hLq.lt
    by_cases hlt : k < gcl
    ·as_aux_lemma =>
     have hltI : (k : Int) < gcl := by omega
     obtain ⟨s, hs⟩ := mn (((8 * (j + k) : Nat) : Int) : Int)
     have hs8 : s < 1000000 := by omega
     have hs0 : 0 <= s := by omega
     rw [hs] at hLq;have kl2 := bc hLq 2;obtain ⟨HXq, HRq, HLq, HOq, HCq, Hbq, Hs⟩ := hd7 hXq hRq hLq hOq hCq hbq hs;clear hs hbq hCq hOq hLq hRq hXq;go_upto_region 15 with fail;refine zaf (S := fun W => W.cell? ⟨L, 2, none⟩ = some cv) #[false, false, false, false, false, false, false, true] (by kernel_rfl) kl2 (fun hHeld => ?_);refine zaa 0 ?_;refine zaa 1 ?_;refine zaa 2 ?_;refine zag 3 (fun K hK => ?_);go_simp;refine (zfb wr.drew L s sv cv _ _ HLq.out.drew hs0 hs8).mono ?_;rintro e w5 ⟨rfl, rfl⟩;obtain ⟨W5, hW5⟩ := nm (wr.drew.setCell ⟨L, 0, none⟩ (.int .i64 (s + 8)));have hL5 := HLq.out.drew.set_fst (.int .i64 (s + 8));rw [<- hW5] at hL5 ⊢;obtain ⟨s8, hs8'⟩ := mn (s + 8);rw [hs8'] at hL5
     have hX5 : Blk W5 Gb 44 gcs := by rw [hW5]; exact HXq.out.drew.far (p := ⟨L, 0, none⟩) hGR _
     have hR5 : Blk W5 R 73 rz := by rw [hW5]; exact HRq.out.drew.far (p := ⟨L, 0, none⟩) hLR _
     have hO5 : W5.ownsRow w.heap.size 3 1 sv j ((zaL 0 j).map (Value.int .i64)) := by rw [hW5]; exact ownsRow_setCell_other (w := wr.drew) HOq.out (a := ⟨L, 0, none⟩) (zaq HOq.out HLq.out (by decide)) _
     have hC5 : W5.ownsRow w.heap.size 3 1 cv k ((zaL j k).map (Value.int .i64)) := by rw [hW5]; exact ownsRow_setCell_other (w := wr.drew) HCq.out (a := ⟨L, 0, none⟩) (zaq HCq.out HLq.out (by decide)) _
     have hb5 : Below w.heap.size w W5 := by rw [hW5]; exact (Below.drew' Hbq.out).setCell (p := ⟨L, 0, none⟩) hLw _
     have hz5 := hb5.size;obtain ⟨HW5, Hs8'⟩ := hd2 hW5 hs8';clear hs8' hW5;refine hK.out _ _ (hL5.cell 2) (fun hHeld2 => ?_);clear hK K hHeld;refine lay ?_;refine zag 4 (fun K hK => ?_);go_simp;refine hK.out _ _ ((hL5.alloc _).cell 2) (fun hHeld3 => ?_);clear hK K hHeld2;refine lay ?_;refine zag 5 (fun K hK => ?_);refine zaB _ rfl (.tmp 58) (.tmp 61) _ rfl w.heap.size 3 i0 _ 1 8 Tryd.underlying40 hi0 iz0 iz1 iz2 rfl (by omega) cv k ((zaL j k).map (Value.int .i64)) rfl (hC5.alloc _) (W5.heap.size + 1) (some ⟨W5.heap.size, 0, none⟩) 1 1 [.int .i64 s] rfl (zal.new1 _ _ _) ?c1 ?c2 ?c3 ?c4 ?_
     case c1 => intro u hu; simp at hu; rw [hu]; rfl
     case c2 => simp only [maxLen]; omega
     case c3 => omega
     case c4 => simp; omega
     intro v6 w6 hown6 hg6 hat6;obtain ⟨g6, c6, rfl, _⟩ := zbn hown6 (by omega);have hne := zaq hC5 hL5 (by decide);have hL6 := (hL5.alloc (.cells #[.int .i64 s] 3)).grown hg6 (Ne.symm hne);have hX6 := (hX5.alloc (.cells #[.int .i64 s] 3)).grown hg6 (Ne.symm (zaq hC5 hX5 (by decide)));have hR6 := (hR5.alloc (.cells #[.int .i64 s] 3)).grown hg6 (Ne.symm (zaq hC5 hR5 (by decide)));have hb6 : Below w.heap.size w w6 := (hb5.alloc hz5 (.cells #[.int .i64 s] 3)).grown hg6 (by simp; omega) (fun k e => (World.ownsRow.lt hC5 k e).1)
     have hC6 : w6.ownsRow w.heap.size 3 1 (.slice (some ⟨g6, 0, none⟩) (k + 1) c6) (k + 1) ((zaL j (k + 1)).map (Value.int .i64)) := by rw [zfm, List.map_append, Hs.out]; exact hown6
     have hO6 := (hO5.alloc (.cells #[.int .i64 s] 3)).kept hg6 (by
      rcases hq : sv.ownBlock with _ | b
      ·exact .inl rfl
      ·exact .inr fun e => hap.out b hq e.symm)
     have hap6 : ∀ b, sv.ownBlock = some b -> (Value.slice (some ⟨g6, 0, none⟩) (k + 1) c6).ownBlock ≠ some b := fun b hq e => by
      rcases hat6 with h | h
      ·exact hap.out b hq (by rw [<- h]; exact e)
      ·rw [h] at e;injection e with e;have := (World.ownsRow.lt hO5 b hq).2;simp at e
       omega
     have kl62 := bc hL6 2;have fl62 := Blk.frozen hL6 2;have hL7 := hL6.set5_2 (.slice (some ⟨g6, 0, none⟩) (k + 1) c6);have hX7 := hX6.far (p := ⟨L, 2, none⟩) hGR (.slice (some ⟨g6, 0, none⟩) (k + 1) c6);have hR7 := hR6.far (p := ⟨L, 2, none⟩) hLR (.slice (some ⟨g6, 0, none⟩) (k + 1) c6);have hO7 := ownsRow_setCell_other hO6 (a := ⟨L, 2, none⟩) (zaq hO6 hL6 (by decide)) (.slice (some ⟨g6, 0, none⟩) (k + 1) c6);have hC7 := ownsRow_setCell_other hC6 (a := ⟨L, 2, none⟩) (zaq hC6 hL6 (by decide)) (.slice (some ⟨g6, 0, none⟩) (k + 1) c6);have hb7 := hb6.setCell (p := ⟨L, 2, none⟩) hLw (.slice (some ⟨g6, 0, none⟩) (k + 1) c6);refine hK.out _ _ kl62 (fun hHeld4 => ?_);clear hK K hHeld3 hat6 hg6 hown6;obtain ⟨HL5, HX5, HR5, HO5, HC5, Hb5, HL6, HX6⟩ := hd8 hL5 hX5 hR5 hO5 hC5 hb5 hL6 hX6;obtain ⟨HR6, Hb6, HO6, HC6, HL7, HX7, HR7, HO7⟩ := hd8 hR6 hb6 hO6 hC6 hL7 hX7 hR7 hO7;obtain ⟨HC7, Hb7, Hne, Hap6⟩ := hd4 hC7 hb7 hne hap6;clear hap6 hne hb7 hC7 hO7 hR7 hX7 hL7 hC6 hO6 hb6 hR6 hX6 hL6 hb5 hC5 hO5 hR5 hX5 hL5;refine lay ?_;refine zaa 6 ?_;refine zao 7 (fun K hK => ?_);go_simp;refine hK.out _ _ ?_;clear hK K hHeld4;refine zai (by kernel_rfl) ?_ _;clear kl2 kl62 fl62;go_wp2_with fail;exact ⟨⟨k + 1, _, by omega, by go_num, HX7.out, HR7.out, by rw [show ((8 * (j + (k + 1)) : Nat) : Int) = s8 by have := Hs.out; have := Hs8'.out; omega]; exact HL7.out, HO7.out, HC7.out, Hap6.out, Hb7.out⟩, by simp [intOf]; omega⟩
    ·obtain rfl : k = gcl := by omega
     have hltI : ¬ (k : Int) < k := by omega
     have hXc := hXq;rw [Hgcs.out] at hXc;have kx6 := bc hXc 6;have hWn := Blk.new wr 97 (zfY fun _ => false);have hal8 := (Below.refl wr.heap.size wr).alloc (Nat.le_refl _) (.cells (zfY fun _ => false) 97);have hX8 := hXq.below hal8 hXq.lt;have hR8 := hRq.below hal8 hRq.lt;have hL8 := hLq.below hal8 hLq.lt;have hO8 := zaX hOq (zah hal8 none) nofun;have hC8 := zaX hCq (zah hal8 none) nofun;have hb8 := hbq.trans (hal8.mono hsz)
     have hBw : B <= wr.heap.size := by have := HB.out; omega
     have hNq : zaE 12 zbj wr B (.slice NA nn nc) g.nodes := HNw.out wr hbq;have hN8 := hNq.keep (fun _ hp => (hal8.mono hBw).cell hp) (fun _ _ h => h.keep fun _ hp => (hal8.mono hBw).cell hp);obtain ⟨W8, hW8⟩ := nm (wr.alloc (.cells (zfY fun _ => false) 97));obtain ⟨Wb, hWb⟩ := nm (wr.heap.size);rw [<- hW8] at hWn hX8 hR8 hL8 hO8 hC8 hb8 hN8 hal8;rw [<- hWb] at hWn hBw;have hW8' := hW8;rw [zjI] at hW8'
     have hLWb : L < Wb := by rw [hWb]; exact hLq.lt
     have hGWb : Gb < Wb := by rw [hWb]; exact hXq.lt
     have hRWb : R < Wb := by rw [hWb]; exact hRq.lt
     have hzWb : Wb < W8.heap.size := hWn.lt
     have hzwWb : w.heap.size <= Wb := by rw [hWb]; exact hsz
     obtain ⟨HXq, HRq, HLq, HOq, HCq, Hap, Hbq, HXc⟩ := hd8 hXq hRq hLq hOq hCq hap hbq hXc;obtain ⟨HWn, Hal8, HX8, HR8, HL8, HO8, HC8, Hb8⟩ := hd8 hWn hal8 hX8 hR8 hL8 hO8 hC8 hb8;obtain ⟨HNq, HN8, HW8, HWb, HW8E⟩ := hd5 hNq hN8 hW8 hWb hW8';clear hW8' hWb hW8 hN8 hNq hb8 hC8 hO8 hL8 hR8 hX8 hal8 hWn hXc hbq hap hCq hOq hLq hRq hXq;go_upto_region 18 with fail;rw [<- HW8E.out, <- HWb.out];clear kx6;have hX8c := HX8.out;rw [Hgcs.out] at hX8c;have kx6 := bc hX8c 6;have HX8c := Lib.hid hX8c;clear hX8c;go_wp2_with fail;clear kx6
     go_loopw [68] (fun i wq => ∃ q : Nat, q <= nn /\ i = .int .i64 q /\ Below Wb W8 wq /\ Blk wq Wb 97 (zfY (zbL (g.nodes.take q)))) (fun i _ => nn - (intOf i).toNat)
     case atStart => exact ⟨0, by omega, rfl, Below.refl _ _, HWn.out⟩
     case round =>
      obtain ⟨q, hq, rfl, hb9, hW9⟩ := hrel;have hs9 := hb9.size
      by_cases hqn : q < nn
      ·as_aux_lemma =>
       have hqnI : (q : Int) < nn := by omega
       obtain ⟨x, hxq⟩ : ∃ x, g.nodes[q]? = some x := ⟨_, List.getElem?_eq_getElem (by have := Hnl.out; omega)⟩
       have hN9 := HN8.out.keep (fun _ hp => (hb9.mono hBw).cell hp) (fun _ _ h => h.keep fun _ hp => (hb9.mono hBw).cell hp);obtain ⟨nad, cs, hna, _, _, _, ⟨av, hcs, hav⟩, z0, nj⟩ := zaE.at_ hN9 hxq;subst hna hcs;obtain ⟨AA, aac, hava, _, _, _⟩ := hav.slice;subst hava;have n0 : wr.cell? (nad.add (q * 12)) = some (.int .u8 x.op) := z0 _ rfl;have n1 := nj 1 _ (by omega) rfl;have n2 := nj 2 _ (by omega) rfl;have n3 := nj 3 _ (by omega) rfl;have n4 := nj 4 _ (by omega) rfl;have n5 := nj 5 _ (by omega) rfl;have n6 := nj 6 _ (by omega) rfl;have n7 := nj 7 _ (by omega) rfl;have n8 := nj 8 _ (by omega) rfl;have n9 := nj 9 _ (by omega) rfl;have n10 := nj 10 _ (by omega) rfl;have n11 := nj 11 _ (by omega) rfl;clear nj z0;have hal4 := (Below.refl wr.heap.size wr).alloc (Nat.le_refl _) (.cells (zae x (.slice AA x.args.length aac)).toArray 55);have hPn := Blk.new wr 55 (zae x (.slice AA x.args.length aac)).toArray;have hW10 := hW9.below hal4 hW9.lt;have hb10 := hb9.trans (hal4.mono (by omega));obtain ⟨G3, hG3⟩ := nm (wr.heap.size);obtain ⟨W3, hW3⟩ := nm (wr.alloc (.cells (zae x (.slice AA x.args.length aac)).toArray 55));rw [<- hW3] at hPn hW10 hb10;rw [<- hG3] at hPn
       have hrange : W3.rangeAt G3 0 (zae x (.slice AA x.args.length aac)) := fun j v hv => by
        rw [hPn.cell (0 + j), Nat.zero_add, List.getElem?_toArray];exact hv
       have hW3' : wr.alloc (.cells #[.int .u8 x.op, .int .u8 x.byo, .int .i64 x.d, .int .i64 x.e, .int .i64 x.a, .int .i64 x.b, .int .i64 x.f, .int .i64 x.cell, .int .u64 x.imm, .slice AA x.args.length aac, .int .i64 x.next, .int .i64 x.els] 55) = W3 := hW3.symm;have hwr := ziR W3 x (.slice AA x.args.length aac);obtain ⟨Hb9, HW9, Hxq, HN9, Hav, Hal4, HPn, HW10⟩ := hd8 hb9 hW9 hxq hN9 hav hal4 hPn hW10;obtain ⟨Hb10, HG3, HW3, Hrange, HW4E, Hwr⟩ := hd6 hb10 hG3 hW3 hrange hW3' hwr;clear hwr hW3' hrange hW3 hG3 hb10 hW10 hPn hal4 hav hN9 hxq hW9 hb9;go_upto_region 21 with fail;rw [HW4E.out, <- HG3.out];clear n0 n1 n2 n3 n4 n5 n6 n7 n8 n9 n10 n11;go_wp2_with (refine wpList_load_mid rfl 55 _ rfl G3 0 rfl (zae x (.slice AA x.args.length aac)) _ Hrange.out Tryd.underlying55 rfl (by kernel_rfl) ?_);refine Hwr.out.mono ?_;rintro e w11 ⟨⟨lv, rfl, hLs⟩, hb11⟩;obtain ⟨LA, lc, rfl, hlc1, hlc2, hLr⟩ := hLs;obtain ⟨wl, hwl⟩ := mn ((zaD x).length);have hwl2 := zeE x;rw [hwl] at hlc1 hLr hwl2 ⊢;unfold maxLen at hlc2;have hW11 := HW10.out.below hb11 HW10.out.lt;have hb12 := Hb10.out.trans (hb11.mono (by have := Hb10.out.size; omega));obtain ⟨Hb11, HLr, HW11, Hb12, Hwl⟩ := hd5 hb11 hLr hW11 hb12 hwl;clear hwl hb12 hW11 hLr hb11;go_wp2_with fail;obtain ⟨P, hP⟩ := nm (zbL (g.nodes.take q))
       have hW11' : Blk w11 Wb 97 (zfY (ze7 P [])) := by rw [zkp, hP]; exact HW11.out
       obtain ⟨HP, HW11'⟩ := hd2 hP hW11';clear hW11' hP
       go_loopw [75] (fun i wq => ∃ t : Nat, t <= wl /\ i = .int .i64 t /\ Below Wb W8 wq /\ w11.grownBy wq (some Wb) /\ Blk wq Wb 97 (zfY (ze7 P ((zaD x).take t)))) (fun i _ => wl - (intOf i).toNat)
       case atStart => exact ⟨0, by omega, rfl, Hb12.out, World.grownBy.refl _ _, HW11'.out⟩
       case round =>
        obtain ⟨t, ht, rfl, hbt, hgt, hWt⟩ := hrel
        by_cases htl : t < wl
        ·as_aux_lemma =>
         have hltI2 : (t : Int) < wl := by omega
         obtain ⟨lad, u0, hLA, hladB, hu0, hce⟩ := HLr.out.at_ htl;subst hLA
         obtain ⟨p, hpt, rfl⟩ : ∃ p, (zaD x)[t]? = some p /\ u0 = .int .i64 p := by
          rw [List.getElem?_map, Option.map_eq_some_iff] at hu0;obtain ⟨y, h1, h2⟩ := hu0;exact ⟨y, h1, h2.symm⟩
         have hap11 := zjF HW11.out hce;have hce2 : wr.cell? (lad.add t) = some (.int .i64 p) := (World.cell?_of_block (hgt.block _ (by rw [block_add]; exact hladB) (fun e => by injection e with e; exact hap11 e))).trans hce;have hp0 := zfZ x p (List.mem_of_getElem? hpt);obtain ⟨p, rfl⟩ := Int.eq_ofNat_of_zero_le hp0
         have htk : (zaD x).take (t + 1) = (zaD x).take t ++ [(p : Int)] := by rw [List.take_add_one, hpt]; rfl
         by_cases hp16 : p < 16
         ·have hp16I : (p : Int) < 16 := by omega
          have hset := hWt.set_ p (.bool true);rw [zlS, zjg, <- htk] at hset;have hbs := hbt.setCell (p := ⟨Wb, p, none⟩) (Nat.le_refl _) (.bool true);have hgs := zaZ hgt (p := ⟨Wb, p, none⟩) (.inl rfl) (.bool true)
          have cW : wr.cell? ⟨Wb, p, none⟩ = some (.bool (ze7 P ((zaD x).take t) p)) := by rw [hWt.cell]; exact zgS _ _ hp16
          have fW := Blk.frozen hWt p;obtain ⟨Hbt, Hgt, HWt, Hu0, Hce, Hpt, Hap11, Htk⟩ := hd8 hbt hgt hWt hu0 hce hpt hap11 htk;obtain ⟨Hset, Hbs, Hgs⟩ := hd3 hset hbs hgs;clear hgs hbs hset htk hap11 hpt hce hu0 hWt hgt hbt;go_wp2_with fail;exact ⟨⟨t + 1, by omega, by go_num, Hbs.out, Hgs.out, Hset.out⟩, by simp [intOf]; omega⟩
         ·have hp16I : ¬ (p : Int) < 16 := by omega
          have hsame : zfY (ze7 P ((zaD x).take (t + 1))) = zfY (ze7 P ((zaD x).take t)) := zjJ fun r hr => by
           rw [htk];unfold ze7;simp [show ¬ (r : Int) = p by omega]
          obtain ⟨Hbt, Hgt, HWt, Hu0, Hce, Hpt, Hap11, Htk⟩ := hd8 hbt hgt hWt hu0 hce hpt hap11 htk;have Hsame := Lib.hid hsame;clear hsame htk hap11 hpt hce hu0 hWt hgt hbt;go_wp2_with fail;exact ⟨⟨t + 1, by omega, by go_num, Hbt.out, Hgt.out, by rw [Hsame.out]; exact HWt.out⟩, by simp [intOf]; omega⟩
        ·obtain rfl : t = wl := by omega
         have hltI2 : ¬ (t : Int) < t := by omega
         rw [List.take_of_length_le (by have := Hwl.out; omega), HP.out, zhk _ _ _ Hxq.out] at hWt;obtain ⟨Hbt, Hgt, HWt⟩ := hd3 hbt hgt hWt;clear hWt hgt hbt;go_wp2_with fail;exact ⟨⟨q + 1, by omega, by go_num, Hbt.out, HWt.out⟩, by simp [intOf]; omega⟩
      ·obtain rfl : q = nn := by omega
       have hqnI : ¬ (q : Int) < q := by omega
       rw [List.take_of_length_le (by have := Hnl.out; omega)] at hW9;have hb9' := hb9;rw [HWb.out] at hb9';have hal0 := Hal8.out.trans hb9';clear hb9';have hX0 := HXq.out.below hal0 HXq.out.lt;have hR0 := HRq.out.below hal0 HRq.out.lt;have hL0 := HLq.out.below hal0 HLq.out.lt;have hO0 := zaX HOq.out (zah hal0 none) nofun;have hC0 := zaX HCq.out (zah hal0 none) nofun;have hbE := Hbq.out.trans (hal0.mono Hbq.out.size);obtain ⟨Hb9, HW9, Hal0, HX0, HR0, HL0, HO0, HC0⟩ := hd8 hb9 hW9 hal0 hX0 hR0 hL0 hO0 hC0;have HbE := Lib.hid hbE;clear hbE hC0 hO0 hL0 hR0 hX0 hal0 hW9 hb9;go_wp2_with fail
       go_loopw [15] (fun i wr => ∃ (r : Nat) (vv : Value), 6 <= r /\ r <= 12 /\ i = .int .i64 r /\ Blk wr Gb 44 gcs /\ Blk wr R 73 rz /\ Blk wr L 73 #[.int .i64 ((8 * (j + k + (zcK g.nodes (r - 6)).length) : Nat) : Int), sv, cv, vv, .int .i64 (-1)] /\ Blk wr Wb 97 (zfY (zbL g.nodes)) /\ wr.ownsRow w.heap.size 3 1 sv j ((zaL 0 j).map (Value.int .i64)) /\ wr.ownsRow w.heap.size 3 1 cv k ((zaL j k).map (Value.int .i64)) /\ wr.ownsRow w.heap.size 50 2 vv (zcK g.nodes (r - 6)).length (za9 (zdw (zcK g.nodes (r - 6)) (j + k))) /\ Below w.heap.size w wr) (fun i _ => 12 - (intOf i).toNat)
       case atStart => exact ⟨6, .slice none 0 0, by omega, by omega, rfl, HX0.out, HR0.out, HL0.out, HW9.out, HO0.out, HC0.out, World.ownsRow_nil _ _ _ _, HbE.out⟩
       case round =>
        obtain ⟨r, vv, hr6, hr12, rfl, hXq, hRq, hLq, hWq, hOq, hCq, hSq, hbq⟩ := hrel;have hsz := hbq.size;have hLl := hLq.lt;have hrl := zb7 g.nodes (r - 6)
        by_cases hrn : r < 12
        ·have hrnI : (r : Int) < 12 := by omega
         have hsn := zi4 g.nodes (r - 6);rw [show r - 6 + 1 = r + 1 - 6 by omega, show 6 + (r - 6) = r by omega] at hsn;obtain ⟨bw, hbw⟩ := mn (zbL g.nodes r)
         have cW : wr.cell? ⟨Wb, r, none⟩ = some (.bool bw) := by rw [hWq.cell, zgS _ _ (by omega), hbw]
         rw [hbw] at hsn;obtain ⟨l0, hl0⟩ := mn (zcK g.nodes (r - 6));rw [hl0] at hsn hLq hSq hrl;obtain ⟨ln, hln⟩ := mn (l0.length);rw [hln] at hLq hSq hrl
         cases bw
         ·rw [if_neg (by simp), List.append_nil] at hsn;obtain ⟨HXq, HRq, HLq, HWq, HOq, HCq, HSq, Hbq⟩ := hd8 hXq hRq hLq hWq hOq hCq hSq hbq;obtain ⟨Hsn, Hbw, Hl0, Hln⟩ := hd4 hsn hbw hl0 hln;clear hln hl0 hbw hsn hbq hSq hCq hOq hWq hLq hRq hXq;go_wp2_with fail;exact ⟨⟨r + 1, vv, by omega, by omega, by go_num, HXq.out, HRq.out, by rw [Hsn.out, Hln.out]; exact HLq.out, HWq.out, HOq.out, HCq.out, by rw [Hsn.out, Hln.out]; exact HSq.out, Hbq.out⟩, by simp [intOf]; omega⟩
         ·as_aux_lemma =>
          rw [if_pos rfl] at hsn;obtain ⟨s, hs⟩ := mn (((8 * (j + k + ln) : Nat) : Int) : Int)
          have hs8 : s < 1000000 := by omega
          have hs0 : 0 <= s := by omega
          rw [hs] at hLq;have kl3 := bc hLq 3;obtain ⟨HXq, HRq, HLq, HWq, HOq, HCq, HSq, Hbq⟩ := hd8 hXq hRq hLq hWq hOq hCq hSq hbq;obtain ⟨Hsn, Hbw, Hl0, Hln, Hs⟩ := hd5 hsn hbw hl0 hln hs;clear hs hln hl0 hbw hsn hbq hSq hCq hOq hWq hLq hRq hXq;go_upto_region 32 with fail;refine zaf (S := fun W => W.cell? ⟨L, 3, none⟩ = some vv) #[false, false, false, false, false, false, false, false, false, true] (by kernel_rfl) kl3 (fun hHeld => ?_);refine zaa 0 ?_;refine zaa 1 ?_;refine zaa 2 ?_;refine zaa 3 ?_;refine zag 4 (fun K hK => ?_);go_simp;refine (zfb wr.drew L s sv cv vv _ HLq.out.drew hs0 hs8).mono ?_;rintro e w5 ⟨rfl, rfl⟩;obtain ⟨W5, hW5⟩ := nm (wr.drew.setCell ⟨L, 0, none⟩ (.int .i64 (s + 8)));have hL5 := HLq.out.drew.set_fst (.int .i64 (s + 8));rw [<- hW5] at hL5 ⊢;obtain ⟨s8, hs8'⟩ := mn (s + 8);rw [hs8'] at hL5
          have hX5 : Blk W5 Gb 44 gcs := by rw [hW5]; exact HXq.out.drew.far (p := ⟨L, 0, none⟩) hGR _
          have hR5 : Blk W5 R 73 rz := by rw [hW5]; exact HRq.out.drew.far (p := ⟨L, 0, none⟩) hLR _
          have hV5 : Blk W5 Wb 97 (zfY (zbL g.nodes)) := by rw [hW5]; exact HWq.out.drew.far (p := ⟨L, 0, none⟩) (by show Wb ≠ L; omega) _
          have hO5 : W5.ownsRow w.heap.size 3 1 sv j ((zaL 0 j).map (Value.int .i64)) := by rw [hW5]; exact ownsRow_setCell_other (w := wr.drew) HOq.out (a := ⟨L, 0, none⟩) (zaq HOq.out HLq.out (by decide)) _
          have hC5 : W5.ownsRow w.heap.size 3 1 cv k ((zaL j k).map (Value.int .i64)) := by rw [hW5]; exact ownsRow_setCell_other (w := wr.drew) HCq.out (a := ⟨L, 0, none⟩) (zaq HCq.out HLq.out (by decide)) _
          have hS5 : W5.ownsRow w.heap.size 50 2 vv ln (za9 (zdw l0 (j + k))) := by rw [hW5]; exact ownsRow_setCell_other (w := wr.drew) HSq.out (a := ⟨L, 0, none⟩) (zaq HSq.out HLq.out (by decide)) _
          have hb5 : Below w.heap.size w W5 := by rw [hW5]; exact (Below.drew' Hbq.out).setCell (p := ⟨L, 0, none⟩) hLw _
          have hz5 := hb5.size;obtain ⟨HW5, Hs8'⟩ := hd2 hW5 hs8';clear hs8' hW5;refine hK.out _ _ (hL5.cell 3) (fun hHeld2 => ?_);clear hK K hHeld;refine lay ?_;refine zaa 5 ?_;refine zag 6 (fun K hK => ?_);go_simp;refine hK.out _ _ ((hL5.alloc _).cell 3) (fun hHeld3 => ?_);clear hK K hHeld2;refine lay ?_;refine zag 7 (fun K hK => ?_);refine zaB _ rfl (.tmp 93) (.tmp 98) _ rfl w.heap.size 50 is _ 2 16 Tryd.underlying46 his hsz0 hsz1 hsz2 rfl (by omega) vv ln (za9 (zdw l0 (j + k))) rfl (hS5.alloc _) (W5.heap.size + 1) (some ⟨W5.heap.size, 0, none⟩) 1 1 (za9 [((r : Int), s)]) rfl (zal.newS _ rfl _ _ _ _ _ rfl rfl) ?c1 ?c2 ?c3 ?c4 ?_
          case c1 => exact zh7 _
          case c2 => simp only [maxLen]; omega
          case c3 => omega
          case c4 => simp; omega
          intro v6 w6 hown6 hg6 hat6;obtain ⟨g6, c6, rfl, _⟩ := zbn hown6 (by omega);have hS5a := hS5.alloc (.cells #[.int .i64 (r : Int), .int .i64 s] 50);have hL6 := (hL5.alloc (.cells #[.int .i64 (r : Int), .int .i64 s] 50)).grown hg6 (Ne.symm (zaq hS5 hL5 (by decide)));have hX6 := (hX5.alloc (.cells #[.int .i64 (r : Int), .int .i64 s] 50)).grown hg6 (Ne.symm (zaq hS5 hX5 (by decide)));have hR6 := (hR5.alloc (.cells #[.int .i64 (r : Int), .int .i64 s] 50)).grown hg6 (Ne.symm (zaq hS5 hR5 (by decide)));have hV6 := (hV5.alloc (.cells #[.int .i64 (r : Int), .int .i64 s] 50)).grown hg6 (Ne.symm (zaq hS5 hV5 (by decide)))
          have hrow : ∀ b, vv.ownBlock = some b -> ∃ t cs, Blk (W5.alloc (.cells #[.int .i64 (r : Int), .int .i64 s] 50)) b t cs /\ t ≠ 3 := fun b e => by
           obtain ⟨cs, hcs⟩ := zci hS5a e;exact ⟨_, cs, hcs, by decide⟩
          have hO6 := zaX (hO5.alloc (.cells #[.int .i64 (r : Int), .int .i64 s] 50)) hg6 fun b e => .inr (hrow b e)
          have hC6 := zaX (hC5.alloc (.cells #[.int .i64 (r : Int), .int .i64 s] 50)) hg6 fun b e => .inr (hrow b e)
          have hb6 : Below w.heap.size w w6 := (hb5.alloc hz5 (.cells #[.int .i64 (r : Int), .int .i64 s] 50)).grown hg6 (by simp; omega) (fun k e => (World.ownsRow.lt hS5 k e).1)
          have hS6 : w6.ownsRow w.heap.size 50 2 (.slice (some ⟨g6, 0, none⟩) (ln + 1) c6) (ln + 1) (za9 (zdw (l0 ++ [r]) (j + k))) := by rw [zf6, zfU, Hln.out, Hs.out]; exact hown6
          have kl63 := bc hL6 3;have fl63 := Blk.frozen hL6 3;have hL7 := hL6.set5_3 (.slice (some ⟨g6, 0, none⟩) (ln + 1) c6);have hX7 := hX6.far (p := ⟨L, 3, none⟩) hGR (.slice (some ⟨g6, 0, none⟩) (ln + 1) c6);have hR7 := hR6.far (p := ⟨L, 3, none⟩) hLR (.slice (some ⟨g6, 0, none⟩) (ln + 1) c6);have hV7 := hV6.far (p := ⟨L, 3, none⟩) (by show Wb ≠ L; omega) (.slice (some ⟨g6, 0, none⟩) (ln + 1) c6);have hO7 := ownsRow_setCell_other hO6 (a := ⟨L, 3, none⟩) (zaq hO6 hL6 (by decide)) (.slice (some ⟨g6, 0, none⟩) (ln + 1) c6);have hC7 := ownsRow_setCell_other hC6 (a := ⟨L, 3, none⟩) (zaq hC6 hL6 (by decide)) (.slice (some ⟨g6, 0, none⟩) (ln + 1) c6);have hS7 := ownsRow_setCell_other hS6 (a := ⟨L, 3, none⟩) (zaq hS6 hL6 (by decide)) (.slice (some ⟨g6, 0, none⟩) (ln + 1) c6);have hb7 := hb6.setCell (p := ⟨L, 3, none⟩) hLw (.slice (some ⟨g6, 0, none⟩) (ln + 1) c6);refine hK.out _ _ kl63 (fun hHeld4 => ?_);clear hK K hHeld3 hat6 hg6 hown6 hrow;obtain ⟨HL5, HX5, HR5, HV5, HO5, HC5, HS5, HS5a⟩ := hd8 hL5 hX5 hR5 hV5 hO5 hC5 hS5 hS5a;obtain ⟨Hb5, HL6, HX6, HR6, HV6, Hb6, HO6, HC6⟩ := hd8 hb5 hL6 hX6 hR6 hV6 hb6 hO6 hC6;obtain ⟨HS6, HL7, HX7, HR7, HV7, HO7, HC7, HS7⟩ := hd8 hS6 hL7 hX7 hR7 hV7 hO7 hC7 hS7;have Hb7 := Lib.hid hb7;clear hb7 hS7 hC7 hO7 hV7 hR7 hX7 hL7 hS6 hC6 hO6 hb6 hV6 hR6 hX6 hL6 hb5 hS5a hS5 hC5 hO5 hV5 hR5 hX5 hL5;refine lay ?_;refine zaa 8 ?_;refine zao 9 (fun K hK => ?_);go_simp;refine hK.out _ _ ?_;clear hK K hHeld4;refine zai (by kernel_rfl) ?_ _;clear kl3 kl63 fl63 cW;go_wp2_with fail
          have hle : (zcK g.nodes (r + 1 - 6)).length = ln + 1 := by rw [Hsn.out, List.length_append, Hln.out]; rfl
          exact ⟨⟨r + 1, .slice (some ⟨g6, 0, none⟩) (ln + 1) c6, by omega, by omega, by go_num, HX7.out, HR7.out, by rw [hle, show ((8 * (j + k + (ln + 1)) : Nat) : Int) = s8 by have := Hs.out; have := Hs8'.out; omega]; exact HL7.out, HV7.out, HO7.out, HC7.out, by rw [hle, Hsn.out]; exact HS7.out, Hb7.out⟩, by simp [intOf]; omega⟩
        ·obtain rfl : r = 12 := by omega
         have hrnI : ¬ (12 : Int) < 12 := by omega
         have hXc := hXq;rw [Hgcs.out] at hXc;have kx4 := bc hXc 4;have hRc := hRq;rw [Hrz.out] at hRc;have kr0 := bc hRc 0;have kr1 := bc hRc 1;have kr2 := bc hRc 2;have kr3 := bc hRc 3;have kr4 := bc hRc 4;have fr0 := Blk.frozen hRc 0;have fr1 := Blk.frozen hRc 1;have fr2 := Blk.frozen hRc 2;have fr3 := Blk.frozen hRc 3;have fr4 := Blk.frozen hRc 4;obtain ⟨ln, hln⟩ := mn ((zcK g.nodes (12 - 6)).length);rw [hln] at hLq hSq hrl;have hnsv : zb9 g = ln := hln
         have hncl : zaU g = k := by unfold zaU; rw [Hgcl.out]; simp
         obtain ⟨s, hs⟩ := mn (((8 * (j + k + ln) : Nat) : Int) : Int)
         have hs8 : s < 1000000 := by omega
         have hs0 : 0 <= s := by omega
         rw [hs] at hLq;obtain ⟨br, hbr⟩ := mn (g.result);rw [hbr] at kx4;have hLq' := hLq;obtain ⟨SA, sc, rfl, _⟩ := zak hOq;obtain ⟨CA, cc, rfl, _⟩ := zak hCq;obtain ⟨VA, vc, rfl, _⟩ := zak hSq
         have hRw : w.heap.size <= R := by have := HHR.out; omega
         cases br
         case false =>
          have hfin : zgT g w (.returned (.tuple #[.agg #[.int .i64 s, .slice SA j sc, .slice CA k cc, .slice VA ln vc, .int .i64 (-1)], .int .i64 0])) (zm0 wr R (.int .i64 s) (.slice SA j sc) (.slice CA k cc) (.slice VA ln vc) (.int .i64 (-1))) := by
           refine ⟨zgi hbq hRw _ _ _ _ _, _, rfl, ⟨.slice SA j sc, .slice CA k cc, .slice VA ln vc, ?_, ?_, ?_, ?_⟩, _, _, _, _, _, rfl, fun b h => Hap.out b h⟩
           ·have e1 : ((zaF g : Nat) : Int) = s := by unfold zaF zh6; rw [Hnsg.out, hnsv, hncl, hbr, <- hs]; simp
            have e2 : zdB g = -1 := by unfold zdB; rw [hbr]; simp
            rw [e1, e2]
           ·rw [Hnsg.out]; exact zdS hOq hRc (by decide) _ _ _ _ _
           ·rw [Hnsg.out, hncl]; exact zdS hCq hRc (by decide) _ _ _ _ _
           ·rw [Hnsg.out, hncl, hnsv]; exact zdS hSq hRc (by decide) _ _ _ _ _
          have hR9 := ziK hRc (.int .i64 s) (.slice SA j sc) (.slice CA k cc) (.slice VA ln vc) (.int .i64 (-1));have kl0 := bc hLq 0;have kl1 := bc hLq 1;have kl2 := bc hLq 2;have kl3 := bc hLq 3;have kl4 := bc hLq 4;obtain ⟨HXq, HRq, HLq, HWq, HOq, HCq, HSq, Hbq⟩ := hd8 hXq hRq hLq hWq hOq hCq hSq hbq;obtain ⟨Hln, Hs, HXc, HRc, Hnsv, Hncl, Hbr, HLq'⟩ := hd8 hln hs hXc hRc hnsv hncl hbr hLq';obtain ⟨Hfin, HR9⟩ := hd2 hfin hR9;clear hR9 hfin hLq' hbr hncl hnsv hRc hXc hs hln hbq hSq hCq hOq hWq hLq hRq hXq;go_wp2_with fail;refine bodyPost_ret (zdt rfl _ _ R 73 _ (0, 0) _ rfl HR9.out Tryd.underlying73 (by kernel_rfl)) rfl ?_;exact Hfin.out
         case true =>
          have hL1 := hLq.set_fst (.int .i64 (s + 8));have hR1 := hRc.far (p := ⟨L, 0, none⟩) hLR (.int .i64 (s + 8));have hL2 := hL1.set5_4 (.int .i64 s);have hR2 := hR1.far (p := ⟨L, 4, none⟩) hLR (.int .i64 s);have hO2 := ownsRow_setCell_other (ownsRow_setCell_other hOq (a := ⟨L, 0, none⟩) (zaq hOq hLq (by decide)) (.int .i64 (s + 8))) (a := ⟨L, 4, none⟩) (zaq hOq hLq (by decide)) (.int .i64 s);have hC2 := ownsRow_setCell_other (ownsRow_setCell_other hCq (a := ⟨L, 0, none⟩) (zaq hCq hLq (by decide)) (.int .i64 (s + 8))) (a := ⟨L, 4, none⟩) (zaq hCq hLq (by decide)) (.int .i64 s);have hS2 := ownsRow_setCell_other (ownsRow_setCell_other hSq (a := ⟨L, 0, none⟩) (zaq hSq hLq (by decide)) (.int .i64 (s + 8))) (a := ⟨L, 4, none⟩) (zaq hSq hLq (by decide)) (.int .i64 s);have hb2 := (hbq.setCell (p := ⟨L, 0, none⟩) hLw (.int .i64 (s + 8))).setCell (p := ⟨L, 4, none⟩) hLw (.int .i64 s);obtain ⟨W1, hW1⟩ := nm (wr.setCell ⟨L, 0, none⟩ (.int .i64 (s + 8)));rw [<- hW1] at hL1 hR1 hL2 hR2 hO2 hC2 hS2 hb2;obtain ⟨W2, hW2⟩ := nm (W1.setCell ⟨L, 4, none⟩ (.int .i64 s));rw [<- hW2] at hL2 hR2 hO2 hC2 hS2 hb2;obtain ⟨s8, hs8'⟩ := mn (s + 8);rw [hs8'] at hL1 hL2
          have hfin : zgT g w (.returned (.tuple #[.agg #[.int .i64 s8, .slice SA j sc, .slice CA k cc, .slice VA ln vc, .int .i64 s], .int .i64 0])) (zm0 W2 R (.int .i64 s8) (.slice SA j sc) (.slice CA k cc) (.slice VA ln vc) (.int .i64 s)) := by
           refine ⟨zgi hb2 hRw _ _ _ _ _, _, rfl, ⟨.slice SA j sc, .slice CA k cc, .slice VA ln vc, ?_, ?_, ?_, ?_⟩, _, _, _, _, _, rfl, fun b h => Hap.out b h⟩
           ·have e1 : ((zaF g : Nat) : Int) = s8 := by unfold zaF zh6; rw [Hnsg.out, hnsv, hncl, hbr]; simp only [if_true]; omega
            have e2 : zdB g = s := by unfold zdB; rw [hbr, Hnsg.out, hncl, hnsv]; simp only [if_true]; exact hs
            rw [e1, e2]
           ·rw [Hnsg.out]; exact zdS hO2 hR2 (by decide) _ _ _ _ _
           ·rw [Hnsg.out, hncl]; exact zdS hC2 hR2 (by decide) _ _ _ _ _
           ·rw [Hnsg.out, hncl, hnsv]; exact zdS hS2 hR2 (by decide) _ _ _ _ _
          have hR9 := ziK hR2 (.int .i64 s8) (.slice SA j sc) (.slice CA k cc) (.slice VA ln vc) (.int .i64 s);clear kr0 kr1 kr2 kr3 kr4 fr0 fr1 fr2 fr3 fr4;obtain ⟨HXq, HRq, HLq, HWq, HOq, HCq, HSq, Hbq⟩ := hd8 hXq hRq hLq hWq hOq hCq hSq hbq;obtain ⟨Hln, Hs, HXc, HRc, Hnsv, Hncl, Hbr, HLq'⟩ := hd8 hln hs hXc hRc hnsv hncl hbr hLq';obtain ⟨Hfin, HR9, HO2, HC2, HS2, Hb2, HL2, HR2⟩ := hd8 hfin hR9 hO2 hC2 hS2 hb2 hL2 hR2;obtain ⟨HL1, HR1, HW1, HW2, Hs8'⟩ := hd5 hL1 hR1 hW1 hW2 hs8';clear hs8' hW2 hW1 hR1 hL1 hR2 hL2 hb2 hS2 hC2 hO2 hR9 hfin hLq' hbr hncl hnsv hRc hXc hs hln hbq hSq hCq hOq hWq hLq hRq hXq;go_wp2_with fail;refine (zfb wr L s _ _ _ _ HLq.out hs0 hs8).mono ?_;rintro e w5 ⟨rfl, rfl⟩;rw [<- HW1.out];have km4 := bc HL1.out 4;have fm4 := Blk.frozen HL1.out 4;have kl0 := bc HL2.out 0;have kl1 := bc HL2.out 1;have kl2 := bc HL2.out 2;have kl3 := bc HL2.out 3;have kl4 := bc HL2.out 4;have kr0 := bc HR2.out 0;have kr1 := bc HR2.out 1;have kr2 := bc HR2.out 2;have kr3 := bc HR2.out 3;have kr4 := bc HR2.out 4;have fr0 := Blk.frozen HR2.out 0;have fr1 := Blk.frozen HR2.out 1;have fr2 := Blk.frozen HR2.out 2;have fr3 := Blk.frozen HR2.out 3;have fr4 := Blk.frozen HR2.out 4;have hW2e : W1.setCell ⟨L, 4, none⟩ (.int .i64 s) = W2 := HW2.out.symm;go_upto_region 35 with fail;clear hW2e km4 fm4;go_wp2_with fail;refine bodyPost_ret (zdt rfl _ _ R 73 _ (0, 0) _ rfl HR9.out Tryd.underlying73 (by kernel_rfl)) rfl ?_;exact Hfin.out
end Go.Proofs.YtnfjjliiajaijaaDoor
