/- Walk of the document's question whether all is well with a node. Conditions: the graphs, the node lie in memory. -/
import Derived.Test.YtncpehhfjkncoaaPlAA
import Derived.Test.YtncpehhfjkncoaaPlBM
set_option linter.unusedVariables false
set_option linter.unusedSimpArgs false
set_option maxRecDepth 100000
set_option maxHeartbeats 16000000
namespace Go.Proofs.Ytncpehhfjkncoaa
open Go.RowKit

theorem refnode_any (w : World) (B : Nat) (hB : B <= w.heap.size) (allv : Value) (gs : List GraphD) (hgs : GraphsAt w B allv gs) (g : GraphD) (pv kv iv nv : Value) (hkA : NumsAt .u8 w B kv g.kinds) (hnA : RowsAt 12 NodeAt w B nv g.nodes) (hkm : g.kinds.length <= 140737488351232) (bound : Bool)
  (hpar : ∀ f ∈ gs, ∀ p ∈ f.params, 0 <= p /\ p < f.kinds.length) (hgl : gs.length <= 16) (x : NodeD) (av : Value) (hav : NumsAt .i64 w B av x.args) (hal : x.args.length <= 140737488351232) (hpl : ∀ f ∈ gs, f.params.length <= 4) (hkl : ∀ f ∈ gs, f.kinds.length <= 1024) (hno : ¬ (x.op = 11 ∨ x.op = 13)) :
  Calls Try.prog 17 #[allv, .agg (gcells g pv kv iv nv).toArray, .bool bound, .agg (ncells x av).toArray] w fun e w' => e = .returned (.bool (nodeB gs g bound x)) /\ Below w.heap.size w w' := by
 obtain ⟨r, hr⟩ := mn (nodeB gs g bound x);rw [hr];unfold nodeB at hr;obtain ⟨NA, nn, nc, css, hnv, _, _, hnn, _⟩ := id hnA;obtain ⟨CS, hCS⟩ := nm ((gcells g pv kv iv nv).toArray);obtain ⟨NC, hNC⟩ := nm ((ncells x av).toArray);have hag : (gcells g pv kv iv nv).toArray = CS := hCS.symm;have han : (ncells x av).toArray = NC := hNC.symm;have hag2 : (#[pv, kv, .int .i64 g.cells, iv, .bool g.result, .int .i64 g.keep, nv, .int .i64 g.entry] : Array Value) = CS := hag;rw [hag, han];obtain ⟨G, hG⟩ := nm (w.heap.size);obtain ⟨D, hD⟩ := nm (w.heap.size + 1);have hBg := (Blk.new w 48 CS).alloc (.cells NC 52);have hBn := Blk.new2 w (.cells CS 48) 52 NC;have hb := ((Below.refl w.heap.size w).alloc (Nat.le_refl _) (.cells CS 48)).alloc (by simp) (.cells NC 52);rw [<- hG] at hBg;rw [<- hD] at hBn;obtain ⟨V, hV⟩ := nm ((w.alloc (.cells CS 48)).alloc (.cells NC 52));rw [<- hV] at hb hBg hBn;have hGl := hBg.lt;have hDl := hBn.lt;have hBV : B <= V.heap.size := Nat.le_trans hB hb.size
 have hop : NC[0]? = some (.int .u8 x.op) := by rw [hNC]; rfl
 have kop := hBn.cell 0;rw [hop] at kop;have hgs1 := hgs.below (hb.mono hB);have hkA1 := hkA.below (hb.mono hB);have hav1 := hav.below (hb.mono hB)
 have hgr : ∀ W, Below V.heap.size V W -> W.rangeAt G 0 (gcells g pv kv iv nv) := fun W h j v hv => by
  rw [(h.cell (p := ⟨G, 0 + j, none⟩) hGl), hBg.cell (0 + j), hCS, Nat.zero_add];exact (List.getElem?_toArray ..).trans hv
 have hnr : ∀ W, Below V.heap.size V W -> W.rangeAt D 0 (ncells x av) := fun W h j v hv => by
  rw [(h.cell (p := ⟨D, 0 + j, none⟩) hDl), hBn.cell (0 + j), hNC, Nat.zero_add];exact (List.getElem?_toArray ..).trans hv
 have hfit : ∀ W, Below V.heap.size V W -> ∀ p k, Calls Try.prog 34 #[.agg CS, .bool bound, .int .i64 p, .int .u8 k] W fun e w' => e = .returned (.bool (fitsB g bound k p)) /\ Below W.heap.size W w' := fun W h p k => by
  rw [<- hag];exact fits_any W g pv kv iv nv B (Nat.le_trans hBV h.size) (hkA1.below (h.mono hBV)) hkm bound p k
 have hgc : ∀ W, Below V.heap.size V W -> ∀ j v, (gcells g pv kv iv nv)[j]? = some v -> W.cell? ⟨G, j, none⟩ = some v := fun W h j v hv => by
  have := hgr W h j v hv
  rwa [Nat.zero_add] at this
 have hnc : ∀ W, Below V.heap.size V W -> ∀ j v, (ncells x av)[j]? = some v -> W.cell? ⟨D, j, none⟩ = some v := fun W h j v hv => by
  have := hnr W h j v hv
  rwa [Nat.zero_add] at this
 have hnx := refnext_any V x av;rw [han] at hnx;have hnr0 := hnr V (Below.refl _ _);obtain ⟨HNO, Hr, Hnn, Hb, HBg, HBn, HV, HG⟩ := hd8 hno hr hnn hb hBg hBn hV hG;obtain ⟨HD, HCS, HNC, Hop, Hgs1, HkA1, Hav1, HGR⟩ := hd8 hD hCS hNC hop hgs1 hkA1 hav1 hgr;obtain ⟨HNR, Hfit, HGC, HNX, Hgs, HkA, Hav, HnA⟩ := hd8 hnr hfit hgc hnc hgs hkA hav hnA;obtain ⟨Hpar, Hpl, Hkl, Hnx, Hnr0⟩ := hd5 hpar hpl hkl hnx hnr0;clear hnr0 hnx hkl hpl hpar hnA hav hkA hgs hnc hgc hfit hnr hgr hav1 hkA1 hgs1 hop hNC hCS hD hG hV hBn hBg hb hnn hr hno;go_enter Try.func17, Try.ntmps17;go_upto_region 1 with fail;rw [<- HV.out, <- HD.out, <- HG.out]
 by_cases o1 : x.op < 1
 ·have hs : false = r := by
   rw [<- Hr.out]
   have : opB gs g bound x = false := by
    unfold opB
    repeat (rw [if_neg (by omega)])
   rw [this, Bool.and_false]
  have Hs := Lib.hid hs;clear hs;go_wp2_with fail;go_ret;rw [<- Hs.out];exact ⟨rfl, Hb.out⟩
 by_cases o2 : 18 < x.op
 ·have hs : false = r := by
   rw [<- Hr.out]
   have : opB gs g bound x = false := by
    unfold opB
    repeat (rw [if_neg (by omega)])
   rw [this, Bool.and_false]
  have Hs := Lib.hid hs;clear hs;go_wp2_with fail;go_ret;rw [<- Hs.out];exact ⟨rfl, Hb.out⟩
 have hrr := Hr.out;rw [op_want gs g bound x (by omega) (by omega)] at hrr;have hwt := want_any;obtain ⟨Hrr, Hwt⟩ := hd2 hrr hwt;clear hwt hrr;go_wp2_with (refine wpList_load_mid rfl 52 _ rfl D 0 rfl (ncells x av) _ Hnr0.out Try.underlying52 rfl (by kernel_rfl) ?_);refine Hnx.out.mono ?_;rintro e w1 ⟨⟨v, rfl, hL⟩, hb1⟩;obtain ⟨LA, lc, rfl, _, hlc, hLr⟩ := hL;obtain ⟨L, hLe⟩ := mn (nextL x);obtain ⟨m, hm⟩ := mn (L.length);rw [hLe] at hLr ⊢;rw [hm] at hLr ⊢
 have hm2 : m <= 2 := by
  rw [<- hm, <- hLe];unfold nextL
  repeat' split
  all_goals simp
 have hrA := Hrr.out;rw [hLe] at hrA;have hbw1 := Hb.out.trans (hb1.mono Hb.out.size);have g6 := HGC.out w1 hb1 6 _ rfl;rw [hnv] at g6;obtain ⟨Hbw1, HLr, HLe, Hm, HrA, Hb1, Hnv⟩ := hd7 hbw1 hLr hLe hm hrA hb1 hnv;clear hnv hb1 hrA hm hLe hLr hbw1;clear kop;go_wp2_with fail
 go_loopw [29] (fun i wq => ∃ j : Nat, j <= m /\ i = .int .i64 j /\ wq = w1 /\ Hid (∀ t ∈ L.take j, (decide (0 <= t) && decide (t < g.nodes.length)) = true)) (fun i _ => m - (intOf i).toNat)
 case atStart => exact ⟨0, by omega, rfl, rfl, (show ∀ t ∈ L.take 0, (decide (0 <= t) && decide (t < g.nodes.length)) = true from fun t ht => by simp at ht)⟩
 case round =>
  obtain ⟨j, hj, rfl, hwr, hall⟩ := hrel;subst hwr
  by_cases hjm : j < m
  ·obtain ⟨ad, u0, hAd, _, hu0, hce⟩ := HLr.out.at_ hjm;subst hAd
   obtain ⟨p, hpj, rfl⟩ : ∃ p, L[j]? = some p /\ u0 = .int .i64 p := by
    rw [List.getElem?_map, Option.map_eq_some_iff] at hu0;obtain ⟨x, h1, h2⟩ := hu0;exact ⟨x, h1, h2.symm⟩
   have hmem := List.mem_of_getElem? hpj
   have hjI : (j : Int) < m := by omega
   have hbad : (decide (0 <= p) && decide (p < g.nodes.length)) = false -> r = false := fun hf => by
    rw [<- HrA.out]
    rcases hq : L.all (fun t => decide (0 <= t) && decide (t < g.nodes.length)) with _ | _
    ·rfl
    ·rw [List.all_eq_true.1 hq p hmem] at hf; cases hf
   clear hu0
   by_cases c0 : 0 <= p
   ·by_cases c1 : p < nn
    ·have hs : ∀ t ∈ L.take (j + 1), (decide (0 <= t) && decide (t < g.nodes.length)) = true := fun t ht => by
      rw [List.take_add_one, hpj] at ht
      rcases List.mem_append.1 ht with ht | ht
      ·exact hall.out t ht
      ·simp at ht; rw [ht, Hnn.out]; simp [c0, c1]
     have c0' : ¬ p < 0 := by omega
     have c1' : ¬ (nn : Int) <= p := by omega
     obtain ⟨Hs, Hall, Hpj, Hmem, Hbad⟩ := hd5 hs hall hpj hmem hbad;clear hbad hmem hpj hall hs;clear c0 c1;go_wp2_with fail;exact ⟨⟨j + 1, by omega, by go_num, trivial, Lib.hid Hs.out⟩, by simp [intOf]; omega⟩
    ·have hs := hbad (by rw [Hnn.out]; simp [c1])
     have c0' : ¬ p < 0 := by omega
     have c1' : (nn : Int) <= p := by omega
     obtain ⟨Hs, Hall, Hpj, Hmem, Hbad⟩ := hd5 hs hall hpj hmem hbad;clear hbad hmem hpj hall hs;clear c0 c1;go_wp2_with fail;go_ret;rw [Hs.out];exact ⟨rfl, Hbw1.out⟩
   ·have hs := hbad (by simp [c0])
    have c0' : p < 0 := by omega
    obtain ⟨Hs, Hall, Hpj, Hmem, Hbad⟩ := hd5 hs hall hpj hmem hbad;clear hbad hmem hpj hall hs;clear c0;go_wp2_with fail;go_ret;rw [Hs.out];exact ⟨rfl, Hbw1.out⟩
  ·have hrB : (wantB g bound x && tailB gs g bound x) = r := by
    have h1 := HrA.out;rw [List.take_of_length_le (by rw [Hm.out]; omega)] at hall;rw [List.all_eq_true.2 hall.out, Bool.true_and] at h1;exact h1
   have hjI : ¬ (j : Int) < m := by omega
   have kop := HNX.out wr Hb1.out 0 _ rfl;have hwt := Hwt.out wr x.op (by omega) (by omega);obtain ⟨Hall, HrB, HWT⟩ := hd3 hall hrB hwt;clear hwt hrB hall;clear g6;go_wp2_with fail;refine HWT.out.mono ?_;rintro e w2 ⟨rfl, hb2⟩;have hbV2 := Hb1.out.trans (hb2.mono Hb1.out.size);have k2 := HNX.out w2 hbV2 2 _ rfl;have k3 := HNX.out w2 hbV2 3 _ rfl;have k4 := HNX.out w2 hbV2 4 _ rfl;have k5 := HNX.out w2 hbV2 5 _ rfl;clear kop hb2;obtain ⟨P0, hP0⟩ := mn ([x.d, x.e, x.a, x.b]);obtain ⟨S, hS⟩ := mn (wantA x.op);rw [hS]
   have hSs : (ByteArray.mk S).size = 4 := by rw [<- hS]; exact wantA_size x.op
   have hpl4 : Reads (w2.alloc (.cells #[.int .i64 x.d, .int .i64 x.e, .int .i64 x.a, .int .i64 x.b] 3)) (w2.heap.size + 1) 1 (some ⟨w2.heap.size, 0, none⟩) 4 (P0.map (Value.int .i64)) := by rw [<- hP0]; exact Reads.newL' w2 3 [x.d, x.e, x.a, x.b] rfl rfl rfl
   obtain ⟨W0, hW0⟩ := nm (w2.alloc (.cells #[.int .i64 x.d, .int .i64 x.e, .int .i64 x.a, .int .i64 x.b] 3));obtain ⟨Q, hQ⟩ := nm (w2.heap.size)
   have hbV0 : Below V.heap.size V W0 := by rw [hW0]; exact hbV2.alloc hbV2.size _
   have hQ0 : W0.heap.size = Q + 1 := by rw [hW0, World.size_alloc, hQ]
   rw [<- hW0, <- hQ, <- hQ0] at hpl4;obtain ⟨pl, hpl⟩ := nm (Value.slice (some ⟨Q, 0, none⟩) 4 4);obtain ⟨HS, Hpl4, HbV0, HP0, HSs, HW0, HQ, HQ0⟩ := hd8 hS hpl4 hbV0 hP0 hSs hW0 hQ hQ0;obtain ⟨HbV2, HPLL⟩ := hd2 hbV2 hpl;clear hpl hbV2 hQ0 hQ hW0 hSs hP0 hbV0 hpl4 hS;go_upto_region 11 with fail;rw [<- HW0.out, <- HQ.out];go_wp2_with fail;clear k2 k3 k4 k5
   go_loopw [57] (fun i wq => ∃ j : Nat, j <= 4 /\ i = .int .i64 j /\ Below W0.heap.size W0 wq /\ Hid (∀ k, k < j -> chk g bound ((wantA x.op).getD k 0).toNat ([x.d, x.e, x.a, x.b].getD k 0) = true)) (fun i _ => 4 - (intOf i).toNat)
   case atStart => exact ⟨0, by omega, rfl, Below.refl _ _, (show ∀ k, k < 0 -> chk g bound ((wantA x.op).getD k 0).toNat ([x.d, x.e, x.a, x.b].getD k 0) = true by omega)⟩
   case round =>
    obtain ⟨jj, hjj, rfl, hbq, hall2⟩ := hrel;have hsq := hbq.size;have hbVq := HbV0.out.trans (hbq.mono HbV0.out.size);have hbnd := Hb.out.trans (hbVq.mono Hb.out.size)
    by_cases hj4 : jj < 4
    ·obtain ⟨ad, u0, hAd, _, hu0, hce⟩ := (Hpl4.out.below hbq).at_ hj4;injection hAd with hAd;subst hAd
     obtain ⟨p, hpj, rfl⟩ : ∃ p, P0[jj]? = some p /\ u0 = .int .i64 p := by
      rw [List.getElem?_map, Option.map_eq_some_iff] at hu0;obtain ⟨x, h1, h2⟩ := hu0;exact ⟨x, h1, h2.symm⟩
     have hj4I : (jj : Int) < 4 := by omega
     have hjS : jj < (ByteArray.mk S).size := by rw [HSs.out]; exact hj4
     have hpg : [x.d, x.e, x.a, x.b].getD jj 0 = p := by rw [HP0.out, List.getD_eq_getElem?_getD, hpj]; rfl
     rw [addr_zero] at hce;obtain ⟨c, hc⟩ := mn (((ByteArray.mk S)[jj].toNat : Int) : Int)
     have hcg : (((wantA x.op).getD jj 0).toNat : Int) = c := by
      rw [<- hc, HS.out];have hjS' : jj < S.size := hjS;simp [Array.getD_eq_getD_getElem?, hjS']
      rfl
     obtain ⟨Hpg, Hcg, Hpj⟩ := hd3 hpg hcg hpj;clear hpj hcg hpg;clear hu0;go_upto_region 15 with fail
     by_cases c1 : c = 110
     ·have c1' : (c == 110) = true := by simp [c1]
      have hft := Hfit.out wr hbVq p 0;obtain ⟨bf, hbf⟩ := mn (fitsB g bound 0 p);rw [hbf] at hft;have hrange := HGR.out wr hbVq
      have hck : chk g bound ((wantA x.op).getD jj 0).toNat ([x.d, x.e, x.a, x.b].getD jj 0) = bf := by
       rw [Hpg.out];have h1 := Hcg.out;rw [c1] at h1
       have h2 : ((wantA x.op).getD jj 0).toNat = 110 := by omega
       rw [h2];exact hbf
      obtain ⟨Hft, Hbf, Hrange, Hck, Hc1, Hall2, Hbq, HbVq⟩ := hd8 hft hbf hrange hck c1 hall2 hbq hbVq;have Hbnd := Lib.hid hbnd;clear hbnd hbVq hbq hall2 c1 hck hrange hbf hft;go_wp2_with (refine wpList_load_mid rfl 48 _ rfl G 0 rfl (gcells g pv kv iv nv) _ Hrange.out Try.underlying48 rfl (by kernel_rfl) ?_);refine Hft.out.mono ?_;rintro e w8 ⟨rfl, hb8⟩;have hbe := Hbq.out.trans (hb8.mono Hbq.out.size);have hbe2 := Hbnd.out.trans (hb8.mono Hbnd.out.size);clear hb8
      cases bf
      ·have hs : r = false := by
        rw [<- HrB.out]
        have : wantB g bound x = false := by
         unfold wantB
         rcases hq : (List.range 4).all _ with _ | _
         ·rfl
         ·rw [List.all_eq_true.1 hq jj (List.mem_range.2 hj4)] at Hck; exact absurd Hck.out (by simp)
        rw [this, Bool.false_and]
       obtain ⟨Hs, Hbe, Hbe2⟩ := hd3 hs hbe hbe2;clear hbe2 hbe hs;go_wp2_with fail;go_ret;rw [Hs.out];exact ⟨rfl, Hbe2.out⟩
      ·have hs : ∀ k, k < jj + 1 -> chk g bound ((wantA x.op).getD k 0).toNat ([x.d, x.e, x.a, x.b].getD k 0) = true := fun k hk => by
        by_cases e : k = jj
        ·rw [e]; exact Hck.out
        ·exact Hall2.out k (by omega)
       obtain ⟨Hs, Hbe, Hbe2⟩ := hd3 hs hbe hbe2;clear hbe2 hbe hs;go_wp2_with fail;exact ⟨⟨jj + 1, by omega, by go_num, Hbe.out, Lib.hid Hs.out⟩, by simp [intOf]; omega⟩
     have c1' : (c == 110) = false := by simp [c1]
     by_cases c2 : c = 112
     ·have c2' : (c == 112) = true := by simp [c2]
      have hft := Hfit.out wr hbVq p 1;obtain ⟨bf, hbf⟩ := mn (fitsB g bound 1 p);rw [hbf] at hft;have hrange := HGR.out wr hbVq
      have hck : chk g bound ((wantA x.op).getD jj 0).toNat ([x.d, x.e, x.a, x.b].getD jj 0) = bf := by
       rw [Hpg.out];have h1 := Hcg.out;rw [c2] at h1
       have h2 : ((wantA x.op).getD jj 0).toNat = 112 := by omega
       rw [h2];exact hbf
      obtain ⟨Hc1, Hft, Hbf, Hrange, Hck, Hc2, Hall2, Hbq⟩ := hd8 c1 hft hbf hrange hck c2 hall2 hbq;obtain ⟨HbVq, Hbnd⟩ := hd2 hbVq hbnd;clear hbnd hbVq hbq hall2 c2 hck hrange hbf hft c1;go_wp2_with (refine wpList_load_mid rfl 48 _ rfl G 0 rfl (gcells g pv kv iv nv) _ Hrange.out Try.underlying48 rfl (by kernel_rfl) ?_);refine Hft.out.mono ?_;rintro e w8 ⟨rfl, hb8⟩;have hbe := Hbq.out.trans (hb8.mono Hbq.out.size);have hbe2 := Hbnd.out.trans (hb8.mono Hbnd.out.size);clear hb8
      cases bf
      ·have hs : r = false := by
        rw [<- HrB.out]
        have : wantB g bound x = false := by
         unfold wantB
         rcases hq : (List.range 4).all _ with _ | _
         ·rfl
         ·rw [List.all_eq_true.1 hq jj (List.mem_range.2 hj4)] at Hck; exact absurd Hck.out (by simp)
        rw [this, Bool.false_and]
       obtain ⟨Hs, Hbe, Hbe2⟩ := hd3 hs hbe hbe2;clear hbe2 hbe hs;go_wp2_with fail;go_ret;rw [Hs.out];exact ⟨rfl, Hbe2.out⟩
      ·have hs : ∀ k, k < jj + 1 -> chk g bound ((wantA x.op).getD k 0).toNat ([x.d, x.e, x.a, x.b].getD k 0) = true := fun k hk => by
        by_cases e : k = jj
        ·rw [e]; exact Hck.out
        ·exact Hall2.out k (by omega)
       obtain ⟨Hs, Hbe, Hbe2⟩ := hd3 hs hbe hbe2;clear hbe2 hbe hs;go_wp2_with fail;exact ⟨⟨jj + 1, by omega, by go_num, Hbe.out, Lib.hid Hs.out⟩, by simp [intOf]; omega⟩
     ·have c2' : (c == 112) = false := by simp [c2]
      have hck : chk g bound ((wantA x.op).getD jj 0).toNat ([x.d, x.e, x.a, x.b].getD jj 0) = true := by
       have h1 := Hcg.out;unfold chk;rw [if_neg (by omega), if_neg (by omega)]
      have hs : ∀ k, k < jj + 1 -> chk g bound ((wantA x.op).getD k 0).toNat ([x.d, x.e, x.a, x.b].getD k 0) = true := fun k hk => by
       by_cases e : k = jj
       ·rw [e]; exact hck
       ·exact hall2.out k (by omega)
      obtain ⟨Hs, Hck, Hall2, Hbq, HbVq, Hbnd, Hc1, Hc2⟩ := hd8 hs hck hall2 hbq hbVq hbnd c1 c2;clear c2 c1 hbnd hbVq hbq hall2 hck hs;go_wp2_with fail;exact ⟨⟨jj + 1, by omega, by go_num, Hbq.out, Lib.hid Hs.out⟩, by simp [intOf]; omega⟩
    ·have hj4I : ¬ (jj : Int) < 4 := by omega
     have hrt : tailB gs g bound x = r := by
      have h1 := HrB.out
      have : wantB g bound x = true := List.all_eq_true.2 fun k hk => hall2.out k (by have := List.mem_range.1 hk; omega)
      rw [this, Bool.true_and] at h1;exact h1
     have kop := HNX.out wr hbVq 0 _ rfl;obtain ⟨Hrt, Hall2, Hbq, HbVq, Hbnd⟩ := hd5 hrt hall2 hbq hbVq hbnd;clear hbnd hbVq hbq hall2 hrt;go_upto_region 23 with fail
     by_cases e : x.op = 2
     ·skip
      have x2 : (x.op == 2) = true := by simp [e]
      have x3 : (x.op == 3) = false := by simp [e]
      have x4 : (x.op == 4) = false := by simp [e]
      have x5 : (x.op == 5) = false := by simp [e]
      have x6 : (x.op == 6) = false := by simp [e]
      have x11 : (x.op == 11) = false := by simp [e]
      have x12 : (x.op == 12) = false := by simp [e]
      have x13 : (x.op == 13) = false := by simp [e]
      have x15 : (x.op == 15) = false := by simp [e]
      have hT : ((fitsB g bound 0 x.d && fitsB g bound 0 x.a) || (fitsB g bound 1 x.d && fitsB g bound 1 x.a)) = r := by
       rw [<- Hrt.out]; unfold tailB; rw [if_pos e]
      obtain ⟨A, hA⟩ := mn (fitsB g bound 0 x.d);obtain ⟨A2, hA2⟩ := mn (fitsB g bound 0 x.a);obtain ⟨C, hC⟩ := mn (fitsB g bound 1 x.d);obtain ⟨C2, hC2⟩ := mn (fitsB g bound 1 x.a);rw [hA, hA2, hC, hC2] at hT;obtain ⟨HT, HA, HAA, HC, HCC, He⟩ := hd6 hT hA hA2 hC hC2 e;clear e hC2 hC hA2 hA hT;have hrg1 := HGR.out wr HbVq.out;have hf1 := Hfit.out wr HbVq.out x.d 0;rw [HA.out] at hf1;have q1n2 := HNX.out wr HbVq.out 2 _ rfl;have q1n4 := HNX.out wr HbVq.out 4 _ rfl;obtain ⟨Hrg1, Hf1⟩ := hd2 hrg1 hf1;clear hf1 hrg1;go_wp2_with (refine wpList_load_mid rfl 48 _ rfl G 0 rfl (gcells g pv kv iv nv) _ Hrg1.out Try.underlying48 rfl (by kernel_rfl) ?_);refine Hf1.out.mono ?_;rintro e9 u1 ⟨rfl, hbz1⟩;have hbv1 := HbVq.out.trans (hbz1.mono HbVq.out.size);have hbn1 := Hbnd.out.trans (hbz1.mono Hbnd.out.size);obtain ⟨Hbv1, Hbn1⟩ := hd2 hbv1 hbn1;clear hbn1 hbv1;clear hbz1 q1n2 q1n4
      cases A
      ·skip
       have hrg2 := HGR.out u1 Hbv1.out;have hf2 := Hfit.out u1 Hbv1.out x.d 1;rw [HC.out] at hf2;have q2n2 := HNX.out u1 Hbv1.out 2 _ rfl;have q2n4 := HNX.out u1 Hbv1.out 4 _ rfl;obtain ⟨Hrg2, Hf2⟩ := hd2 hrg2 hf2;clear hf2 hrg2;have q2g0 := HGC.out u1 Hbv1.out 0 _ rfl;have q2g1 := HGC.out u1 Hbv1.out 1 _ rfl;have q2g2 := HGC.out u1 Hbv1.out 2 _ rfl;have q2g3 := HGC.out u1 Hbv1.out 3 _ rfl;have q2g4 := HGC.out u1 Hbv1.out 4 _ rfl;have q2g5 := HGC.out u1 Hbv1.out 5 _ rfl;have q2g6 := HGC.out u1 Hbv1.out 6 _ rfl;have q2g7 := HGC.out u1 Hbv1.out 7 _ rfl;go_wp2_with fail;refine Hf2.out.mono ?_;rintro e9 u2 ⟨rfl, hbz2⟩;have hbv2 := Hbv1.out.trans (hbz2.mono Hbv1.out.size);have hbn2 := Hbn1.out.trans (hbz2.mono Hbn1.out.size);obtain ⟨Hbv2, Hbn2⟩ := hd2 hbv2 hbn2;clear hbn2 hbv2;clear hbz2 q2n2 q2n4 q2g0 q2g1 q2g2 q2g3 q2g4 q2g5 q2g6 q2g7
       cases C
       ·skip
        have hzz : false = r := HT.out;have Hzz := Lib.hid hzz;clear hzz;go_wp2_with fail;go_ret;rw [<- Hzz.out];exact ⟨rfl, Hbn2.out⟩
       ·skip
        have hrg3 := HGR.out u2 Hbv2.out;have hf3 := Hfit.out u2 Hbv2.out x.a 1;rw [HCC.out] at hf3;have q3n2 := HNX.out u2 Hbv2.out 2 _ rfl;have q3n4 := HNX.out u2 Hbv2.out 4 _ rfl;obtain ⟨Hrg3, Hf3⟩ := hd2 hrg3 hf3;clear hf3 hrg3;have q3g0 := HGC.out u2 Hbv2.out 0 _ rfl;have q3g1 := HGC.out u2 Hbv2.out 1 _ rfl;have q3g2 := HGC.out u2 Hbv2.out 2 _ rfl;have q3g3 := HGC.out u2 Hbv2.out 3 _ rfl;have q3g4 := HGC.out u2 Hbv2.out 4 _ rfl;have q3g5 := HGC.out u2 Hbv2.out 5 _ rfl;have q3g6 := HGC.out u2 Hbv2.out 6 _ rfl;have q3g7 := HGC.out u2 Hbv2.out 7 _ rfl;go_wp2_with fail;refine Hf3.out.mono ?_;rintro e9 u3 ⟨rfl, hbz3⟩;have hbv3 := Hbv2.out.trans (hbz3.mono Hbv2.out.size);have hbn3 := Hbn2.out.trans (hbz3.mono Hbn2.out.size);obtain ⟨Hbv3, Hbn3⟩ := hd2 hbv3 hbn3;clear hbn3 hbv3;clear hbz3 q3n2 q3n4 q3g0 q3g1 q3g2 q3g3 q3g4 q3g5 q3g6 q3g7
        cases C2
        ·skip
         have hzz : false = r := HT.out;have Hzz := Lib.hid hzz;clear hzz;go_wp2_with fail;go_ret;rw [<- Hzz.out];exact ⟨rfl, Hbn3.out⟩
        ·skip
         have hzz : true = r := HT.out;have Hzz := Lib.hid hzz;clear hzz;go_wp2_with fail;go_ret;rw [<- Hzz.out];exact ⟨rfl, Hbn3.out⟩
      ·skip
       have hrg2 := HGR.out u1 Hbv1.out;have hf2 := Hfit.out u1 Hbv1.out x.a 0;rw [HAA.out] at hf2;have q2n2 := HNX.out u1 Hbv1.out 2 _ rfl;have q2n4 := HNX.out u1 Hbv1.out 4 _ rfl;obtain ⟨Hrg2, Hf2⟩ := hd2 hrg2 hf2;clear hf2 hrg2;have q2g0 := HGC.out u1 Hbv1.out 0 _ rfl;have q2g1 := HGC.out u1 Hbv1.out 1 _ rfl;have q2g2 := HGC.out u1 Hbv1.out 2 _ rfl;have q2g3 := HGC.out u1 Hbv1.out 3 _ rfl;have q2g4 := HGC.out u1 Hbv1.out 4 _ rfl;have q2g5 := HGC.out u1 Hbv1.out 5 _ rfl;have q2g6 := HGC.out u1 Hbv1.out 6 _ rfl;have q2g7 := HGC.out u1 Hbv1.out 7 _ rfl;go_wp2_with fail;refine Hf2.out.mono ?_;rintro e9 u2 ⟨rfl, hbz2⟩;have hbv2 := Hbv1.out.trans (hbz2.mono Hbv1.out.size);have hbn2 := Hbn1.out.trans (hbz2.mono Hbn1.out.size);obtain ⟨Hbv2, Hbn2⟩ := hd2 hbv2 hbn2;clear hbn2 hbv2;clear hbz2 q2n2 q2n4 q2g0 q2g1 q2g2 q2g3 q2g4 q2g5 q2g6 q2g7
       cases A2
       ·skip
        have hrg3 := HGR.out u2 Hbv2.out;have hf3 := Hfit.out u2 Hbv2.out x.d 1;rw [HC.out] at hf3;have q3n2 := HNX.out u2 Hbv2.out 2 _ rfl;have q3n4 := HNX.out u2 Hbv2.out 4 _ rfl;obtain ⟨Hrg3, Hf3⟩ := hd2 hrg3 hf3;clear hf3 hrg3;have q3g0 := HGC.out u2 Hbv2.out 0 _ rfl;have q3g1 := HGC.out u2 Hbv2.out 1 _ rfl;have q3g2 := HGC.out u2 Hbv2.out 2 _ rfl;have q3g3 := HGC.out u2 Hbv2.out 3 _ rfl;have q3g4 := HGC.out u2 Hbv2.out 4 _ rfl;have q3g5 := HGC.out u2 Hbv2.out 5 _ rfl;have q3g6 := HGC.out u2 Hbv2.out 6 _ rfl;have q3g7 := HGC.out u2 Hbv2.out 7 _ rfl;go_wp2_with fail;refine Hf3.out.mono ?_;rintro e9 u3 ⟨rfl, hbz3⟩;have hbv3 := Hbv2.out.trans (hbz3.mono Hbv2.out.size);have hbn3 := Hbn2.out.trans (hbz3.mono Hbn2.out.size);obtain ⟨Hbv3, Hbn3⟩ := hd2 hbv3 hbn3;clear hbn3 hbv3;clear hbz3 q3n2 q3n4 q3g0 q3g1 q3g2 q3g3 q3g4 q3g5 q3g6 q3g7
        cases C
        ·skip
         have hzz : false = r := HT.out;have Hzz := Lib.hid hzz;clear hzz;go_wp2_with fail;go_ret;rw [<- Hzz.out];exact ⟨rfl, Hbn3.out⟩
        ·skip
         have hrg4 := HGR.out u3 Hbv3.out;have hf4 := Hfit.out u3 Hbv3.out x.a 1;rw [HCC.out] at hf4;have q4n2 := HNX.out u3 Hbv3.out 2 _ rfl;have q4n4 := HNX.out u3 Hbv3.out 4 _ rfl;obtain ⟨Hrg4, Hf4⟩ := hd2 hrg4 hf4;clear hf4 hrg4;have q4g0 := HGC.out u3 Hbv3.out 0 _ rfl;have q4g1 := HGC.out u3 Hbv3.out 1 _ rfl;have q4g2 := HGC.out u3 Hbv3.out 2 _ rfl;have q4g3 := HGC.out u3 Hbv3.out 3 _ rfl;have q4g4 := HGC.out u3 Hbv3.out 4 _ rfl;have q4g5 := HGC.out u3 Hbv3.out 5 _ rfl;have q4g6 := HGC.out u3 Hbv3.out 6 _ rfl;have q4g7 := HGC.out u3 Hbv3.out 7 _ rfl;go_wp2_with fail;refine Hf4.out.mono ?_;rintro e9 u4 ⟨rfl, hbz4⟩;have hbv4 := Hbv3.out.trans (hbz4.mono Hbv3.out.size);have hbn4 := Hbn3.out.trans (hbz4.mono Hbn3.out.size);obtain ⟨Hbv4, Hbn4⟩ := hd2 hbv4 hbn4;clear hbn4 hbv4;clear hbz4 q4n2 q4n4 q4g0 q4g1 q4g2 q4g3 q4g4 q4g5 q4g6 q4g7
         cases C2
         ·skip
          have hzz : false = r := HT.out;have Hzz := Lib.hid hzz;clear hzz;go_wp2_with fail;go_ret;rw [<- Hzz.out];exact ⟨rfl, Hbn4.out⟩
         ·skip
          have hzz : true = r := HT.out;have Hzz := Lib.hid hzz;clear hzz;go_wp2_with fail;go_ret;rw [<- Hzz.out];exact ⟨rfl, Hbn4.out⟩
       ·skip
        have hzz : true = r := HT.out;have Hzz := Lib.hid hzz;clear hzz;go_wp2_with fail;go_ret;rw [<- Hzz.out];exact ⟨rfl, Hbn2.out⟩
     by_cases e : x.op = 3
     ·skip
      have x2 : (x.op == 2) = false := by simp [e]
      have x3 : (x.op == 3) = true := by simp [e]
      have x4 : (x.op == 4) = false := by simp [e]
      have x5 : (x.op == 5) = false := by simp [e]
      have x6 : (x.op == 6) = false := by simp [e]
      have x11 : (x.op == 11) = false := by simp [e]
      have x12 : (x.op == 12) = false := by simp [e]
      have x13 : (x.op == 13) = false := by simp [e]
      have x15 : (x.op == 15) = false := by simp [e]
      have hT : (decide (7 <= x.byo) && decide (x.byo <= 20)) = r := by
       rw [<- Hrt.out]; unfold tailB; rw [if_neg (by omega), if_pos e]
      have He := Lib.hid e;clear e;have qn1 := HNX.out wr HbVq.out 1 _ rfl
      by_cases c7 : 7 <= x.byo
      ·by_cases c20 : x.byo <= 20
       ·have hzz : true = r := by rw [<- hT]; simp [c7, c20]
        obtain ⟨Hzz, HT⟩ := hd2 hzz hT;clear hT hzz;go_wp2_with fail;go_ret;rw [<- Hzz.out];exact ⟨rfl, Hbnd.out⟩
       ·have hzz : false = r := by rw [<- hT]; simp [c20]
        obtain ⟨Hzz, HT⟩ := hd2 hzz hT;clear hT hzz;go_wp2_with fail;go_ret;rw [<- Hzz.out];exact ⟨rfl, Hbnd.out⟩
      ·have hzz : false = r := by rw [<- hT]; simp [c7]
       obtain ⟨Hzz, HT⟩ := hd2 hzz hT;clear hT hzz;go_wp2_with fail;go_ret;rw [<- Hzz.out];exact ⟨rfl, Hbnd.out⟩
     by_cases e : x.op = 4 ∨ x.op = 5 ∨ x.op = 6
     ·skip
      have hT : cellB g x.cell = r := by
       rw [<- Hrt.out]; unfold tailB; rw [if_neg (by omega), if_neg (by omega), if_pos e]
      unfold cellB at hT;obtain ⟨CC, hCC⟩ := mn (g.cells);rw [hCC] at hT;have qn7 := HNX.out wr HbVq.out 7 _ rfl;have qg2 := HGC.out wr HbVq.out 2 _ rfl;rw [hCC] at qg2
      have hcase : (¬ 0 <= x.cell /\ false = r) ∨ (0 <= x.cell /\ ¬ x.cell < CC /\ false = r) ∨ (0 <= x.cell /\ x.cell < CC /\ true = r) := by
       by_cases c0 : 0 <= x.cell
       ·by_cases c1 : x.cell < CC
        ·exact .inr (.inr ⟨c0, c1, by rw [<- hT]; simp [c0, c1]⟩)
        ·exact .inr (.inl ⟨c0, c1, by rw [<- hT]; simp [c1]⟩)
       ·exact .inl ⟨c0, by rw [<- hT]; simp [c0]⟩
      obtain ⟨HT, HCC⟩ := hd2 hT hCC;clear hCC hT
      rcases e with e | e | e
      ·skip
       have x2 : (x.op == 2) = false := by simp [e]
       have x3 : (x.op == 3) = false := by simp [e]
       have x4 : (x.op == 4) = true := by simp [e]
       have x5 : (x.op == 5) = false := by simp [e]
       have x6 : (x.op == 6) = false := by simp [e]
       have x11 : (x.op == 11) = false := by simp [e]
       have x12 : (x.op == 12) = false := by simp [e]
       have x13 : (x.op == 13) = false := by simp [e]
       have x15 : (x.op == 15) = false := by simp [e]
       have He := Lib.hid e;clear e
       rcases hcase with ⟨c0, hzz⟩ | ⟨c0, c1, hzz⟩ | ⟨c0, c1, hzz⟩
       all_goals
        have Hzz := Lib.hid hzz;clear hzz;go_wp2_with fail;go_ret;rw [<- Hzz.out];exact ⟨rfl, Hbnd.out⟩
      ·skip
       have x2 : (x.op == 2) = false := by simp [e]
       have x3 : (x.op == 3) = false := by simp [e]
       have x4 : (x.op == 4) = false := by simp [e]
       have x5 : (x.op == 5) = true := by simp [e]
       have x6 : (x.op == 6) = false := by simp [e]
       have x11 : (x.op == 11) = false := by simp [e]
       have x12 : (x.op == 12) = false := by simp [e]
       have x13 : (x.op == 13) = false := by simp [e]
       have x15 : (x.op == 15) = false := by simp [e]
       have He := Lib.hid e;clear e
       rcases hcase with ⟨c0, hzz⟩ | ⟨c0, c1, hzz⟩ | ⟨c0, c1, hzz⟩
       all_goals
        have Hzz := Lib.hid hzz;clear hzz;go_wp2_with fail;go_ret;rw [<- Hzz.out];exact ⟨rfl, Hbnd.out⟩
      ·skip
       have x2 : (x.op == 2) = false := by simp [e]
       have x3 : (x.op == 3) = false := by simp [e]
       have x4 : (x.op == 4) = false := by simp [e]
       have x5 : (x.op == 5) = false := by simp [e]
       have x6 : (x.op == 6) = true := by simp [e]
       have x11 : (x.op == 11) = false := by simp [e]
       have x12 : (x.op == 12) = false := by simp [e]
       have x13 : (x.op == 13) = false := by simp [e]
       have x15 : (x.op == 15) = false := by simp [e]
       have He := Lib.hid e;clear e
       rcases hcase with ⟨c0, hzz⟩ | ⟨c0, c1, hzz⟩ | ⟨c0, c1, hzz⟩
       all_goals
        have Hzz := Lib.hid hzz;clear hzz;go_wp2_with fail;go_ret;rw [<- Hzz.out];exact ⟨rfl, Hbnd.out⟩
     by_cases e : x.op = 15
     ·skip
      have x2 : (x.op == 2) = false := by simp [e]
      have x3 : (x.op == 3) = false := by simp [e]
      have x4 : (x.op == 4) = false := by simp [e]
      have x5 : (x.op == 5) = false := by simp [e]
      have x6 : (x.op == 6) = false := by simp [e]
      have x11 : (x.op == 11) = false := by simp [e]
      have x12 : (x.op == 12) = false := by simp [e]
      have x13 : (x.op == 13) = false := by simp [e]
      have x15 : (x.op == 15) = true := by simp [e]
      have hT : decide (x.d ≠ x.e) = r := by
       rw [<- Hrt.out]; unfold tailB; rw [if_neg (by omega), if_neg (by omega), if_neg (by omega), if_pos e]
      have He := Lib.hid e;clear e;have qn2 := HNX.out wr HbVq.out 2 _ rfl;have qn3 := HNX.out wr HbVq.out 3 _ rfl
      by_cases cde : x.d = x.e
      ·have hde : (x.d != x.e) = false := by simp [cde]
       have hzz : false = r := by rw [<- hT]; simp [cde]
       obtain ⟨Hzz, HT, Hcde⟩ := hd3 hzz hT cde;clear cde hT hzz;go_wp2_with fail;go_ret;rw [<- Hzz.out];exact ⟨rfl, Hbnd.out⟩
      ·have hde : (x.d != x.e) = true := by simp [cde]
       have hzz : true = r := by rw [<- hT]; simp [cde]
       obtain ⟨Hzz, HT, Hcde⟩ := hd3 hzz hT cde;clear cde hT hzz;go_wp2_with fail;go_ret;rw [<- Hzz.out];exact ⟨rfl, Hbnd.out⟩
     by_cases e : x.op = 12
     ·skip
      have x2 : (x.op == 2) = false := by simp [e]
      have x3 : (x.op == 3) = false := by simp [e]
      have x4 : (x.op == 4) = false := by simp [e]
      have x5 : (x.op == 5) = false := by simp [e]
      have x6 : (x.op == 6) = false := by simp [e]
      have x11 : (x.op == 11) = false := by simp [e]
      have x12 : (x.op == 12) = true := by simp [e]
      have x13 : (x.op == 13) = false := by simp [e]
      have x15 : (x.op == 15) = false := by simp [e]
      have hT : (if x.a = -1 then !g.result else g.result && fitsB g bound 0 x.a) = r := by
       have h1 := Hrt.out;unfold tailB at h1
       rwa [if_neg (by omega), if_neg (by omega), if_neg (by omega), if_neg (by omega), if_pos e] at h1
      have He := Lib.hid e;clear e;obtain ⟨gr, hgr⟩ := mn (g.result);obtain ⟨A, hA⟩ := mn (fitsB g bound 0 x.a);rw [hgr, hA] at hT;have qn4 := HNX.out wr HbVq.out 4 _ rfl;have qg4 := HGC.out wr HbVq.out 4 _ rfl;rw [hgr] at qg4
      by_cases ca : x.a = -1
      ·have ha : (x.a == -1) = true := by simp [ca]
       rw [if_pos ca] at hT;obtain ⟨HT, Hgr, HA, Hca⟩ := hd4 hT hgr hA ca;clear ca hA hgr hT
       cases gr
       ·have hzz : true = r := HT.out;have Hzz := Lib.hid hzz;clear hzz;go_wp2_with fail;go_ret;rw [<- Hzz.out];exact ⟨rfl, Hbnd.out⟩
       ·have hzz : false = r := HT.out;have Hzz := Lib.hid hzz;clear hzz;go_wp2_with fail;go_ret;rw [<- Hzz.out];exact ⟨rfl, Hbnd.out⟩
      ·have ha : (x.a == -1) = false := by simp [ca]
       rw [if_neg ca] at hT;obtain ⟨HT, Hgr, HA, Hca⟩ := hd4 hT hgr hA ca;clear ca hA hgr hT
       cases gr
       ·have hzz : false = r := HT.out;have Hzz := Lib.hid hzz;clear hzz;go_wp2_with fail;go_ret;rw [<- Hzz.out];exact ⟨rfl, Hbnd.out⟩
       ·skip
        clear qn4 qg4;have hrg1 := HGR.out wr HbVq.out;have hf1 := Hfit.out wr HbVq.out x.a 0;rw [HA.out] at hf1;have q1n2 := HNX.out wr HbVq.out 2 _ rfl;have q1n4 := HNX.out wr HbVq.out 4 _ rfl;obtain ⟨Hrg1, Hf1⟩ := hd2 hrg1 hf1;clear hf1 hrg1;have q1g0 := HGC.out wr HbVq.out 0 _ rfl;have q1g1 := HGC.out wr HbVq.out 1 _ rfl;have q1g2 := HGC.out wr HbVq.out 2 _ rfl;have q1g3 := HGC.out wr HbVq.out 3 _ rfl;have q1g4 := HGC.out wr HbVq.out 4 _ rfl;have q1g5 := HGC.out wr HbVq.out 5 _ rfl;have q1g6 := HGC.out wr HbVq.out 6 _ rfl;have q1g7 := HGC.out wr HbVq.out 7 _ rfl;rw [Hgr.out] at q1g4
        have hag3 : (#[pv, kv, .int .i64 g.cells, iv, .bool true, .int .i64 g.keep, nv, .int .i64 g.entry] : Array Value) = CS := by rw [<- Hgr.out]; exact hag
        go_wp2_with fail;refine Hf1.out.mono ?_;rintro e9 u1 ⟨rfl, hbz1⟩;have hbv1 := HbVq.out.trans (hbz1.mono HbVq.out.size);have hbn1 := Hbnd.out.trans (hbz1.mono Hbnd.out.size);obtain ⟨Hbv1, Hbn1⟩ := hd2 hbv1 hbn1;clear hbn1 hbv1;clear hbz1 q1n2 q1n4 q1g0 q1g1 q1g2 q1g3 q1g4 q1g5 q1g6 q1g7
        cases A
        ·skip
         have hzz : false = r := HT.out;have Hzz := Lib.hid hzz;clear hzz;go_wp2_with fail;go_ret;rw [<- Hzz.out];exact ⟨rfl, Hbn1.out⟩
        ·skip
         have hzz : true = r := HT.out;have Hzz := Lib.hid hzz;clear hzz;go_wp2_with fail;go_ret;rw [<- Hzz.out];exact ⟨rfl, Hbn1.out⟩
     have e := HNO.out
     have x2 : (x.op == 2) = false := by rw [beq_eq_false_iff_ne]; omega
     have x3 : (x.op == 3) = false := by rw [beq_eq_false_iff_ne]; omega
     have x4 : (x.op == 4) = false := by rw [beq_eq_false_iff_ne]; omega
     have x5 : (x.op == 5) = false := by rw [beq_eq_false_iff_ne]; omega
     have x6 : (x.op == 6) = false := by rw [beq_eq_false_iff_ne]; omega
     have x11 : (x.op == 11) = false := by rw [beq_eq_false_iff_ne]; omega
     have x12 : (x.op == 12) = false := by rw [beq_eq_false_iff_ne]; omega
     have x13 : (x.op == 13) = false := by rw [beq_eq_false_iff_ne]; omega
     have x15 : (x.op == 15) = false := by rw [beq_eq_false_iff_ne]; omega
     have hzz : true = r := by
      rw [<- Hrt.out]; unfold tailB; rw [if_neg (by omega), if_neg (by omega), if_neg (by omega), if_neg (by omega), if_neg (by omega), if_neg (by omega), if_neg (by omega)]
     have Hzz := Lib.hid hzz;clear hzz;go_wp2_with fail;go_ret;rw [<- Hzz.out];exact ⟨rfl, Hbnd.out⟩
end Go.Proofs.Ytncpehhfjkncoaa
