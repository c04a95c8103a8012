/- Walk of the document's question whether all is well with a call's node. Conditions: the graphs, the node lie in memory. A graph's four slices, as slices. No condition. -/
import Derived.Test.YtncpehhfjkncoaaPlAA
import Derived.Test.YtncpehhfjkncoaaPlBN
import Derived.Test.YtncpehhfjkncoaaPlAB
set_option linter.unusedVariables false
set_option linter.unusedSimpArgs false
set_option maxRecDepth 100000
set_option maxHeartbeats 16000000
namespace Go.Proofs.Ytncpehhfjkncoaa
open Go.RowKit

theorem refnode_call (w : World) (B : Nat) (hB : B <= w.heap.size) (allv : Value) (gs : List GraphD) (hgs : GraphsAt w B allv gs) (g : GraphD) (pv kv iv nv : Value) (hkA : NumsAt .u8 w B kv g.kinds) (hnA : RowsAt 12 NodeAt w B nv g.nodes) (hkm : g.kinds.length <= 140737488351232) (bound : Bool)
  (hpar : ∀ f ∈ gs, ∀ p ∈ f.params, 0 <= p /\ p < f.kinds.length) (hgl : gs.length <= 16) (x : NodeD) (av : Value) (hav : NumsAt .i64 w B av x.args) (hal : x.args.length <= 140737488351232) (hpl : ∀ f ∈ gs, f.params.length <= 4) (hkl : ∀ f ∈ gs, f.kinds.length <= 1024) (hop11 : x.op = 11 ∨ x.op = 13) :
  Calls Try.prog 17 #[allv, .agg (gcells g pv kv iv nv).toArray, .bool bound, .agg (ncells x av).toArray] w fun e w' => e = .returned (.bool (nodeB gs g bound x)) /\ Below w.heap.size w w' := by
 obtain ⟨r, hr⟩ := mn (nodeB gs g bound x);rw [hr];unfold nodeB at hr;obtain ⟨NA, nn, nc, css, hnv, _, _, hnn, _⟩ := id hnA;obtain ⟨CS, hCS⟩ := nm ((gcells g pv kv iv nv).toArray);obtain ⟨NC, hNC⟩ := nm ((ncells x av).toArray);have hag : (gcells g pv kv iv nv).toArray = CS := hCS.symm;have han : (ncells x av).toArray = NC := hNC.symm;have hag2 : (#[pv, kv, .int .i64 g.cells, iv, .bool g.result, .int .i64 g.keep, nv, .int .i64 g.entry] : Array Value) = CS := hag;rw [hag, han];obtain ⟨G, hG⟩ := nm (w.heap.size);obtain ⟨D, hD⟩ := nm (w.heap.size + 1);have hBg := (Blk.new w 48 CS).alloc (.cells NC 52);have hBn := Blk.new2 w (.cells CS 48) 52 NC;have hb := ((Below.refl w.heap.size w).alloc (Nat.le_refl _) (.cells CS 48)).alloc (by simp) (.cells NC 52);rw [<- hG] at hBg;rw [<- hD] at hBn;obtain ⟨V, hV⟩ := nm ((w.alloc (.cells CS 48)).alloc (.cells NC 52));rw [<- hV] at hb hBg hBn;have hGl := hBg.lt;have hDl := hBn.lt;have hBV : B <= V.heap.size := Nat.le_trans hB hb.size
 have hop : NC[0]? = some (.int .u8 x.op) := by rw [hNC]; rfl
 have kop := hBn.cell 0;rw [hop] at kop;have hgs1 := hgs.below (hb.mono hB);have hkA1 := hkA.below (hb.mono hB);have hav1 := hav.below (hb.mono hB)
 have hgr : ∀ W, Below V.heap.size V W -> W.rangeAt G 0 (gcells g pv kv iv nv) := fun W h j v hv => by
  rw [(h.cell (p := ⟨G, 0 + j, none⟩) hGl), hBg.cell (0 + j), hCS, Nat.zero_add];exact (List.getElem?_toArray ..).trans hv
 have hnr : ∀ W, Below V.heap.size V W -> W.rangeAt D 0 (ncells x av) := fun W h j v hv => by
  rw [(h.cell (p := ⟨D, 0 + j, none⟩) hDl), hBn.cell (0 + j), hNC, Nat.zero_add];exact (List.getElem?_toArray ..).trans hv
 have hfit : ∀ W, Below V.heap.size V W -> ∀ p k, Calls Try.prog 34 #[.agg CS, .bool bound, .int .i64 p, .int .u8 k] W fun e w' => e = .returned (.bool (fitsB g bound k p)) /\ Below W.heap.size W w' := fun W h p k => by
  rw [<- hag];exact fits_any W g pv kv iv nv B (Nat.le_trans hBV h.size) (hkA1.below (h.mono hBV)) hkm bound p k
 have hgc : ∀ W, Below V.heap.size V W -> ∀ j v, (gcells g pv kv iv nv)[j]? = some v -> W.cell? ⟨G, j, none⟩ = some v := fun W h j v hv => by
  have := hgr W h j v hv
  rwa [Nat.zero_add] at this
 have hnc : ∀ W, Below V.heap.size V W -> ∀ j v, (ncells x av)[j]? = some v -> W.cell? ⟨D, j, none⟩ = some v := fun W h j v hv => by
  have := hnr W h j v hv
  rwa [Nat.zero_add] at this
 have hnx := refnext_any V x av;rw [han] at hnx;have hnr0 := hnr V (Below.refl _ _);obtain ⟨Hop11, Hr, Hnn, Hb, HBg, HBn, HV, HG⟩ := hd8 hop11 hr hnn hb hBg hBn hV hG;obtain ⟨HD, HCS, HNC, Hop, Hgs1, HkA1, Hav1, HGR⟩ := hd8 hD hCS hNC hop hgs1 hkA1 hav1 hgr;obtain ⟨HNR, Hfit, HGC, HNX, Hgs, HkA, Hav, HnA⟩ := hd8 hnr hfit hgc hnc hgs hkA hav hnA;obtain ⟨Hpar, Hpl, Hkl, Hnx, Hnr0⟩ := hd5 hpar hpl hkl hnx hnr0;clear hnr0 hnx hkl hpl hpar hnA hav hkA hgs hnc hgc hfit hnr hgr hav1 hkA1 hgs1 hop hNC hCS hD hG hV hBn hBg hb hnn hr hop11;go_enter Try.func17, Try.ntmps17;go_upto_region 1 with fail;rw [<- HV.out, <- HD.out, <- HG.out]
 by_cases o1 : x.op < 1
 ·have hs : false = r := by
   rw [<- Hr.out]
   have : opB gs g bound x = false := by
    unfold opB
    repeat (rw [if_neg (by omega)])
   rw [this, Bool.and_false]
  have Hs := Lib.hid hs;clear hs;go_wp2_with fail;go_ret;rw [<- Hs.out];exact ⟨rfl, Hb.out⟩
 by_cases o2 : 18 < x.op
 ·have hs : false = r := by
   rw [<- Hr.out]
   have : opB gs g bound x = false := by
    unfold opB
    repeat (rw [if_neg (by omega)])
   rw [this, Bool.and_false]
  have Hs := Lib.hid hs;clear hs;go_wp2_with fail;go_ret;rw [<- Hs.out];exact ⟨rfl, Hb.out⟩
 have hrr := Hr.out;rw [op_want gs g bound x (by omega) (by omega)] at hrr;have hwt := want_any;obtain ⟨Hrr, Hwt⟩ := hd2 hrr hwt;clear hwt hrr;go_wp2_with (refine wpList_load_mid rfl 52 _ rfl D 0 rfl (ncells x av) _ Hnr0.out Try.underlying52 rfl (by kernel_rfl) ?_);refine Hnx.out.mono ?_;rintro e w1 ⟨⟨v, rfl, hL⟩, hb1⟩;obtain ⟨LA, lc, rfl, _, hlc, hLr⟩ := hL;obtain ⟨L, hLe⟩ := mn (nextL x);obtain ⟨m, hm⟩ := mn (L.length);rw [hLe] at hLr ⊢;rw [hm] at hLr ⊢
 have hm2 : m <= 2 := by
  rw [<- hm, <- hLe];unfold nextL
  repeat' split
  all_goals simp
 have hrA := Hrr.out;rw [hLe] at hrA;have hbw1 := Hb.out.trans (hb1.mono Hb.out.size);have g6 := HGC.out w1 hb1 6 _ rfl;rw [hnv] at g6;obtain ⟨Hbw1, HLr, HLe, Hm, HrA, Hb1, Hnv⟩ := hd7 hbw1 hLr hLe hm hrA hb1 hnv;clear hnv hb1 hrA hm hLe hLr hbw1;clear kop;go_wp2_with fail
 go_loopw [29] (fun i wq => ∃ j : Nat, j <= m /\ i = .int .i64 j /\ wq = w1 /\ Hid (∀ t ∈ L.take j, (decide (0 <= t) && decide (t < g.nodes.length)) = true)) (fun i _ => m - (intOf i).toNat)
 case atStart => exact ⟨0, by omega, rfl, rfl, (show ∀ t ∈ L.take 0, (decide (0 <= t) && decide (t < g.nodes.length)) = true from fun t ht => by simp at ht)⟩
 case round =>
  obtain ⟨j, hj, rfl, hwr, hall⟩ := hrel;subst hwr
  by_cases hjm : j < m
  ·obtain ⟨ad, u0, hAd, _, hu0, hce⟩ := HLr.out.at_ hjm;subst hAd
   obtain ⟨p, hpj, rfl⟩ : ∃ p, L[j]? = some p /\ u0 = .int .i64 p := by
    rw [List.getElem?_map, Option.map_eq_some_iff] at hu0;obtain ⟨x, h1, h2⟩ := hu0;exact ⟨x, h1, h2.symm⟩
   have hmem := List.mem_of_getElem? hpj
   have hjI : (j : Int) < m := by omega
   have hbad : (decide (0 <= p) && decide (p < g.nodes.length)) = false -> r = false := fun hf => by
    rw [<- HrA.out]
    rcases hq : L.all (fun t => decide (0 <= t) && decide (t < g.nodes.length)) with _ | _
    ·rfl
    ·rw [List.all_eq_true.1 hq p hmem] at hf; cases hf
   clear hu0
   by_cases c0 : 0 <= p
   ·by_cases c1 : p < nn
    ·have hs : ∀ t ∈ L.take (j + 1), (decide (0 <= t) && decide (t < g.nodes.length)) = true := fun t ht => by
      rw [List.take_add_one, hpj] at ht
      rcases List.mem_append.1 ht with ht | ht
      ·exact hall.out t ht
      ·simp at ht; rw [ht, Hnn.out]; simp [c0, c1]
     have c0' : ¬ p < 0 := by omega
     have c1' : ¬ (nn : Int) <= p := by omega
     obtain ⟨Hs, Hall, Hpj, Hmem, Hbad⟩ := hd5 hs hall hpj hmem hbad;clear hbad hmem hpj hall hs;clear c0 c1;go_wp2_with fail;exact ⟨⟨j + 1, by omega, by go_num, trivial, Lib.hid Hs.out⟩, by simp [intOf]; omega⟩
    ·have hs := hbad (by rw [Hnn.out]; simp [c1])
     have c0' : ¬ p < 0 := by omega
     have c1' : (nn : Int) <= p := by omega
     obtain ⟨Hs, Hall, Hpj, Hmem, Hbad⟩ := hd5 hs hall hpj hmem hbad;clear hbad hmem hpj hall hs;clear c0 c1;go_wp2_with fail;go_ret;rw [Hs.out];exact ⟨rfl, Hbw1.out⟩
   ·have hs := hbad (by simp [c0])
    have c0' : p < 0 := by omega
    obtain ⟨Hs, Hall, Hpj, Hmem, Hbad⟩ := hd5 hs hall hpj hmem hbad;clear hbad hmem hpj hall hs;clear c0;go_wp2_with fail;go_ret;rw [Hs.out];exact ⟨rfl, Hbw1.out⟩
  ·have hrB : (wantB g bound x && tailB gs g bound x) = r := by
    have h1 := HrA.out;rw [List.take_of_length_le (by rw [Hm.out]; omega)] at hall;rw [List.all_eq_true.2 hall.out, Bool.true_and] at h1;exact h1
   have hjI : ¬ (j : Int) < m := by omega
   have kop := HNX.out wr Hb1.out 0 _ rfl;have hwt := Hwt.out wr x.op (by omega) (by omega);obtain ⟨Hall, HrB, HWT⟩ := hd3 hall hrB hwt;clear hwt hrB hall;clear g6;go_wp2_with fail;refine HWT.out.mono ?_;rintro e w2 ⟨rfl, hb2⟩;have hbV2 := Hb1.out.trans (hb2.mono Hb1.out.size);have k2 := HNX.out w2 hbV2 2 _ rfl;have k3 := HNX.out w2 hbV2 3 _ rfl;have k4 := HNX.out w2 hbV2 4 _ rfl;have k5 := HNX.out w2 hbV2 5 _ rfl;clear kop hb2;obtain ⟨P0, hP0⟩ := mn ([x.d, x.e, x.a, x.b]);obtain ⟨S, hS⟩ := mn (wantA x.op);rw [hS]
   have hSs : (ByteArray.mk S).size = 4 := by rw [<- hS]; exact wantA_size x.op
   have hpl4 : Reads (w2.alloc (.cells #[.int .i64 x.d, .int .i64 x.e, .int .i64 x.a, .int .i64 x.b] 3)) (w2.heap.size + 1) 1 (some ⟨w2.heap.size, 0, none⟩) 4 (P0.map (Value.int .i64)) := by rw [<- hP0]; exact Reads.newL' w2 3 [x.d, x.e, x.a, x.b] rfl rfl rfl
   obtain ⟨W0, hW0⟩ := nm (w2.alloc (.cells #[.int .i64 x.d, .int .i64 x.e, .int .i64 x.a, .int .i64 x.b] 3));obtain ⟨Q, hQ⟩ := nm (w2.heap.size)
   have hbV0 : Below V.heap.size V W0 := by rw [hW0]; exact hbV2.alloc hbV2.size _
   have hQ0 : W0.heap.size = Q + 1 := by rw [hW0, World.size_alloc, hQ]
   rw [<- hW0, <- hQ, <- hQ0] at hpl4;obtain ⟨pl, hpl⟩ := nm (Value.slice (some ⟨Q, 0, none⟩) 4 4);obtain ⟨HS, Hpl4, HbV0, HP0, HSs, HW0, HQ, HQ0⟩ := hd8 hS hpl4 hbV0 hP0 hSs hW0 hQ hQ0;obtain ⟨HbV2, HPLL⟩ := hd2 hbV2 hpl;clear hpl hbV2 hQ0 hQ hW0 hSs hP0 hbV0 hpl4 hS;go_upto_region 11 with fail;rw [<- HW0.out, <- HQ.out];go_wp2_with fail;clear k2 k3 k4 k5
   go_loopw [57] (fun i wq => ∃ j : Nat, j <= 4 /\ i = .int .i64 j /\ Below W0.heap.size W0 wq /\ Hid (∀ k, k < j -> chk g bound ((wantA x.op).getD k 0).toNat ([x.d, x.e, x.a, x.b].getD k 0) = true)) (fun i _ => 4 - (intOf i).toNat)
   case atStart => exact ⟨0, by omega, rfl, Below.refl _ _, (show ∀ k, k < 0 -> chk g bound ((wantA x.op).getD k 0).toNat ([x.d, x.e, x.a, x.b].getD k 0) = true by omega)⟩
   case round =>
    obtain ⟨jj, hjj, rfl, hbq, hall2⟩ := hrel;have hsq := hbq.size;have hbVq := HbV0.out.trans (hbq.mono HbV0.out.size);have hbnd := Hb.out.trans (hbVq.mono Hb.out.size)
    by_cases hj4 : jj < 4
    ·obtain ⟨ad, u0, hAd, _, hu0, hce⟩ := (Hpl4.out.below hbq).at_ hj4;injection hAd with hAd;subst hAd
     obtain ⟨p, hpj, rfl⟩ : ∃ p, P0[jj]? = some p /\ u0 = .int .i64 p := by
      rw [List.getElem?_map, Option.map_eq_some_iff] at hu0;obtain ⟨x, h1, h2⟩ := hu0;exact ⟨x, h1, h2.symm⟩
     have hj4I : (jj : Int) < 4 := by omega
     have hjS : jj < (ByteArray.mk S).size := by rw [HSs.out]; exact hj4
     have hpg : [x.d, x.e, x.a, x.b].getD jj 0 = p := by rw [HP0.out, List.getD_eq_getElem?_getD, hpj]; rfl
     rw [addr_zero] at hce;obtain ⟨c, hc⟩ := mn (((ByteArray.mk S)[jj].toNat : Int) : Int)
     have hcg : (((wantA x.op).getD jj 0).toNat : Int) = c := by
      rw [<- hc, HS.out];have hjS' : jj < S.size := hjS;simp [Array.getD_eq_getD_getElem?, hjS']
      rfl
     obtain ⟨Hpg, Hcg, Hpj⟩ := hd3 hpg hcg hpj;clear hpj hcg hpg;clear hu0;go_upto_region 15 with fail
     by_cases c1 : c = 110
     ·have c1' : (c == 110) = true := by simp [c1]
      have hft := Hfit.out wr hbVq p 0;obtain ⟨bf, hbf⟩ := mn (fitsB g bound 0 p);rw [hbf] at hft;have hrange := HGR.out wr hbVq
      have hck : chk g bound ((wantA x.op).getD jj 0).toNat ([x.d, x.e, x.a, x.b].getD jj 0) = bf := by
       rw [Hpg.out];have h1 := Hcg.out;rw [c1] at h1
       have h2 : ((wantA x.op).getD jj 0).toNat = 110 := by omega
       rw [h2];exact hbf
      obtain ⟨Hft, Hbf, Hrange, Hck, Hc1, Hall2, Hbq, HbVq⟩ := hd8 hft hbf hrange hck c1 hall2 hbq hbVq;have Hbnd := Lib.hid hbnd;clear hbnd hbVq hbq hall2 c1 hck hrange hbf hft;go_wp2_with (refine wpList_load_mid rfl 48 _ rfl G 0 rfl (gcells g pv kv iv nv) _ Hrange.out Try.underlying48 rfl (by kernel_rfl) ?_);refine Hft.out.mono ?_;rintro e w8 ⟨rfl, hb8⟩;have hbe := Hbq.out.trans (hb8.mono Hbq.out.size);have hbe2 := Hbnd.out.trans (hb8.mono Hbnd.out.size);clear hb8
      cases bf
      ·have hs : r = false := by
        rw [<- HrB.out]
        have : wantB g bound x = false := by
         unfold wantB
         rcases hq : (List.range 4).all _ with _ | _
         ·rfl
         ·rw [List.all_eq_true.1 hq jj (List.mem_range.2 hj4)] at Hck; exact absurd Hck.out (by simp)
        rw [this, Bool.false_and]
       obtain ⟨Hs, Hbe, Hbe2⟩ := hd3 hs hbe hbe2;clear hbe2 hbe hs;go_wp2_with fail;go_ret;rw [Hs.out];exact ⟨rfl, Hbe2.out⟩
      ·have hs : ∀ k, k < jj + 1 -> chk g bound ((wantA x.op).getD k 0).toNat ([x.d, x.e, x.a, x.b].getD k 0) = true := fun k hk => by
        by_cases e : k = jj
        ·rw [e]; exact Hck.out
        ·exact Hall2.out k (by omega)
       obtain ⟨Hs, Hbe, Hbe2⟩ := hd3 hs hbe hbe2;clear hbe2 hbe hs;go_wp2_with fail;exact ⟨⟨jj + 1, by omega, by go_num, Hbe.out, Lib.hid Hs.out⟩, by simp [intOf]; omega⟩
     have c1' : (c == 110) = false := by simp [c1]
     by_cases c2 : c = 112
     ·have c2' : (c == 112) = true := by simp [c2]
      have hft := Hfit.out wr hbVq p 1;obtain ⟨bf, hbf⟩ := mn (fitsB g bound 1 p);rw [hbf] at hft;have hrange := HGR.out wr hbVq
      have hck : chk g bound ((wantA x.op).getD jj 0).toNat ([x.d, x.e, x.a, x.b].getD jj 0) = bf := by
       rw [Hpg.out];have h1 := Hcg.out;rw [c2] at h1
       have h2 : ((wantA x.op).getD jj 0).toNat = 112 := by omega
       rw [h2];exact hbf
      obtain ⟨Hc1, Hft, Hbf, Hrange, Hck, Hc2, Hall2, Hbq⟩ := hd8 c1 hft hbf hrange hck c2 hall2 hbq;obtain ⟨HbVq, Hbnd⟩ := hd2 hbVq hbnd;clear hbnd hbVq hbq hall2 c2 hck hrange hbf hft c1;go_wp2_with (refine wpList_load_mid rfl 48 _ rfl G 0 rfl (gcells g pv kv iv nv) _ Hrange.out Try.underlying48 rfl (by kernel_rfl) ?_);refine Hft.out.mono ?_;rintro e w8 ⟨rfl, hb8⟩;have hbe := Hbq.out.trans (hb8.mono Hbq.out.size);have hbe2 := Hbnd.out.trans (hb8.mono Hbnd.out.size);clear hb8
      cases bf
      ·have hs : r = false := by
        rw [<- HrB.out]
        have : wantB g bound x = false := by
         unfold wantB
         rcases hq : (List.range 4).all _ with _ | _
         ·rfl
         ·rw [List.all_eq_true.1 hq jj (List.mem_range.2 hj4)] at Hck; exact absurd Hck.out (by simp)
        rw [this, Bool.false_and]
       obtain ⟨Hs, Hbe, Hbe2⟩ := hd3 hs hbe hbe2;clear hbe2 hbe hs;go_wp2_with fail;go_ret;rw [Hs.out];exact ⟨rfl, Hbe2.out⟩
      ·have hs : ∀ k, k < jj + 1 -> chk g bound ((wantA x.op).getD k 0).toNat ([x.d, x.e, x.a, x.b].getD k 0) = true := fun k hk => by
        by_cases e : k = jj
        ·rw [e]; exact Hck.out
        ·exact Hall2.out k (by omega)
       obtain ⟨Hs, Hbe, Hbe2⟩ := hd3 hs hbe hbe2;clear hbe2 hbe hs;go_wp2_with fail;exact ⟨⟨jj + 1, by omega, by go_num, Hbe.out, Lib.hid Hs.out⟩, by simp [intOf]; omega⟩
     ·have c2' : (c == 112) = false := by simp [c2]
      have hck : chk g bound ((wantA x.op).getD jj 0).toNat ([x.d, x.e, x.a, x.b].getD jj 0) = true := by
       have h1 := Hcg.out;unfold chk;rw [if_neg (by omega), if_neg (by omega)]
      have hs : ∀ k, k < jj + 1 -> chk g bound ((wantA x.op).getD k 0).toNat ([x.d, x.e, x.a, x.b].getD k 0) = true := fun k hk => by
       by_cases e : k = jj
       ·rw [e]; exact hck
       ·exact hall2.out k (by omega)
      obtain ⟨Hs, Hck, Hall2, Hbq, HbVq, Hbnd, Hc1, Hc2⟩ := hd8 hs hck hall2 hbq hbVq hbnd c1 c2;clear c2 c1 hbnd hbVq hbq hall2 hck hs;go_wp2_with fail;exact ⟨⟨jj + 1, by omega, by go_num, Hbq.out, Lib.hid Hs.out⟩, by simp [intOf]; omega⟩
    ·have hj4I : ¬ (jj : Int) < 4 := by omega
     have hrt : tailB gs g bound x = r := by
      have h1 := HrB.out
      have : wantB g bound x = true := List.all_eq_true.2 fun k hk => hall2.out k (by have := List.mem_range.1 hk; omega)
      rw [this, Bool.true_and] at h1;exact h1
     have kop := HNX.out wr hbVq 0 _ rfl;obtain ⟨Hrt, Hall2, Hbq, HbVq, Hbnd⟩ := hd5 hrt hall2 hbq hbVq hbnd;clear hbnd hbVq hbq hall2 hrt;have hop11 := Hop11.out
     have x2 : (x.op == 2) = false := by rw [beq_eq_false_iff_ne]; omega
     have x3 : (x.op == 3) = false := by rw [beq_eq_false_iff_ne]; omega
     have x4 : (x.op == 4) = false := by rw [beq_eq_false_iff_ne]; omega
     have x5 : (x.op == 5) = false := by rw [beq_eq_false_iff_ne]; omega
     have x6 : (x.op == 6) = false := by rw [beq_eq_false_iff_ne]; omega
     have x12 : (x.op == 12) = false := by rw [beq_eq_false_iff_ne]; omega
     have x15 : (x.op == 15) = false := by rw [beq_eq_false_iff_ne]; omega
     obtain ⟨b11, hb11⟩ := mn ((x.op == 11))
     have hT : (argsB gs g bound x && (!b11 || (decide (x.d = -1) || ((match gs[x.f.toNat]? with | none => false | some f => f.result) && fitsB g bound 0 x.d && (!bound || decide (x.d = 0)))))) = r := by
      have h1 := Hrt.out;unfold tailB at h1;rw [if_neg (by omega), if_neg (by omega), if_neg (by omega), if_neg (by omega), if_neg (by omega)] at h1;rw [<- hb11]
      rcases hop11 with e | e
      ·rw [if_neg (by omega), if_pos e] at h1;rw [show (x.op == 11) = true by simp [e], Bool.not_true, Bool.false_or]
       revert h1
       cases gs[x.f.toNat]? <;> exact id
      ·rw [if_pos e] at h1
       simpa [e] using h1
     have hbb : (b11 = true /\ (x.op == 11) = true) ∨ (b11 = false /\ (x.op == 11) = false /\ (x.op == 13) = true) := by
      rcases hop11 with e | e
      ·exact .inl ⟨by rw [<- hb11]; simp [e], by simp [e]⟩
      ·exact .inr ⟨by rw [<- hb11]; simp [e], by simp [e], by simp [e]⟩
     have hargs : x.args.length <= 140737488351232 := hal;obtain ⟨AA, ac, have1, _, _, hAr⟩ := Hav1.out.slice;have qn9 := HNX.out wr HbVq.out 9 _ rfl;have qn6 := HNX.out wr HbVq.out 6 _ rfl;rw [have1] at qn9;obtain ⟨mA, hmA⟩ := mn (x.args.length);obtain ⟨F0, hF0⟩ := mn (x.f);rw [hmA] at qn9 hAr hargs;rw [hF0] at qn6 hT;obtain ⟨GA, gc, hgsl, _, _⟩ := Hgs1.out.slice;subst hgsl;obtain ⟨Z, hZ⟩ := mn (gs.length);rw [hZ] at hgl;obtain ⟨AB, hAB⟩ := mn (argsB gs g bound x);have hABu := hAB;unfold argsB at hABu;rw [hmA, hF0] at hABu;rw [hAB] at hT;obtain ⟨HOP, Hb11, HT, HAV1, HmA, HF0, HZ, HAr⟩ := hd8 hop11 hb11 hT have1 hmA hF0 hZ hAr;have HAB := Lib.hid hAB;clear hAB hAr hZ hF0 hmA have1 hT hb11 hop11;rw [HZ.out]
     rcases hbb with ⟨rfl, y11⟩ | ⟨rfl, y11, y13⟩
     all_goals
      go_upto_region 39 with fail
      by_cases f0 : 0 <= F0
      case neg =>
       have hf : F0 < 0 := by omega
       have hs : false = r := by rw [<- HT.out, <- hABu]; simp [f0]
       obtain ⟨Hs, HABu⟩ := hd2 hs hABu;clear hABu hs
       go_quiet (fail)
       go_wp2_with fail;go_ret;rw [<- Hs.out];exact ⟨rfl, below_drewN Hbnd.out _⟩
      obtain ⟨F, rfl⟩ := Int.eq_ofNat_of_zero_le f0
      have f0' : ¬ (F : Int) < 0 := by omega
      by_cases f1 : F < Z
      case neg =>
       have hf : (Z : Int) <= F := by omega
       have hs : false = r := by rw [<- HT.out, <- hABu, Int.toNat_natCast, List.getElem?_eq_none (by rw [HZ.out]; omega)]; simp
       obtain ⟨Hs, HABu⟩ := hd2 hs hABu;clear hABu hs;clear f0 f1
       go_quiet (fail)
       go_wp2_with fail;go_ret;rw [<- Hs.out];exact ⟨rfl, below_drewN Hbnd.out _⟩
      obtain ⟨ff, hff⟩ : ∃ ff, gs[F]? = some ff := ⟨_, List.getElem?_eq_getElem (by rw [HZ.out]; omega)⟩
      have hfm := List.mem_of_getElem? hff;rw [Int.toNat_natCast, hff] at hABu;simp only [f0, decide_true, Bool.true_and] at hABu;have hT2 := HT.out;rw [Int.toNat_natCast, hff] at hT2;simp only at hT2
      have hf1 : ¬ (Z : Int) <= F := by omega
      have hf2 : (F : Int) < Z := by omega
      have hpl' := Hpl.out ff hfm;have hkl' := Hkl.out ff hfm;have hpar' := Hpar.out ff hfm;obtain ⟨fad, pv2, kv2, iv2, nv2, hGA, _, hG2⟩ := ((Hgs1.out.below (HbVq.out.mono hBV))).at_ hff;subst hGA;obtain ⟨PA, pc, hpv2, _, _, hPR⟩ := hG2.params.slice;obtain ⟨PK, kc, hkv2, _, _, hKR⟩ := hG2.kinds.slice;obtain ⟨M, hM⟩ := mn (ff.params.length);obtain ⟨KL, hKL⟩ := mn (ff.kinds.length);obtain ⟨IA2, ic2, hiv2, _, _, _⟩ := hG2.init.slice;obtain ⟨il2, hil2⟩ := mn (ff.init.length);rw [hil2] at hiv2;obtain ⟨NA2, nl2, nc2, _, hnv2, _⟩ := hG2.nodes;have Hil2 := Lib.hid hil2;clear hil2;subst hpv2 hkv2 hiv2 hnv2;rw [hM] at hPR hpl' hG2 hABu;rw [hKL] at hKR hkl' hpar' hG2;have m0 := hG2.c0;have m1 := hG2.c1;have m2 := hG2.c2;have m3 := hG2.c3;have m4 := hG2.c4;have m5 := hG2.c5;have m6 := hG2.c6;have m7 := hG2.c7;obtain ⟨HT2, Hff, Hfm, Hpar', HG2, HPR, HKR, HM⟩ := hd8 hT2 hff hfm hpar' hG2 hPR hKR hM;have HKL := Lib.hid hKL;clear hKL hM hKR hPR hG2 hpar' hfm hff hT2;clear f0 f1
      by_cases hmM : mA = M
      case neg =>
       have hn : ((mA : Int) != M) = true := by simp; omega
       have hs : false = r := by rw [<- HT2.out, <- hABu]; simp [hmM]
       obtain ⟨Hs, HmM, HABu⟩ := hd3 hs hmM hABu;clear hABu hmM hs
       go_quiet (fail)
       go_wp2_with fail;go_ret;rw [<- Hs.out];exact ⟨rfl, below_drewN Hbnd.out _⟩
      subst hmM;simp only [decide_true, Bool.true_and] at hABu;have HABu := Lib.hid hABu;clear hABu
      go_quiet (fail)
      obtain ⟨q1, hq1⟩ := nm (nq);subst hq1;have hbVr := HbVq.out.trans ((below_drewN (Below.refl wr.heap.size wr) q1).mono HbVq.out.size);have hbnr := below_drewN Hbnd.out q1;have m0' : (wr.drewN q1).cell? (fad.add (F * 8)) = some (.slice PA mA pc) := m0;have m1' : (wr.drewN q1).cell? ⟨(fad.add (F * 8)).block, (fad.add (F * 8)).off + 1, none⟩ = some (.slice PK KL kc) := m1;have m2' : (wr.drewN q1).cell? ⟨(fad.add (F * 8)).block, (fad.add (F * 8)).off + 2, none⟩ = some (.int .i64 ff.cells) := m2;have m3' : (wr.drewN q1).cell? ⟨(fad.add (F * 8)).block, (fad.add (F * 8)).off + 3, none⟩ = some (.slice IA2 il2 ic2) := m3;have m4' : (wr.drewN q1).cell? ⟨(fad.add (F * 8)).block, (fad.add (F * 8)).off + 4, none⟩ = some (.bool ff.result) := m4;have m5' : (wr.drewN q1).cell? ⟨(fad.add (F * 8)).block, (fad.add (F * 8)).off + 5, none⟩ = some (.int .i64 ff.keep) := m5;have m6' : (wr.drewN q1).cell? ⟨(fad.add (F * 8)).block, (fad.add (F * 8)).off + 6, none⟩ = some (.slice NA2 nl2 nc2) := m6;have m7' : (wr.drewN q1).cell? ⟨(fad.add (F * 8)).block, (fad.add (F * 8)).off + 7, none⟩ = some (.int .i64 ff.entry) := m7;have qn6' : (wr.drewN q1).cell? ⟨D, 6, none⟩ = some (.int .i64 F) := qn6;have hPRr := HPR.out.below ((below_drewN (Below.refl wr.heap.size wr) q1).mono (Nat.le_trans hBV HbVq.out.size));have hKRr := HKR.out.below ((below_drewN (Below.refl wr.heap.size wr) q1).mono (Nat.le_trans hBV HbVq.out.size));obtain ⟨W1, hW1⟩ := nm (wr.drewN q1);rw [<- hW1] at hbVr hbnr m0' m1' m2' m3' m4' m5' m6' m7' qn6' hPRr hKRr ⊢;obtain ⟨HbVr, Hbnr, HPRr, HKRr, HW1⟩ := hd5 hbVr hbnr hPRr hKRr hW1;clear hW1 hKRr hPRr hbnr hbVr;clear m0 m1 m2 m3 m4 m5 m6 m7 qn6 qn9;have hbq2 := (Below.refl W1.heap.size W1).alloc (Nat.le_refl _) (.cells #[.slice PA mA pc, .slice PK KL kc, .int .i64 ff.cells, (.slice IA2 il2 ic2), .bool ff.result, .int .i64 ff.keep, (.slice NA2 nl2 nc2), .int .i64 ff.entry] 48);have hT3 := Blk.new W1 48 #[.slice PA mA pc, .slice PK KL kc, .int .i64 ff.cells, (.slice IA2 il2 ic2), .bool ff.result, .int .i64 ff.keep, (.slice NA2 nl2 nc2), .int .i64 ff.entry];obtain ⟨T, hT⟩ := nm (W1.heap.size);rw [<- hT] at hT3;obtain ⟨W2, hW2⟩ := nm (W1.alloc (.cells #[.slice PA mA pc, .slice PK KL kc, .int .i64 ff.cells, (.slice IA2 il2 ic2), .bool ff.result, .int .i64 ff.keep, (.slice NA2 nl2 nc2), .int .i64 ff.entry] 48));rw [<- hW2] at hbq2 hT3;have hbV2 := HbVr.out.trans (hbq2.mono HbVr.out.size);have hbn2 := Hbnr.out.trans (hbq2.mono Hbnr.out.size);have hPR2 := HPRr.out.below (hbq2.mono (Nat.le_trans hBV HbVr.out.size));have hKR2 := HKRr.out.below (hbq2.mono (Nat.le_trans hBV HbVr.out.size));have hAr2 := HAr.out.below (hbV2.mono hBV);have hTl := hT3.lt;obtain ⟨Hbq2, HT3, HTT, HW2, HbV2, Hbn2, HPR2, HKR2⟩ := hd8 hbq2 hT3 hT hW2 hbV2 hbn2 hPR2 hKR2;have HAr2 := Lib.hid hAr2;clear hAr2 hKR2 hPR2 hbn2 hbV2 hW2 hT hT3 hbq2;go_upto_region 42 with fail;rw [<- HW2.out, <- HTT.out];clear m0' m1' m2' m3' m4' m5' m6' m7' qn6';have qn9 := HNX.out W2 HbV2.out 9 _ rfl;rw [HAV1.out, HmA.out] at qn9;go_wp2_with fail;clear qn9;have hB2 : B <= W2.heap.size := Nat.le_trans hBV HbV2.out.size
      go_loopw [192] (fun i wq => ∃ j : Nat, j <= mA /\ i = .int .i64 j /\ Below W2.heap.size W2 wq /\ Hid (∀ k, k < j -> argB g ff bound k (x.args.getD k 0) = true)) (fun i _ => mA - (intOf i).toNat)
      case atStart => exact ⟨0, by omega, rfl, Below.refl _ _, (show ∀ k, k < 0 -> argB g ff bound k (x.args.getD k 0) = true by omega)⟩
      case round =>
       obtain ⟨ja, hja, rfl, hbqa, halla⟩ := hrel;have hsa := hbqa.size;have hbVa := HbV2.out.trans (hbqa.mono HbV2.out.size);have hbna := Hbn2.out.trans (hbqa.mono Hbn2.out.size);have hTa := HT3.out.below hbqa hTl
       by_cases hjM : ja < mA
       ·obtain ⟨aad, u0, hAA, _, hu0, hce⟩ := (HAr2.out.below (hbqa.mono hB2)).at_ hjM;subst hAA
        obtain ⟨p, hpj, rfl⟩ : ∃ p, x.args[ja]? = some p /\ u0 = .int .i64 p := by
         rw [List.getElem?_map, Option.map_eq_some_iff] at hu0;obtain ⟨x, h1, h2⟩ := hu0;exact ⟨x, h1, h2.symm⟩
        have hpg : x.args.getD ja 0 = p := by rw [List.getD_eq_getElem?_getD, hpj]; rfl
        obtain ⟨pad, pu, hPA, _, hpu, hpce⟩ := (HPR2.out.below (hbqa.mono hB2)).at_ hjM;subst hPA
        obtain ⟨pp, hpp, rfl⟩ : ∃ pp, ff.params[ja]? = some pp /\ pu = .int .i64 pp := by
         rw [List.getElem?_map, Option.map_eq_some_iff] at hpu;obtain ⟨x, h1, h2⟩ := hpu;exact ⟨x, h1, h2.symm⟩
        obtain ⟨pp0, pp1⟩ := Hpar'.out pp (List.mem_of_getElem? hpp);obtain ⟨PP, rfl⟩ := Int.eq_ofNat_of_zero_le pp0
        have hPK : PP < KL := by omega
        obtain ⟨kad, ku, hKA, _, hku, hkce⟩ := (HKR2.out.below (hbqa.mono hB2)).at_ hPK;subst hKA
        obtain ⟨kk, hkk, rfl⟩ : ∃ kk, ff.kinds[PP]? = some kk /\ ku = .int .u8 kk := by
         rw [List.getElem?_map, Option.map_eq_some_iff] at hku;obtain ⟨x, h1, h2⟩ := hku;exact ⟨x, h1, h2.symm⟩
        have hkg : ff.kinds.getD (ff.params.getD ja 0).toNat 0 = kk := by
         rw [List.getD_eq_getElem?_getD (l := ff.params), hpp, Option.getD_some, Int.toNat_natCast, List.getD_eq_getElem?_getD, hkk]
         rfl
        have kt0 := bc hTa 0;have kt1 := bc hTa 1
        have hbig : false = r ∨ argB g ff bound ja p = true := by
         rcases hh : argB g ff bound ja p with _ | _
         ·left
          rw [<- HT2.out, <- HABu.out]
          rcases hq : (List.range mA).all (fun i => argB g ff bound i (x.args.getD i 0)) with _ | _
          ·rfl
          ·have := List.all_eq_true.1 hq ja (List.mem_range.2 hjM);rw [hpg, hh] at this; cases this
         ·exact .inr rfl
        have hstep : argB g ff bound ja p = true -> ∀ k, k < ja + 1 -> argB g ff bound k (x.args.getD k 0) = true := fun hf k hk => by
         by_cases hkj : k = ja
         ·rw [hkj, hpg]; exact hf
         ·exact halla.out k (by omega)
        have hjI : (ja : Int) < mA := by omega
        have hPKI : (PP : Int) < KL := by omega
        have lG : G < wr.heap.size := Nat.lt_of_lt_of_le hGl hbVa.size;have lT : T < wr.heap.size := hTa.lt
        have lp : (pad.add ja).block < wr.heap.size := by
         obtain ⟨ad, e1, e2, _⟩ := (HPR2.out).2 (by omega);injection e1 with e1;subst e1;rw [block_add]; omega
        have lk : (kad.add PP).block < wr.heap.size := by
         obtain ⟨ad, e1, e2, _⟩ := (HKR2.out).2 (by omega);injection e1 with e1;subst e1;rw [block_add]; omega
        have hrg := HGR.out wr.drew hbVa.drew;clear hu0 hpu hku;go_upto_region 45 with fail;obtain ⟨Hbqa, HTa, Hpj, Hpg, Hpp, Hkk, Hkg, Hbna⟩ := hd8 hbqa hTa hpj hpg hpp hkk hkg hbna;have Hrg := Lib.hid hrg;clear hrg hbna hkg hkk hpp hpg hpj hTa hbqa;refine wp_region_noPanic ?_;refine wp_region_held_drew (S := fun W => W.rangeAt G 0 (gcells g pv kv iv nv) /\ W.cell? ⟨T, 0, none⟩ = some (.slice (some pad) mA pc) /\ W.cell? ⟨T, 1, none⟩ = some (.slice (some kad) KL kc) /\ W.cell? (pad.add ja) = some (.int .i64 PP) /\ W.cell? (kad.add PP) = some (.int .u8 kk)) (by kernel_rfl) ⟨Hrg.out, kt0, kt1, hpce, hkce⟩ (fun hHeld => ?_)
        cases bound
        ·obtain ⟨bb, hbb⟩ := mn (fitsB g false kk p)
         have harg : argB g ff false ja p = bb := by
          rw [<- hbb];unfold argB;rw [if_neg (by decide), Hkg.out]
         have hft := Hfit.out wr.drew hbVa.drew p kk;rw [hbb] at hft;rw [harg] at hbig hstep;obtain ⟨Hbb, Harg, Hft, Hbig, Hstep, Halla⟩ := hd6 hbb harg hft hbig hstep halla;clear halla hstep hbig hft harg hbb;refine wpAnyH_tk 0 ?_;refine wpAnyH_tk 1 ?_;refine wpAnyH_sk 2 ?_;refine wpAnyH_sk 3 ?_;refine wpAnyH_sk 4 ?_;refine wpAnyH_tk 5 ?_;refine wpAnyH_tk 6 ?_;refine wpAnyH_tk 7 ?_;refine wpAnyH_tk 8 ?_;refine wpAnyH_tk 9 ?_;refine wpAnyH_take (i := 10) rfl (by kernel_rfl) (by kernel_rfl) (by kernel_rfl) (fun _ _ _ h => h) (yieldsIf_load_mid (by rfl) 48 _ rfl G 0 rfl (gcells g pv kv iv nv) _ (fun w h => h.1) Try.underlying48 rfl (by kernel_rfl)) (by assumption) ?_;refine lay ?_;refine wpAnyH_tk 11 ?_;refine wpAnyH_tk 12 ?_;refine wpAnyH_tk 13 ?_;refine wpAnyH_tk 14 ?_;refine wpAnyH_tk 15 ?_;refine wpAnyH_tk 16 ?_;refine wpAnyH_tk 17 ?_;refine wpAnyH_tk 18 ?_;refine wpAnyH_tk 19 ?_;refine wpAnyH_tk 20 ?_;refine wpAnyH_rd 21 (fun K hK => ?_);go_simp;refine Hft.out.mono ?_;rintro e w9 ⟨rfl, hb9⟩;have hb9' : Below wr.heap.size wr w9 := (Below.refl wr.heap.size wr).drew.trans hb9;have hr9 := HGR.out w9 (hbVa.trans (hb9'.mono hbVa.size));refine hK.out _ _ ⟨hr9, (hb9.cell (p := ⟨T, 0, none⟩) lT).trans kt0, (hb9.cell (p := ⟨T, 1, none⟩) lT).trans kt1, (hb9.cell (p := pad.add ja) lp).trans hpce, (hb9.cell (p := kad.add PP) lk).trans hkce⟩ (fun hHeld2 => ?_);have hbe := Hbqa.out.trans (hb9'.mono Hbqa.out.size);have hbe2 := Hbna.out.trans (hb9'.mono Hbna.out.size);obtain ⟨Hbe, Hbe2, Hr9⟩ := hd3 hbe hbe2 hr9;clear hr9 hbe2 hbe;clear hK K hHeld hb9 hb9';refine lay ?_;refine wpAnyH_tk 22 ?_;refine wpAnyH_tk 23 ?_;refine wpAnyH_tk 24 ?_;refine wpAnyH_done (by kernel_rfl) ?_ _;refine NoPanic.normal ?_;clear hHeld2 kt0 kt1 hpce hkce
         cases bb
         ·have hs : false = r := by
           rcases Hbig.out with h1 | h1
           ·exact h1
           ·cases h1
          have Hs := Lib.hid hs;clear hs;go_wp2_with fail;go_ret;rw [<- Hs.out];exact ⟨rfl, Hbe2.out⟩
         ·have hs := Hstep.out rfl;have Hs := Lib.hid hs;clear hs;go_wp2_with fail;exact ⟨⟨ja + 1, by omega, by go_num, Hbe.out, Lib.hid Hs.out⟩, by simp [intOf]; omega⟩
        ·by_cases hpe : p = ja
         ·have hs := hstep (by simp [argB, hpe])
          have hne : (p != (ja : Int)) = false := by simp [hpe]
          obtain ⟨Hs, Hpe, Hbig, Hstep, Halla⟩ := hd5 hs hpe hbig hstep halla;clear halla hstep hbig hpe hs;refine wpAnyH_tk 0 ?_;refine wpAnyH_tk 1 ?_;refine wpAnyH_tk 2 ?_;refine wpAnyH_tk 3 ?_;refine wpAnyH_tk 4 ?_;refine wpAnyH_tk 5 ?_;refine wpAnyH_tk 6 ?_;refine wpAnyH_tk 7 ?_;refine wpAnyH_tk 8 ?_;refine wpAnyH_tk 9 ?_;refine wpAnyH_sk 10 ?_;refine wpAnyH_sk 11 ?_;refine wpAnyH_sk 12 ?_;refine wpAnyH_sk 13 ?_;refine wpAnyH_sk 14 ?_;refine wpAnyH_sk 15 ?_;refine wpAnyH_sk 16 ?_;refine wpAnyH_sk 17 ?_;refine wpAnyH_sk 18 ?_;refine wpAnyH_sk 19 ?_;refine wpAnyH_sk 20 ?_;refine wpAnyH_sk 21 ?_;refine wpAnyH_sk 22 ?_;refine wpAnyH_tk 23 ?_;refine wpAnyH_tk 24 ?_;refine wpAnyH_done (by kernel_rfl) ?_ _;refine NoPanic.normal ?_;clear hHeld kt0 kt1 hpce hkce;go_wp2_with fail;exact ⟨⟨ja + 1, by omega, by go_num, Hbqa.out.drew, Lib.hid Hs.out⟩, by simp [intOf]; omega⟩
         ·have hs : false = r := by
           rcases hbig with h1 | h1
           ·exact h1
           ·simp [argB, hpe] at h1
          have hne : (p != (ja : Int)) = true := by simp [hpe]
          obtain ⟨Hs, Hpe, Hbig, Hstep, Halla⟩ := hd5 hs hpe hbig hstep halla;clear halla hstep hbig hpe hs;refine wpAnyH_tk 0 ?_;refine wpAnyH_tk 1 ?_;refine wpAnyH_tk 2 ?_;refine wpAnyH_tk 3 ?_;refine wpAnyH_tk 4 ?_;refine wpAnyH_tk 5 ?_;refine wpAnyH_tk 6 ?_;refine wpAnyH_sk 7 ?_;refine wpAnyH_sk 8 ?_;refine wpAnyH_sk 9 ?_;refine wpAnyH_sk 10 ?_;refine wpAnyH_sk 11 ?_;refine wpAnyH_sk 12 ?_;refine wpAnyH_sk 13 ?_;refine wpAnyH_sk 14 ?_;refine wpAnyH_sk 15 ?_;refine wpAnyH_sk 16 ?_;refine wpAnyH_sk 17 ?_;refine wpAnyH_sk 18 ?_;refine wpAnyH_sk 19 ?_;refine wpAnyH_sk 20 ?_;refine wpAnyH_sk 21 ?_;refine wpAnyH_sk 22 ?_;refine wpAnyH_sk 23 ?_;refine wpAnyH_tk 24 ?_;refine wpAnyH_done (by kernel_rfl) ?_ _;refine NoPanic.normal ?_;clear hHeld kt0 kt1 hpce hkce;go_wp2_with fail;go_ret;rw [<- Hs.out];exact ⟨rfl, Hbna.out.drew⟩
       ·have hjI : ¬ (ja : Int) < mA := by omega
        have hAB1 : AB = true := by
         rw [<- HABu.out]
         refine List.all_eq_true.2 fun k hk => halla.out k ?_
         have := List.mem_range.1 hk
         omega
        have hT4 := HT2.out;rw [hAB1, Bool.true_and] at hT4;have qn0 := HNX.out wr hbVa 0 _ rfl;have qn2 := HNX.out wr hbVa 2 _ rfl;have kt4 := bc hTa 4;obtain ⟨Halla, Hbqa, HTa, Hbna, HT4, HAB1, HbVa⟩ := hd7 halla hbqa hTa hbna hT4 hAB1 hbVa;clear hbVa hAB1 hT4 hbna hTa hbqa halla
        first
         | (have hzz : true = r := HT4.out
            have Hzz := Lib.hid hzz;clear hzz;go_wp2_with fail;go_ret;rw [<- Hzz.out]
            exact ⟨rfl, Hbna.out⟩)
         | (have hT5 : (decide (x.d = -1) || (ff.result && fitsB g bound 0 x.d && (!bound || decide (x.d = 0)))) = r := HT4.out
            obtain ⟨fr, hfr⟩ := mn (ff.result);obtain ⟨A, hA⟩ := mn (fitsB g bound 0 x.d);rw [hfr, hA] at hT5;rw [hfr] at kt4
            by_cases hd : x.d = -1
            ·have hde : (x.d != -1) = false := by simp [hd]
             have hzz : true = r := by rw [<- hT5]; simp [hd]
             obtain ⟨Hzz, HT5, Hd, Hfr, HA⟩ := hd5 hzz hT5 hd hfr hA;clear hA hfr hd hT5 hzz;go_wp2_with fail;go_ret;rw [<- Hzz.out];exact ⟨rfl, Hbna.out⟩
            have hde : (x.d != -1) = true := by simp [hd]
            have hT6 : (fr && A && (!bound || decide (x.d = 0))) = r := by rw [<- hT5]; simp [hd]
            obtain ⟨Hd, HT5, HT6, Hfr, HA⟩ := hd5 hd hT5 hT6 hfr hA;clear hA hfr hT6 hT5 hd
            cases fr
            ·have hzz : false = r := HT6.out;have Hzz := Lib.hid hzz;clear hzz;go_wp2_with fail;go_ret;rw [<- Hzz.out];exact ⟨rfl, Hbna.out⟩
            have hft := Hfit.out wr HbVa.out x.d 0;rw [HA.out] at hft;have g0 := HGC.out wr HbVa.out 0 _ rfl;have g1 := HGC.out wr HbVa.out 1 _ rfl;have g2 := HGC.out wr HbVa.out 2 _ rfl;have g3 := HGC.out wr HbVa.out 3 _ rfl;have g4 := HGC.out wr HbVa.out 4 _ rfl;have g5 := HGC.out wr HbVa.out 5 _ rfl;have g6 := HGC.out wr HbVa.out 6 _ rfl;have g7 := HGC.out wr HbVa.out 7 _ rfl;have Hft := Lib.hid hft;clear hft;go_wp2_with fail;refine Hft.out.mono ?_;rintro e9 w8 ⟨rfl, hb8⟩;have hbv8 := HbVa.out.trans (hb8.mono HbVa.out.size);have hbe := Hbna.out.trans (hb8.mono Hbna.out.size);have qn2' := HNX.out w8 hbv8 2 _ rfl;obtain ⟨Hbe, Hbv8⟩ := hd2 hbe hbv8;clear hbv8 hbe;clear hb8 g0 g1 g2 g3 g4 g5 g6 g7 qn0 qn2 kt4
            cases A
            ·have hzz : false = r := HT6.out;have Hzz := Lib.hid hzz;clear hzz;go_wp2_with fail;go_ret;rw [<- Hzz.out];exact ⟨rfl, Hbe.out⟩
            cases bound
            ·have hzz : true = r := HT6.out;have Hzz := Lib.hid hzz;clear hzz;go_wp2_with fail;go_ret;rw [<- Hzz.out];exact ⟨rfl, Hbe.out⟩
            by_cases hd0 : x.d = 0
            ·have hd1 : (x.d == 0) = true := by simp [hd0]
             have hzz : true = r := by rw [<- HT6.out]; simp [hd0]
             obtain ⟨Hzz, Hd0⟩ := hd2 hzz hd0;clear hd0 hzz;go_wp2_with fail;go_ret;rw [<- Hzz.out];exact ⟨rfl, Hbe.out⟩
            ·have hd1 : (x.d == 0) = false := by simp [hd0]
             have hzz : false = r := by rw [<- HT6.out]; simp [hd0]
             obtain ⟨Hzz, Hd0⟩ := hd2 hzz hd0;clear hd0 hzz;go_wp2_with fail;go_ret;rw [<- Hzz.out]
             exact ⟨rfl, Hbe.out⟩)
theorem refnode_all (w : World) (B : Nat) (hB : B <= w.heap.size) (allv : Value) (gs : List GraphD) (hgs : GraphsAt w B allv gs) (g : GraphD) (pv kv iv nv : Value) (hkA : NumsAt .u8 w B kv g.kinds) (hnA : RowsAt 12 NodeAt w B nv g.nodes) (hkm : g.kinds.length <= 140737488351232) (bound : Bool)
  (hpar : ∀ f ∈ gs, ∀ p ∈ f.params, 0 <= p /\ p < f.kinds.length) (hgl : gs.length <= 16) (x : NodeD) (av : Value) (hav : NumsAt .i64 w B av x.args) (hal : x.args.length <= 140737488351232) (hpl : ∀ f ∈ gs, f.params.length <= 4) (hkl : ∀ f ∈ gs, f.kinds.length <= 1024) :
  Calls Try.prog 17 #[allv, .agg (gcells g pv kv iv nv).toArray, .bool bound, .agg (ncells x av).toArray] w fun e w' => e = .returned (.bool (nodeB gs g bound x)) /\ Below w.heap.size w w' := by
 by_cases h : x.op = 11 ∨ x.op = 13
 ·exact refnode_call w B hB allv gs hgs g pv kv iv nv hkA hnA hkm bound hpar hgl x av hav hal hpl hkl h
 ·exact refnode_any w B hB allv gs hgs g pv kv iv nv hkA hnA hkm bound hpar hgl x av hav hal hpl hkl h
end Go.Proofs.Ytncpehhfjkncoaa
namespace Go.Proofs.Ytncpehhfjkncoaa
open Go.RowKit

theorem GraphM.forms {w : World} {B : Nat} {ga : Addr} {g : GraphD} {pv kv iv nv : Value} (h : GraphM w B ga g pv kv iv nv) :
  ∃ PA pn pc KA kn kc IA il ic NA nn nc, pv = .slice PA pn pc /\ kv = .slice KA kn kc /\ iv = .slice IA il ic /\ nv = .slice NA nn nc /\ g.params.length = pn /\ g.kinds.length = kn /\ g.init.length = il /\ g.nodes.length = nn := by
 obtain ⟨PA, pc, h1, _⟩ := h.params.slice;obtain ⟨KA, kc, h2, _⟩ := h.kinds.slice;obtain ⟨IA, ic, h3, _⟩ := h.init.slice;obtain ⟨NA, nn, nc, css, h4, _, _, h5, _⟩ := h.nodes;exact ⟨PA, _, pc, KA, _, kc, IA, _, ic, NA, nn, nc, h1, h2, h3, h4, rfl, rfl, rfl, h5⟩
end Go.Proofs.Ytncpehhfjkncoaa
