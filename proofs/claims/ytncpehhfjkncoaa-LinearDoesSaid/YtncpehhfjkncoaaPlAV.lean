/- Walk of the run's settling: while the last frame is at its end. Conditions: the run lies in memory, its graphs are right. -/
import Derived.Test.YtncpehhfjkncoaaPlAA
import Derived.Test.YtncpehhfjkncoaaPlAU
set_option linter.unusedVariables false
set_option linter.unusedSimpArgs false
set_option maxRecDepth 100000
set_option maxHeartbeats 16000000
namespace Go.Proofs.Ytncpehhfjkncoaa
open Go.RowKit

section
variable {w : World} {base : Nat} {X : RunX} {R : RunD} {rest : List It} {q N : Nat}
theorem pop_sz (sz : Sz N R) : Sz N R.pop := by
 have hwt : R.pop.waiting <= R.waiting := by
  unfold RunD.waiting RunD.pop
  rcases R.row with _ | ⟨x, r⟩
  ·exact Nat.le_refl _
  ·simp
 exact ⟨by show R.row.tail.length <= N; rw [List.length_tail]; have := sz.row; omega, sz.list, Nat.le_trans hwt sz.waits⟩
theorem setTop_sz (sz : Sz N R) (hne : R.row ≠ []) {x : FrD} (hx : x.waits.length <= R.top.waits.length) : Sz N (R.setTop x) := by
 have hs := sz.row;have hw := sz.waits;unfold RunD.setTop;unfold RunD.top at hx
 rcases hr : R.row with _ | ⟨y, r⟩
 ·exact absurd hr hne
 ·rw [hr] at hx hs;refine ⟨hs, sz.list, ?_⟩;unfold RunD.waiting at hw ⊢;rw [hr] at hw;simp only [List.map_cons, List.sum_cons, List.headD_cons, List.tail_cons] at hw hx ⊢
  omega
/-- where the last frame stands, of a run that is right -/
theorem stand_of {gs : List GraphD} (hg : GsW gs) (ok : RunOk gs q R) (hne : R.row ≠ []) : ∃ f i g x, Stand gs R f i g x /\ g ∈ gs /\ x ∈ g.nodes := by
 have ht := ok.top hne
 obtain ⟨f, hf⟩ : ∃ f : Nat, R.top.f = f := ⟨R.top.f.toNat, by have := ht.f; omega⟩
 obtain ⟨i, hi⟩ : ∃ i : Nat, R.top.at_ = i := ⟨R.top.at_.toNat, by have := ht.at_; omega⟩
 have hfl : f < gs.length := by have := ht.f; omega
 have hgf : gs[f]? = some gs[f] := List.getElem?_eq_getElem hfl
 have hga : gAt gs R.top.f = gs[f] := by
  unfold gAt;rw [hf, Int.toNat_natCast, List.getD_eq_getElem?_getD, hgf]; rfl
 have hil : i < gs[f].nodes.length := by have := ht.at_; rw [hga] at this; omega
 exact ⟨f, i, gs[f], gs[f].nodes[i], ⟨hne, hf, hgf, hi, List.getElem?_eq_getElem hil⟩, List.getElem_mem _, List.getElem_mem _⟩
theorem settle_any (hg : GsW X.gs) (h : RunAt w base X R rest) (ok : RunOk X.gs 0 R) (hne : R.row ≠ []) (sz : Sz N R) (hN : N <= 1000000) (hend : R.endK = 0) :
  Calls Try.prog 31 #[.pointer (some ⟨X.rp, 0, none⟩)] w fun e w' => RunGot base X rest w (.tuple #[]) (R.settle X.gs R.row.length) e w' := by
 obtain ⟨M, hM⟩ := mn (R.row.length);obtain ⟨U, hU⟩ := mn (R.settle X.gs R.row.length);rw [hU];rw [hM] at hU;have hbr := Below.refl base w;obtain ⟨Hg, H, Hok, Hne, Hsz, HM, HU, Hbr⟩ := hd8 hg h ok hne sz hM hU hbr;have Hend := Lib.hid hend;clear hend hbr hU hM sz hne ok h hg;go_enter Try.func31, Try.ntmps31;go_upto_region 0 with fail
 go_loopg [] M (fun gk wr => Hid (∃ R' : RunD, RunAt wr base X R' rest /\ Below base w wr /\ RunOk X.gs 0 R' /\ R'.row ≠ [] /\ R'.row.length = gk /\ Sz N R' /\ R'.endK = 0 /\ R'.settle X.gs gk = U))
 case atStart => exact Lib.hid ⟨R, H.out, Hbr.out, Hok.out, Hne.out, HM.out, Hsz.out, Hend.out, HU.out⟩
 case round =>
  obtain ⟨R', hR, hbw, hok, hrn, hrl, hsz, hek, hu⟩ := hrel.out;clear hrel
  obtain ⟨n, hn⟩ : ∃ n, gk = n + 1 := ⟨gk - 1, by have := List.length_pos_iff.mpr hrn; omega⟩
  subst hn;have hrN := hsz.row;unfold RunD.settle at hu;obtain ⟨Va, hVa⟩ := hR.run;obtain ⟨ga, ca, na, va, sa, hva, hTa⟩ := hVa.top hrn
  obtain rfl : na = n := by have := hTa.len; omega
  have a3 : wr.cell? ⟨X.rp, 3, none⟩ = some (.slice (some ⟨ga, 0, none⟩) (na + 1) ca) := by
   have := hVa.blk.cell 3;rw [this, <- hTa.rv]; rfl
  have a7 : wr.cell? ⟨X.rp, 7, none⟩ = some (.int .i64 0) := by
   have := hVa.blk.cell 7;rw [this, <- hek]; rfl
  have a6 := hTa.f6
  have hn1 : IntKind.i64.wrap (na : Int) = na := by rw [IntKind.wrap_i64]; omega
  have hn2 : (na : Int) < na + 1 := by omega
  rcases hends : R'.top.ends with _ | _
  ·rw [if_neg (by rw [hends]; simp)] at hu;rw [hends] at a6;obtain ⟨HR, Hbw, Hok, Hrn, Hsz, Hek, Hu, HVa⟩ := hd8 hR hbw hok hrn hsz hek hu hVa;obtain ⟨HTa, Hva, Hends⟩ := hd3 hTa hva hends;clear hends hva hTa hVa hu hek hsz hrn hok hbw hR;go_upto_region 0 with fail
   go_quiet (fail)
   have hfin := HR.out.drewN nq;have hbf := below_drewN Hbw.out nq;rw [Hu.out] at hfin;obtain ⟨Hfin, Hbf⟩ := hd2 hfin hbf;clear hbf hfin;go_wp2_with fail;go_end0;exact ⟨rfl, Hfin.out, Hbf.out⟩
  ·rw [if_pos ⟨hek, hends⟩] at hu;rw [hends] at a6;obtain ⟨HR, Hbw, Hok, Hrn, Hsz, Hek, Hu, HVa⟩ := hd8 hR hbw hok hrn hsz hek hu hVa;obtain ⟨HTa, Hva, Hends⟩ := hd3 hTa hva hends;clear hends hva hTa hVa hu hek hsz hrn hok hbw hR;go_upto_region 0 with fail
   go_quiet (fail)
   have hR0 := HR.out.drewN nq;have hb0 := below_drewN Hbw.out nq;obtain ⟨w0, hw0⟩ := nm (wr.drewN nq);rw [<- hw0] at hR0 hb0 ⊢;clear a3 a6 a7;have hu0 := Hu.out;have hcall := qnext_any Hg.out hR0 Hok.out Hrn.out Hsz.out hN 1
   rcases hnx : R'.next X.gs 1 with _ | R''
   ·rw [hnx] at hcall hu0;dsimp only at hu0;obtain ⟨HR0, Hb0, Hw0, Hcall, Hnx, Hu0⟩ := hd6 hR0 hb0 hw0 hcall hnx hu0;clear hu0 hnx hcall hw0 hb0 hR0;go_wp2_with fail;refine Hcall.out.mono ?_;rintro e w1 ⟨rfl, h1, hb1⟩;have hbw1 := Hb0.out.trans hb1;obtain ⟨V1, hV1⟩ := h1.run;obtain ⟨g, c, n', v, s, hv, hT⟩ := hV1.top Hrn.out
    obtain rfl : n' = na := by have := hT.len; omega
    obtain ⟨f0, f1, f2, f3, f4, f5, f6, f7, f8⟩ : _ /\ _ /\ _ /\ _ /\ _ /\ _ /\ _ /\ _ /\ _ := ⟨hT.f0, hT.f1, hT.f2, hT.f3, hT.f4, hT.f5, hT.f6, hT.f7, hT.f8⟩
    obtain ⟨PA, pc, hpv, _⟩ := own_any hT.pv;obtain ⟨CA, cc, hcv, _⟩ := own_any hT.cv;obtain ⟨WA, wc, hwv, _⟩ := own_any hT.wv;obtain ⟨KA, kc, hkv, _⟩ := own_any hT.kv;obtain ⟨pn, hpn⟩ := mn (R'.top.places.length);obtain ⟨cn, hcn⟩ := mn (R'.top.cells.length);obtain ⟨wn, hwn⟩ := mn (R'.top.waits.length);obtain ⟨kn, hkn⟩ := mn (R'.top.kept.length);rw [hpv, hpn] at f3;rw [hcv, hcn] at f4;rw [hwv, hwn] at f5;rw [hkv, hkn] at f8;obtain ⟨xf, hxf⟩ := mn (R'.top.f);obtain ⟨xa, hxa⟩ := mn (R'.top.at_);obtain ⟨xw, hxw⟩ := mn (R'.top.why);obtain ⟨xe, hxe⟩ := mn (R'.top.ends);obtain ⟨xr, hxr⟩ := mn (R'.top.ret);rw [hxf] at f0;rw [hxa] at f1;rw [hxw] at f2;rw [hxe] at f6;rw [hxr] at f7
    have b3 : w1.cell? ⟨X.rp, 3, none⟩ = some (.slice (some ⟨g, 0, none⟩) (n' + 1) c) := by
     have := hV1.blk.cell 3;rw [this, <- hT.rv]; rfl
    have hcap : n' <= c := by have := hT.cap.1; omega
    have lrp := hV1.blk.lt;have lg := hT.lt
    have hS : ∀ W : World, (∀ p : Addr, p.block < w1.heap.size -> W.cell? p = w1.cell? p) -> W.cell? ⟨X.rp, 3, none⟩ = some (.slice (some ⟨g, 0, none⟩) (n' + 1) c) /\ W.cell? ⟨g, n' * 9, none⟩ = some (.int .i64 xf) /\ W.cell? ⟨g, n' * 9 + 1, none⟩ = some (.int .i64 xa) /\ W.cell? ⟨g, n' * 9 + 2, none⟩ = some (.int .i64 xw) /\ W.cell? ⟨g, n' * 9 + 3, none⟩ = some (.slice PA pn pc) /\ W.cell? ⟨g, n' * 9 + 4, none⟩ = some (.slice CA cn cc) /\ W.cell? ⟨g, n' * 9 + 5, none⟩ = some (.slice WA wn wc) /\ W.cell? ⟨g, n' * 9 + 6, none⟩ = some (.bool xe) /\ W.cell? ⟨g, n' * 9 + 7, none⟩ = some (.int .u64 xr) /\ W.cell? ⟨g, n' * 9 + 8, none⟩ = some (.slice KA kn kc) :=
     fun W hW => ⟨(hW _ lrp).trans b3, (hW _ lg).trans f0, (hW _ lg).trans f1, (hW _ lg).trans f2, (hW _ lg).trans f3, (hW _ lg).trans f4, (hW _ lg).trans f5, (hW _ lg).trans f6, (hW _ lg).trans f7, (hW _ lg).trans f8⟩
    have hS1 := hS w1 fun _ _ => rfl
    clear f0 f1 f2 f3 f4 f5 f6 f7 f8 b3;obtain ⟨H1, Hb1, Hbw1, HV1, Hv, HT, Hpv, Hcv⟩ := hd8 h1 hb1 hbw1 hV1 hv hT hpv hcv;obtain ⟨Hwv, Hkv, Hpn, Hcn, Hwn, Hkn, Hxf, Hxa⟩ := hd8 hwv hkv hpn hcn hwn hkn hxf hxa;obtain ⟨Hxw, Hxe, Hxr, HS⟩ := hd4 hxw hxe hxr hS;clear hS hxr hxe hxw hxa hxf hkn hwn hcn hpn hkv hwv hcv hpv hT hv hV1 hbw1 hb1 h1;go_upto_region 2 with fail;refine wp_region_late (S := fun W => W.cell? ⟨X.rp, 3, none⟩ = some (.slice (some ⟨g, 0, none⟩) (n' + 1) c) /\ W.cell? ⟨g, n' * 9, none⟩ = some (.int .i64 xf) /\ W.cell? ⟨g, n' * 9 + 1, none⟩ = some (.int .i64 xa) /\ W.cell? ⟨g, n' * 9 + 2, none⟩ = some (.int .i64 xw) /\ W.cell? ⟨g, n' * 9 + 3, none⟩ = some (.slice PA pn pc) /\ W.cell? ⟨g, n' * 9 + 4, none⟩ = some (.slice CA cn cc) /\ W.cell? ⟨g, n' * 9 + 5, none⟩ = some (.slice WA wn wc) /\ W.cell? ⟨g, n' * 9 + 6, none⟩ = some (.bool xe) /\ W.cell? ⟨g, n' * 9 + 7, none⟩ = some (.int .u64 xr) /\ W.cell? ⟨g, n' * 9 + 8, none⟩ = some (.slice KA kn kc)) #[false, false, false, false, false, false, false, false, false, false, false, false, false, true] (by kernel_rfl) hS1 (fun hHeld => ?_);refine wpAnyL_tk 0 ?_;refine wpAnyL_tk 1 ?_;refine wpAnyL_tk 2 ?_;refine wpAnyL_tk 3 ?_;refine wpAnyL_tk 4 ?_;refine wpAnyL_tk 5 ?_;refine wpAnyL_tk 6 ?_;refine wpAnyL_tk 7 ?_;refine wpAnyL_tk 8 ?_;refine wpAnyL_tk 9 ?_;refine wpAnyL_tk 10 ?_;refine wpAnyL_tk 11 ?_;refine wpAnyL_rd 12 (fun K hK => ?_);go_simp;refine hK.out _ _ (HS.out _ fun p hp => World.cell?_alloc_lt _ _ p hp) (fun hHeld2 => ?_);clear hK K hHeld;refine lay ?_;refine wpAnyL_ls 13 (fun K hK => ?_);go_simp;refine hK.out _ _ ?_;clear hK K;refine lay ?_;refine wpAnyL_done (by kernel_rfl) ?_ _;have hV2 := (HV1.out.box 82 #[.int .i64 xf, .int .i64 xa, .int .i64 xw, .slice PA pn pc, .slice CA cn cc, .slice WA wn wc, .bool xe, .int .u64 xr, .slice KA kn kc]).drew;have hb2 := (Hbw1.out.alloc HV1.out.size_.2 (.cells #[.int .i64 xf, .int .i64 xa, .int .i64 xw, .slice PA pn pc, .slice CA cn cc, .slice WA wn wc, .bool xe, .int .u64 xr, .slice KA kn kc] 82)).drew;obtain ⟨w2, hw2⟩ := nm ((w1.alloc (.cells #[.int .i64 xf, .int .i64 xa, .int .i64 xw, .slice PA pn pc, .slice CA cn cc, .slice WA wn wc, .bool xe, .int .u64 xr, .slice KA kn kc] 82)).drew);obtain ⟨FB, hFB⟩ := mn (w1.heap.size);rw [<- hw2] at hV2 hb2 ⊢;rw [hFB] at hV2 ⊢;clear hHeld2 hS1;have hT2 := hV2.topAt Hrn.out Hv.out HT.out.rv
    have b3 : w2.cell? ⟨X.rp, 3, none⟩ = some (.slice (some ⟨g, 0, none⟩) (n' + 1) c) := by
     have := hV2.blk.cell 3;rw [this, <- HT.out.rv]; rfl
    have b3f := hV2.blk.frozen 3;have hV3 := hV2.popSet hT2 Hv.out;have hb3 := hb2.setCell (p := ⟨X.rp, 3, none⟩) hV2.size_.1 (.slice (some ⟨g, 0, none⟩) n' c);obtain ⟨HV2, Hb2, Hw2, HFB, HT2, HV3, Hb3⟩ := hd7 hV2 hb2 hw2 hFB hT2 hV3 hb3;clear hb3 hV3 hT2 hFB hw2 hb2 hV2;go_upto_region 3 with fail;refine wp_region_late (S := fun W => W.cell? ⟨X.rp, 3, none⟩ = some (.slice (some ⟨g, 0, none⟩) (n' + 1) c) /\ W.frozen? ⟨X.rp, 3, none⟩ = false) #[false, false, false, false, false, false, false, false, false, false, false, false, false, false, true] (by kernel_rfl) ⟨b3, b3f⟩ (fun hHeld => ?_);refine wpAnyL_tk 0 ?_;refine wpAnyL_tk 1 ?_;refine wpAnyL_tk 2 ?_;refine wpAnyL_tk 3 ?_;refine wpAnyL_tk 4 ?_;refine wpAnyL_tk 5 ?_;refine wpAnyL_tk 6 ?_;refine wpAnyL_tk 7 ?_;refine wpAnyL_tk 8 ?_;refine wpAnyL_tk 9 ?_;refine wpAnyL_tk 10 ?_;refine wpAnyL_tk 11 ?_;refine wpAnyL_tk 12 ?_;refine wpAnyL_tk 13 ?_;refine wpAnyL_ls 14 (fun K hK => ?_);go_simp;refine hK.out _ _ ?_;clear hK K;refine lay ?_;refine wpAnyL_done (by kernel_rfl) ?_ _;clear b3 b3f hHeld;have hV4 := HV3.out.drew;have hb4 := Hb3.out.drew;obtain ⟨w4, hw4⟩ := nm ((w2.setCell ⟨X.rp, 3, none⟩ (.slice (some ⟨g, 0, none⟩) n' c)).drew);rw [<- hw4] at hV4 hb4 ⊢;obtain ⟨V4, hV4e⟩ := mn (({ V1 with rv := .slice (some ⟨g, 0, none⟩) n' c, fv := s } : RunV));rw [hV4e] at hV4;obtain ⟨rest1, hrest1⟩ := nm (It.blk FB 82 #[.int .i64 xf, .int .i64 xa, .int .i64 xw, .slice PA pn pc, .slice CA cn cc, .slice WA wn wc, .bool xe, .int .u64 xr, .slice KA kn kc] :: rest);rw [<- hrest1] at hV4;have hFBk : Blk w4 FB 82 #[.int .i64 xf, .int .i64 xa, .int .i64 xw, .slice PA pn pc, .slice CA cn cc, .slice WA wn wc, .bool xe, .int .u64 xr, .slice KA kn kc] := (hV4.its.each (.blk FB 82 #[.int .i64 xf, .int .i64 xa, .int .i64 xw, .slice PA pn pc, .slice CA cn cc, .slice WA wn wc, .bool xe, .int .u64 xr, .slice KA kn kc]) (List.mem_append_right _ (by rw [hrest1]; exact List.mem_cons_self))).2;have k2 := bc hFBk 2;have k7 := bc hFBk 7
    have e3 : w4.cell? ⟨X.rp, 3, none⟩ = some (.slice (some ⟨g, 0, none⟩) n' c) := by
     have := hV4.blk.cell 3;rw [this, <- hV4e]; rfl
    obtain ⟨hp, hcl⟩ := Hok.out.pop Hrn.out
    have hrt : R'.pop.row.length = n' := by show R'.row.tail.length = n'; rw [List.length_tail]; omega
    have hsp := pop_sz Hsz.out;have hpk : R'.pop.endK = 0 := Hek.out;have Hrest1x := Lib.hid hrest1
    have hrd : ∀ (W : World) (Q : RunD), RunAt W base X Q rest1 -> RunAt W base X Q rest := fun W Q hQ => by
     rw [Hrest1x.out] at hQ;exact hQ.drop
    by_cases hn0 : n' = 0
    ·have hnb : ((n' : Int) == 0) = true := by simpa using hn0
     have hrE : R'.pop.row.isEmpty = true := by
      rcases hr : R'.pop.row with _ | ⟨x, r⟩
      ·rfl
      ·rw [hr] at hrt; simp at hrt; omega
     have hu1 := Hu0.out;rw [if_pos hrE] at hu1
     have e7 : w4.cell? ⟨X.rp, 7, none⟩ = some (.int .i64 0) := by
      have := hV4.blk.cell 7;rw [this, <- hpk]; rfl
     have e8 : w4.cell? ⟨X.rp, 8, none⟩ = some (.int .u64 R'.pop.endV) := hV4.blk.cell 8;have e7f := hV4.blk.frozen 7;have e8f := hV4.blk.frozen 8;have hV6 := (hV4.setF (R' := { R'.pop with endK := 1 }) 7 (.int .i64 1) rfl ⟨rfl, rfl, rfl, rfl, rfl⟩).setF (R' := { R'.pop with endK := 1, endV := 0 }) 8 (.int .u64 0) rfl ⟨rfl, rfl, rfl, rfl, rfl⟩;have hb6 := (hb4.setCell (p := ⟨X.rp, 7, none⟩) hV4.size_.1 (.int .i64 1)).setCell (p := ⟨X.rp, 8, none⟩) hV4.size_.1 (.int .u64 0);have hfin := hrd _ _ (show RunAt ((w4.setCell ⟨X.rp, 7, none⟩ (.int .i64 1)).setCell ⟨X.rp, 8, none⟩ (.int .u64 0)) base X { R'.pop with endK := 1, endV := 0 } rest1 from ⟨H.out.le, H.out.gs.below (hb6.mono H.out.le), _, hV6⟩);rw [hu1] at hfin;obtain ⟨HV4, Hb4, Hw4, HV4e, Hrest1, HFBk, Hp, Hcl⟩ := hd8 hV4 hb4 hw4 hV4e hrest1 hFBk hp hcl;obtain ⟨Hrt, Hsp, Hpk, Hrd, Hn0, HrE, Hu1, HV6⟩ := hd8 hrt hsp hpk hrd hn0 hrE hu1 hV6;obtain ⟨Hb6, Hfin⟩ := hd2 hb6 hfin;clear hfin hb6 hV6 hu1 hrE hn0 hrd hpk hsp hrt hcl hp hFBk hrest1 hV4e hw4 hb4 hV4;go_wp2_with fail;go_end0;exact ⟨rfl, Hfin.out, Hb6.out⟩
    ·obtain ⟨p, hpn⟩ : ∃ p, n' = p + 1 := ⟨n' - 1, by omega⟩
     have hnb : ((n' : Int) == 0) = false := by simpa using hn0
     have hpe : R'.pop.row ≠ [] := fun e => by rw [e] at hrt; exact hn0 hrt.symm
     have hrE : ¬ R'.pop.row.isEmpty = true := fun e => hpe (by simpa using e)
     have hu1 := Hu0.out;rw [if_neg hrE] at hu1
     have hw1 : IntKind.i64.wrap ((n' : Int) - 1) = p := by rw [IntKind.wrap_i64]; omega
     have hw2 : IntKind.i64.wrap (p : Int) = p := by rw [IntKind.wrap_i64]; omega
     have hw3 : (n' : Int) - 1 = (p : Int) := by omega
     have hpl : (p : Int) < n' := by omega
     obtain ⟨HV4, Hb4, Hw4, HV4e, Hrest1, HFBk, Hp, Hcl⟩ := hd8 hV4 hb4 hw4 hV4e hrest1 hFBk hp hcl;obtain ⟨Hrt, Hsp, Hpk, Hrd, Hn0, HrE, Hu1, Hpe⟩ := hd8 hrt hsp hpk hrd hn0 hrE hu1 hpe;have Hpn := Lib.hid hpn;clear hpn hpe hu1 hrE hn0 hrd hpk hsp hrt hcl hp hFBk hrest1 hV4e hw4 hb4 hV4;go_upto_region 6 with fail
     go_quiet (fail)
     have hV5 := HV4.out.drewN nq;have hb5 := below_drewN Hb4.out nq;have k2q : (w4.drewN nq).cell? ⟨FB, 2, none⟩ = some (.int .i64 xw) := k2;have k7q : (w4.drewN nq).cell? ⟨FB, 7, none⟩ = some (.int .u64 xr) := k7;obtain ⟨w5, hw5⟩ := nm (w4.drewN nq);rw [<- hw5] at hV5 hb5 k2q k7q ⊢;clear k2 k7 e3
     have h5 : RunAt w5 base X R'.pop rest1 := ⟨H.out.le, H.out.gs.below (hb5.mono H.out.le), _, hV5⟩
     have htop := Hok.out.top Hrn.out;have hwy := htop.why;rw [Hxw.out] at hwy;have hpp := Hp.out;have hcc := Hcl.out Hpe.out;have hu2 := Hu1.out;rw [Hxw.out] at hpp hcc hu2
     rcases hwy with rfl | rfl | rfl
     ·rw [if_pos rfl] at hu2;rw [if_neg (by omega)] at hpp;obtain ⟨cop, ckl⟩ := hcc rfl;obtain ⟨f, i, gg, x, hst, hgm, hxm⟩ := stand_of Hg.out hpp Hpe.out;have hxe2 := hst.node;rw [hxe2] at cop;obtain ⟨hnd, _⟩ := Hg.out.nd gg hgm x hxm
      obtain ⟨f2, hf2⟩ : ∃ f2 : Nat, x.f = f2 := ⟨x.f.toNat, by have := hnd.f (.inl cop); omega⟩
      have hf2l : f2 < X.gs.length := by have := hnd.f (.inl cop); omega
      have hback := back_any h5 (by rw [Hrt.out]; omega) hst ckl hf2 (List.getElem?_eq_getElem hf2l) xr;have hru := htop.ret;rw [Hxr.out] at hru;have hokb := hpp.back Hg.out.gx Hpe.out (by rw [hxe2]; exact cop) hru
      have hbl : (R'.pop.back X.gs xr).row.length = n' := by
       unfold RunD.back;show R'.pop.row.tail.length + 1 = n';rw [List.length_tail, Hrt.out]; omega
      have hbz : Sz N (R'.pop.back X.gs xr) := by
       have := setTop_sz Hsp.out Hpe.out (x := { R'.pop.top with at_ := (nodeAt X.gs R'.pop.top).next }) (Nat.le_refl _);exact ⟨this.row, this.list, this.waits⟩
      have hbk : (R'.pop.back X.gs xr).endK = 0 := Hpk.out
      have hbu : (R'.pop.back X.gs xr).settle X.gs n' = U := by rw [<- hu2, Hxr.out]
      have hbn : (R'.pop.back X.gs xr).row ≠ [] := back_up _ Hpe.out;obtain ⟨HV5, Hb5, Hw5, H5, Htop, Hpp, Hcc, Hu2⟩ := hd8 hV5 hb5 hw5 h5 htop hpp hcc hu2;obtain ⟨Hst, Hgm, Hxm, Hxe2, Hnd, Hback, Hru, Hokb⟩ := hd8 hst hgm hxm hxe2 hnd hback hru hokb;obtain ⟨Hbl, Hbz, Hbk, Hbu, Hbn, Hcop, Hckl, Hf2⟩ := hd8 hbl hbz hbk hbu hbn cop ckl hf2;have Hf2l := Lib.hid hf2l;clear hf2l hf2 ckl cop hbn hbu hbk hbz hbl hokb hru hback hnd hxe2 hxm hgm hst hu2 hcc hpp htop h5 hw5 hb5 hV5;go_wp2_with fail;refine Hback.out.mono ?_;rintro e w6 ⟨rfl, h6, hb6⟩;have h6d := Hrd.out _ _ h6;have hb6d := Hb5.out.trans hb6;obtain ⟨H6, Hb6, H6d, Hb6d⟩ := hd4 h6 hb6 h6d hb6d;clear hb6d h6d hb6 h6;go_wp2_with fail
      go_roundg n'
      case measure => omega
      case rel => exact Lib.hid ⟨_, H6d.out, Hb6d.out, Hokb.out, Hbn.out, Hbl.out, Hbz.out, Hbk.out, Hbu.out⟩
     ·rw [if_neg (by omega), if_neg (by omega)] at hu2;rw [if_neg (by omega)] at hpp;have h6d := Hrd.out _ _ h5;obtain ⟨HV5, Hb5, Hw5, H5, Htop, Hpp, Hcc, Hu2⟩ := hd8 hV5 hb5 hw5 h5 htop hpp hcc hu2;have H6d := Lib.hid h6d;clear h6d hu2 hcc hpp htop h5 hw5 hb5 hV5;go_wp2_with fail
      go_roundg n'
      case measure => omega
      case rel => exact Lib.hid ⟨_, H6d.out, Hb5.out, Hpp.out, Hpe.out, Hrt.out, Hsp.out, Hpk.out, Hu2.out⟩
     ·rw [if_neg (by omega), if_pos rfl] at hu2;rw [if_pos rfl] at hpp
      have hL0 : 0 < R'.list.length := by
       have h1 : R'.pop.list.length = twos R'.pop.row + (0 + 1) := hpp.list.1;have h2 : R'.pop.list = R'.list := rfl;rw [h2] at h1
       omega
      obtain ⟨l1, z, hz⟩ := snoc_of hL0;obtain ⟨m, hm⟩ := mn (l1.length);obtain ⟨L, hL⟩ := mn (R'.list.length)
      have hLm : L = m + 1 := by rw [<- hL, hz, List.length_append, hm]; rfl
      have hLN : L <= 1000000 := by have := Hsz.out.list; omega
      have hlast : R'.last = z := by unfold RunD.last; rw [hz]; simp
      rw [hlast] at hu2;have hRl : R'.pop.list = l1 ++ [z] := hz;have hRn : R'.pop.list.length = L := hL;have hlo := hV5.list;obtain ⟨LA, lc, hlv, _⟩ := own_any hlo;rw [hRn] at hlv;rw [hlv, hRn, hRl] at hlo;obtain ⟨_, lq, hLA, _, _, hcell⟩ := own_row hlo (by omega);subst hLA;have p1 := hcell (m * 2 + 1) (.bool z.2) (by rw [pan_app, List.getElem?_append_right (by rw [len_pan, hm]; omega), len_pan, hm, show m * 2 + 1 - m * 2 = 1 by omega]; rfl);rw [addr_zero] at p1
      have e4 : w5.cell? ⟨X.rp, 4, none⟩ = some (.slice (some ⟨lq, 0, none⟩) L lc) := by
       have := hV5.blk.cell 4;rw [this, <- hlv]; rfl
      have e4f := hV5.blk.frozen 4
      have hv1 : IntKind.i64.wrap ((L : Int) - 1) = m := by rw [IntKind.wrap_i64]; omega
      have hv2 : IntKind.i64.wrap (m : Int) = m := by rw [IntKind.wrap_i64]; omega
      have hv3 : (L : Int) - 1 = (m : Int) := by omega
      have hml : (m : Int) < L := by omega
      have hmlc : m <= lc := by
       rcases hlo.2 with ⟨_, h0⟩ | ⟨_, _, _, hs, _, _, h1, _⟩
       ·omega
       ·injection hs with _ _ hs; omega
      rcases hz2 : z.2 with _ | _
      ·rw [if_pos hz2] at hu2;have hun := unwind_any Hg.out h5 hpp Hpe.out Hsp.out hN;rw [hu2] at hun;rw [hz2] at p1;obtain ⟨HV5, Hb5, Hw5, H5, Htop, Hpp, Hcc, Hu2⟩ := hd8 hV5 hb5 hw5 h5 htop hpp hcc hu2;obtain ⟨Hz, Hm, HL, HLm, Hlast, HRl, HRn, Hlo⟩ := hd8 hz hm hL hLm hlast hRl hRn hlo;obtain ⟨Hlv, Hcell, Hun, Hz2⟩ := hd4 hlv hcell hun hz2;clear hz2 hun hcell hlv hlo hRn hRl hlast hLm hL hm hz hu2 hcc hpp htop h5 hw5 hb5 hV5;go_wp2_with fail;refine Hun.out.mono ?_;rintro e w6 ⟨rfl, h6, hb6⟩;have h6d := Hrd.out _ _ h6;have hb6d := Hb5.out.trans hb6;obtain ⟨H6, Hb6, H6d, Hb6d⟩ := hd4 h6 hb6 h6d hb6d;clear hb6d h6d hb6 h6;go_wp2_with fail;go_end0;exact ⟨rfl, H6d.out, Hb6d.out⟩
      ·rw [if_neg (by rw [hz2]; simp)] at hu2;rw [hz2] at p1;obtain ⟨g5, c5, n5, v5, s5, hv5, hT5⟩ := hV5.top Hpe.out;have hrv5 := hT5.rv
       have hrv4 : V4.rv = .slice (some ⟨g, 0, none⟩) n' c := by rw [<- HV4e.out]
       rw [hrv4] at hrv5;injection hrv5 with i1 i2 i3;injection i1 with i1;injection i1 with i1
       have i2 : p = n5 := by have := Hpn.out; omega
       subst i1 i2 i3
       have hrvp : V4.rv = .slice (some ⟨g, 0, none⟩) (p + 1) c := by rw [hrv4, Hpn.out]
       have hcut := own_cut hlo (k := m) (by omega);rw [pan_app, cut_list (by rw [len_pan, hm])] at hcut
       have hlb : V4.lv.ownBlock = (Value.slice (some ⟨lq, 0, none⟩) m lc).ownBlock := by rw [hlv]; rfl
       have hV6 := hV5.setList (l' := l1) hm hcut (World.grownBy.refl _ _) (.inl hlb.symm);have hb6 := hb5.setCell (p := ⟨X.rp, 4, none⟩) hV5.size_.1 (.slice (some ⟨lq, 0, none⟩) m lc);obtain ⟨Q6, hQ6⟩ := mn (({ R'.pop with list := l1 } : RunD) : RunD);obtain ⟨V6, hV6e⟩ := mn (({ V4 with lv := .slice (some ⟨lq, 0, none⟩) m lc } : RunV) : RunV);obtain ⟨w6, hw6⟩ := nm (w5.setCell ⟨X.rp, 4, none⟩ (.slice (some ⟨lq, 0, none⟩) m lc));rw [hQ6, hV6e, <- hw6] at hV6;rw [<- hw6] at hb6
       have hQ6r : Q6.row = R'.pop.row := by rw [<- hQ6]
       have hQ6t : Q6.top = R'.pop.top := by rw [<- hQ6]; rfl
       have hQ6n : Q6.row ≠ [] := by rw [hQ6r]; exact Hpe.out
       have hT6 := hV6.topAt hQ6n (v := v5) (s := s5) (by rw [<- hV6e]; exact hv5) (by rw [<- hV6e]; exact hrvp);have hV7 := hV6.setFr hT6 (by rw [<- hV6e]; exact hv5) (x' := { Q6.top with ends := true }) (v' := v5) (j := 6) (u := .bool true) (by omega) rfl rfl (by obtain ⟨_, v2, _, _, e, _, e2⟩ := hV6.top_eq hQ6n; rw [<- hV6e] at e; rw [show V4.fv = v5 :: s5 from hv5] at e; injection e with e _; rw [e]; exact e2);have hb7 := hb6.setCell (p := ⟨g, p * 9 + 6, none⟩) hT6.le (.bool true);obtain ⟨Q7, hQ7⟩ := mn (Q6.setTop { Q6.top with ends := true } : RunD);obtain ⟨V7, hV7e⟩ := mn (({ V6 with fv := v5 :: s5 } : RunV) : RunV);obtain ⟨w7, hw7⟩ := nm (w6.setCell ⟨g, p * 9 + 6, none⟩ (.bool true));rw [hQ7, hV7e, <- hw7] at hV7;rw [<- hw7] at hb7
       have hQ7n : Q7.row ≠ [] := by rw [<- hQ7]; exact (setTop_row _).1
       have hQ7t : Q7.top = { R'.pop.top with ends := true } := by rw [<- hQ7, (setTop_row _).2, hQ6t]
       have hT7 := hV7.topAt hQ7n (v := v5) (s := s5) (by rw [<- hV7e]) (by rw [<- hV7e, <- hV6e]; exact hrvp);have hV8 := hV7.setFr hT7 (by rw [<- hV7e]) (x' := { Q7.top with ret := 0 }) (v' := v5) (j := 7) (u := .int .u64 0) (by omega) rfl rfl (by obtain ⟨_, v2, _, _, e, _, e2⟩ := hV7.top_eq hQ7n; rw [<- hV7e] at e; injection e with e _; rw [e]; exact e2);have hb8 := hb7.setCell (p := ⟨g, p * 9 + 7, none⟩) hT7.le (.int .u64 0);obtain ⟨Q8, hQ8⟩ := mn (Q7.setTop { Q7.top with ret := 0 } : RunD);obtain ⟨V8, hV8e⟩ := mn (({ V7 with fv := v5 :: s5 } : RunV) : RunV);obtain ⟨w8, hw8⟩ := nm (w7.setCell ⟨g, p * 9 + 7, none⟩ (.int .u64 0));rw [hQ8, hV8e, <- hw8] at hV8;rw [<- hw8] at hb8
       have hQ8n : Q8.row ≠ [] := by rw [<- hQ8]; exact (setTop_row _).1
       have hQ8t : Q8.top = { R'.pop.top with ends := true, ret := 0 } := by rw [<- hQ8, (setTop_row _).2, hQ7t]
       have hT8 := hV8.topAt hQ8n (v := v5) (s := s5) (by rw [<- hV8e]) (by rw [<- hV8e, <- hV7e, <- hV6e]; exact hrvp);have f66 := hT6.f6;have f6f := hT6.fz (p * 9 + 6);have f77 := hT7.f7;have f7f := hT7.fz (p * 9 + 7);obtain ⟨HV5, Hb5, H5, Htop, Hpp, Hcc, Hu2, Hz⟩ := hd8 hV5 hb5 h5 htop hpp hcc hu2 hz;obtain ⟨Hm, HL, HLm, Hlast, HRl, HRn, Hlo, Hlv⟩ := hd8 hm hL hLm hlast hRl hRn hlo hlv;obtain ⟨Hcell, Hz2, Hv5, HT5, Hrv4, Hrvp, Hcut, Hlb⟩ := hd8 hcell hz2 hv5 hT5 hrv4 hrvp hcut hlb;obtain ⟨HV6, Hb6, HQ6, HV6e, HQ6r, HQ6t, HQ6n, HT6⟩ := hd8 hV6 hb6 hQ6 hV6e hQ6r hQ6t hQ6n hT6;obtain ⟨HV7, Hb7, HQ7, HV7e, HQ7n, HQ7t, HT7, HV8⟩ := hd8 hV7 hb7 hQ7 hV7e hQ7n hQ7t hT7 hV8;obtain ⟨Hb8, HQ8, HV8e, HQ8n, HQ8t, HT8, Hw5⟩ := hd7 hb8 hQ8 hV8e hQ8n hQ8t hT8 hw5;clear hw5 hT8 hQ8t hQ8n hV8e hQ8 hb8 hV8 hT7 hQ7t hQ7n hV7e hQ7 hb7 hV7 hT6 hQ6n hQ6t hQ6r hV6e hQ6 hb6 hV6 hlb hcut hrvp hrv4 hT5 hv5 hz2 hcell hlv hlo hRn hRl hlast hLm hL hm hz hu2 hcc hpp htop h5 hb5 hV5;go_upto_region 15 with fail;rw [<- hw6];have Hw6 := Lib.hid hw6;clear hw6;clear e4 e4f p1 k2q k7q;go_upto_region 16 with fail;rw [<- hw7];have Hw7 := Lib.hid hw7;clear hw7;clear f66 f6f;go_upto_region 17 with fail;rw [<- hw8];have Hw8 := Lib.hid hw8;clear hw8;clear f77 f7f;obtain ⟨f, i, gg, x, hst, hgm, hxm⟩ := stand_of Hg.out Hpp.out Hpe.out;obtain ⟨GA, gc, hgv, _, _⟩ := H.out.gs.slice;have hgs := H.out.gs.below (Hb8.out.mono H.out.le);rw [hgv] at hgs;obtain ⟨ad, _, _, _, _, hAd, hfl, hM⟩ := GraphsAt.at_ hgs hst.gr;subst hAd;obtain ⟨FN, hFN⟩ := mn (X.gs.length);have d0 : w8.cell? ⟨X.rp, 0, none⟩ = some X.gv := HV8.out.blk.cell 0;rw [hgv, hFN] at d0;rw [hFN] at hfl
       have hfi : (f : Int) < FN := by omega
       have m5 := hM.c5;have f0 := HT8.out.f0;have f4 := HT8.out.f4;have f7 := HT8.out.f7;have f7f := HT8.out.fz (p * 9 + 7);rw [HQ8t.out] at f0 f7
       replace f0 : w8.cell? ⟨g, p * 9, none⟩ = some (.int .i64 (f : Int)) := by rw [f0]; show some (Value.int .i64 R'.pop.top.f) = _; rw [hst.fr]
       replace f7 : w8.cell? ⟨g, p * 9 + 7, none⟩ = some (.int .u64 0) := f7
       have hcv := HT8.out.cv;rw [HQ8t.out] at hcv;obtain ⟨CA5, cc5, hcve, _⟩ := own_any hcv;obtain ⟨CN, hCN⟩ := mn (R'.pop.top.cells.length)
       replace hcve : v5.cv = .slice CA5 CN cc5 := by rw [hcve]; show Value.slice CA5 R'.pop.top.cells.length cc5 = _; rw [hCN]
       replace hcv : w8.ownsRow base 34 1 v5.cv CN (u64s R'.pop.top.cells) := by rw [<- hCN]; exact hcv
       rw [hcve] at f4 hcv
       have hgA : gAt X.gs R'.pop.top.f = gg := by
        unfold gAt;rw [hst.fr, Int.toNat_natCast, List.getD_eq_getElem?_getD, hst.gr]; rfl
       have hptop := Hpp.out.top Hpe.out
       have hCg : CN = gg.cells.toNat := by rw [<- hCN, hptop.cells.1, hgA]
       have hkc := Hg.out.keep gg hgm;obtain ⟨kp, hkp⟩ := mn (gg.keep);rw [hkp] at m5 hkc;obtain ⟨T, hTe⟩ := mn (({ R'.pop with list := R'.list.dropLast } : RunD).setTop { R'.pop.top with ends := true, ret := keepOf X.gs R'.pop.top } : RunD)
       have hTu : T.settle X.gs n' = U := by rw [<- hTe]; exact Hu2.out
       have hdl : R'.list.dropLast = l1 := by rw [Hz.out]; simp
       have hTQ : ∀ rv, keepOf X.gs R'.pop.top = rv -> T = Q8.setTop { Q8.top with ret := rv } := fun rv hrv => by
        rw [<- hTe, hrv, hdl, HQ8t.out, <- HQ8.out, <- HQ7.out, <- HQ6.out]; rfl
       have hokd : RunOk X.gs 0 ({ R'.pop with list := R'.list.dropLast } : RunD) := { Hpp.out with list := ⟨by
        show R'.list.dropLast.length = twos R'.pop.row + 0;have h1 : R'.pop.list.length = twos R'.pop.row + (0 + 1) := Hpp.out.list.1;have h2 : R'.pop.list = R'.list := rfl;rw [h2] at h1
        rw [List.length_dropLast]; omega, fun y hy => Hpp.out.list.2 y (List.dropLast_subset _ hy)⟩ }
       have hokT : RunOk X.gs 0 T := by
        rw [<- hTe];exact hokd.setTop Hpe.out { hptop with ret := keep_u64 hptop } rfl
       have hTn : T.row ≠ [] := by rw [<- hTe]; exact (setTop_row _).1
       have hTl : T.row.length = n' := by
        rw [<- hTe];show R'.pop.row.tail.length + 1 = n';rw [List.length_tail, Hrt.out]; have := Hpn.out; omega
       have hTz : Sz N T := by
        have h1 : Sz N ({ R'.pop with list := R'.list.dropLast } : RunD) := ⟨Hsp.out.row, by show R'.list.dropLast.length <= N; rw [List.length_dropLast]; have : R'.list.length <= N := Hsp.out.list; omega, Hsp.out.waits⟩
        rw [<- hTe];exact setTop_sz h1 Hpe.out (Nat.le_refl _)
       have hTk : T.endK = 0 := by rw [<- hTe]; exact Hpk.out
       have hkO : keepOf X.gs R'.pop.top = if 0 <= kp then R'.pop.top.cells.getD kp.toNat 0 else 0 := by
        unfold keepOf;rw [hgA, hkp]
       obtain ⟨Hst, Hgm, Hxm, Hgv, Hgs, HM, HFN, Hcve⟩ := hd8 hst hgm hxm hgv hgs hM hFN hcve;obtain ⟨HCN, HgA, Hptop, HCg, Hkp, HTe, HTu, Hdl⟩ := hd8 hCN hgA hptop hCg hkp hTe hTu hdl;obtain ⟨HTQ, Hokd, HokT, HTn, HTl, HTz, HTk⟩ := hd7 hTQ hokd hokT hTn hTl hTz hTk;clear hTk hTz hTl hTn hokT hokd hTQ hdl hTu hTe hkp hCg hptop hgA hCN hcve hFN hM hgs hgv hxm hgm hst
       go_quiet (fail)
       have hV9 := HV8.out.drewN nq;have hb9 := below_drewN Hb8.out nq;have f4q : (w8.drewN nq).cell? ⟨g, p * 9 + 4, none⟩ = some (.slice CA5 CN cc5) := f4;have f7q : (w8.drewN nq).cell? ⟨g, p * 9 + 7, none⟩ = some (.int .u64 0) := f7;have f7fq : (w8.drewN nq).frozen? ⟨g, p * 9 + 7, none⟩ = false := f7f;have hcvq : (w8.drewN nq).ownsRow base 34 1 (.slice CA5 CN cc5) CN (u64s R'.pop.top.cells) := hcv;obtain ⟨w9, hw9⟩ := nm (w8.drewN nq);rw [<- hw9] at hV9 hb9 f4q f7q f7fq hcvq ⊢;clear d0 m5 f0 f4 f7 f7f hcv
       by_cases hk0 : 0 <= kp
       ·obtain ⟨k, rfl⟩ : ∃ k : Nat, kp = k := ⟨kp.toNat, by omega⟩
        have hkl : k < CN := by have := HCg.out; omega
        have hki : (k : Int) < CN := by omega
        obtain ⟨_, cq, hCA, _, _, hcl2⟩ := own_row hcvq (by omega);subst hCA;have hkc2 := hcl2 k _ (u64s_get R'.pop.top.cells k (by rw [HCN.out]; exact hkl));rw [addr_zero] at hkc2;obtain ⟨kv, hkv2⟩ := mn (R'.pop.top.cells.getD k 0);rw [hkv2] at hkc2;rw [if_pos hk0, Int.toNat_natCast, hkv2] at hkO;have hT9 := hV9.topAt HQ8n.out (v := v5) (s := s5) (by rw [<- HV8e.out]) (by rw [<- HV8e.out, <- HV7e.out, <- HV6e.out]; exact Hrvp.out);have hVf := hV9.setFr hT9 (by rw [<- HV8e.out]) (x' := { Q8.top with ret := kv }) (v' := v5) (j := 7) (u := .int .u64 kv) (by omega) rfl rfl (by obtain ⟨_, v2, _, _, e, _, e2⟩ := hV9.top_eq HQ8n.out; rw [<- HV8e.out] at e; injection e with e _; rw [e]; exact e2);have hbf := hb9.setCell (p := ⟨g, p * 9 + 7, none⟩) hT9.le (.int .u64 kv);rw [<- HTQ.out kv hkO] at hVf;have hfin := Hrd.out _ _ (show RunAt (w9.setCell ⟨g, p * 9 + 7, none⟩ (.int .u64 kv)) base X T rest1 from ⟨H.out.le, H.out.gs.below (hbf.mono H.out.le), _, hVf⟩);obtain ⟨HV9, Hb9, Hw9, Hcvq, Hcl2, HkO, HT9, HVf⟩ := hd8 hV9 hb9 hw9 hcvq hcl2 hkO hT9 hVf;obtain ⟨Hbf, Hfin, Hkv2⟩ := hd3 hbf hfin hkv2;clear hkv2 hfin hbf hVf hT9 hkO hcl2 hcvq hw9 hb9 hV9;go_wp2_with fail
        go_roundg n'
        case measure => omega
        case rel => exact Lib.hid ⟨T, Hfin.out, Hbf.out, HokT.out, HTn.out, HTl.out, HTz.out, HTk.out, HTu.out⟩
       ·rw [if_neg hk0] at hkO
        have hT8e : Q8.setTop { Q8.top with ret := 0 } = Q8 := by
         rw [HQ8t.out, <- HQ8.out, HQ7t.out]; rfl
        have hT8q := HTQ.out 0 hkO;rw [hT8e] at hT8q;have hfin := Hrd.out _ _ (show RunAt w9 base X Q8 rest1 from ⟨H.out.le, H.out.gs.below (hb9.mono H.out.le), _, hV9⟩);rw [<- hT8q] at hfin;obtain ⟨HV9, Hb9, Hw9, Hcvq, HkO, HT8e, HT8q, Hfin⟩ := hd8 hV9 hb9 hw9 hcvq hkO hT8e hT8q hfin;clear hfin hT8q hT8e hkO hcvq hw9 hb9 hV9;go_wp2_with fail
        go_roundg n'
        case measure => omega
        case rel => exact Lib.hid ⟨T, Hfin.out, Hb9.out, HokT.out, HTn.out, HTl.out, HTz.out, HTk.out, HTu.out⟩
   ·rw [hnx] at hcall hu0;dsimp only at hu0;obtain ⟨HR0, Hb0, Hw0, Hcall, Hnx, Hu0⟩ := hd6 hR0 hb0 hw0 hcall hnx hu0;clear hu0 hnx hcall hw0 hb0 hR0;go_wp2_with fail;refine Hcall.out.mono ?_;rintro e w1 ⟨rfl, h1, hb1⟩;rw [Hu0.out] at h1;have hfin := Hb0.out.trans hb1;obtain ⟨H1, Hb1, Hfin⟩ := hd3 h1 hb1 hfin;clear hfin hb1 h1;go_wp2_with fail;go_end0;exact ⟨rfl, H1.out, Hfin.out⟩
end
end Go.Proofs.Ytncpehhfjkncoaa
