/- Walk of the run's unwinding. Conditions: the run lies in memory, its graphs are right. Walk of a panic's beginning. Conditions: the run lies in memory, its graphs are right. -/
import Derived.Test.YtncpehhfjkncoaaPlAA
import Derived.Test.YtncpehhfjkncoaaPlAT
set_option linter.unusedVariables false
set_option linter.unusedSimpArgs false
set_option maxRecDepth 100000
set_option maxHeartbeats 16000000
namespace Go.Proofs.Ytncpehhfjkncoaa
open Go.RowKit

theorem infoPanic : (Try.prog.info? 96).map (fun i => (i.zero, i.size, i.bytes)) = some (some (.agg #[.int .u64 0, .bool false]), 2, 16) := by kernel_rfl
section
variable {w : World} {base : Nat} {X : RunX} {R : RunD} {rest : List It} {q N : Nat}
theorem pan_app (l : List (Int × Bool)) (p : Int × Bool) : panCells (l ++ [p]) = panCells l ++ [.int .u64 p.1, .bool p.2] := by
 unfold panCells;rw [List.flatMap_append]; rfl
theorem len_pan (l : List (Int × Bool)) : (panCells l).length = l.length * 2 := by
 unfold panCells
 induction l with
 | nil => rfl
 | cons x l ih => rw [List.flatMap_cons, List.length_append, ih]; show 2 + _ = (l.length + 1) * 2; omega
theorem RunIn.lv_ne {V : RunV} (h : RunIn w base X R V rest) : some X.rp ≠ V.lv.ownBlock /\ ∀ x ∈ rest, ∀ b, x.block = some b -> some b ≠ V.lv.ownBlock := by
 refine ⟨h.its.ne_row (i := 0) (j := 3) rfl rfl (by omega), fun x hx b hb e => ?_⟩;obtain ⟨k, hk⟩ := List.getElem?_of_mem hx
 have hl : 6 <= (runIts X V R).length := by unfold runIts; simp only [List.length_cons]; omega
 have h2 : (runIts X V R ++ rest)[(runIts X V R).length + k]? = some x := by rw [List.getElem?_append_right (by omega), Nat.add_sub_cancel_left]; exact hk
 exact h.its.apart ((runIts X V R).length + k) 3 x _ (by omega) h2 rfl b hb e.symm
theorem grown_drew {w w' : World} {row : Option Nat} (h : w.drew.grownBy w' row) : w.grownBy w' row := ⟨h.os, h.tape, h.output, h.size, h.block⟩
theorem snoc_of {α : Type} {l : List α} (h : 0 < l.length) : ∃ l' z, l = l' ++ [z] :=
 ⟨l.dropLast, l.getLast (List.length_pos_iff.mp h), (List.dropLast_concat_getLast _).symm⟩
/-- behind the going of the last frame -/
def outR (R : RunD) : RunD := if R.top.why = 2 then { R.pop with list := R.list.dropLast.dropLast ++ [R.last] } else R.pop
theorem out_ok {gs : List GraphD} (h : RunOk gs 1 R) (hne : R.row ≠ []) (sz : Sz N R) : RunOk gs 1 (outR R) /\ (outR R).row = R.row.tail /\ Sz N (outR R) /\ (R.top.why = 2 -> 2 <= R.list.length) := by
 obtain ⟨hp, _⟩ := h.pop hne
 have hwt : R.pop.waiting <= R.waiting := by
  unfold RunD.waiting RunD.pop
  rcases R.row with _ | ⟨x, r⟩
  ·exact Nat.le_refl _
  ·simp
 have hsp : Sz N R.pop := ⟨by show R.row.tail.length <= N; rw [List.length_tail]; have := sz.row; omega, sz.list, Nat.le_trans hwt sz.waits⟩
 unfold outR
 by_cases h2 : R.top.why = 2
 ·rw [if_pos h2] at hp ⊢;have hz : R.list.length = twos R.pop.row + (1 + 1) := hp.list.1
  have hll : R.list ≠ [] := fun e => by rw [e] at hz; simp at hz
  have hln : (R.list.dropLast.dropLast ++ [R.last]).length = R.list.length - 1 := by
   rw [List.length_append, List.length_dropLast, List.length_dropLast, List.length_singleton]; omega
  refine ⟨{ hp with list := ⟨?_, ?_⟩ }, rfl, ⟨hsp.row, ?_, hsp.waits⟩, fun _ => by omega⟩
  ·show (R.list.dropLast.dropLast ++ [R.last]).length = twos R.pop.row + 1;rw [hln]; omega
  ·intro p hpm
   rcases List.mem_append.mp hpm with hpm | hpm
   ·exact h.list.2 p (List.dropLast_subset _ (List.dropLast_subset _ hpm))
   ·rw [List.mem_singleton.mp hpm];exact h.list.2 _ (last_in hll)
  ·show (R.list.dropLast.dropLast ++ [R.last]).length <= N;rw [hln];have := sz.list
   omega
 ·rw [if_neg h2] at hp ⊢;exact ⟨hp, rfl, hsp, fun e => absurd e h2⟩
theorem unwind_any (hg : GsW X.gs) (h : RunAt w base X R rest) (ok : RunOk X.gs 1 R) (hne : R.row ≠ []) (sz : Sz N R) (hN : N <= 1000000) :
  Calls Try.prog 47 #[.pointer (some ⟨X.rp, 0, none⟩)] w fun e w' => RunGot base X rest w (.tuple #[]) (R.unwind X.gs R.row.length) e w' := by
 obtain ⟨iP, hiP, pz0, pz1, pz2⟩ := info_parts infoPanic;obtain ⟨M, hM⟩ := mn (R.row.length);obtain ⟨U, hU⟩ := mn (R.unwind X.gs R.row.length);rw [hU];rw [hM] at hU;have hbr := Below.refl base w;obtain ⟨Hg, H, Hok, Hne, Hsz, HM, HU, Hbr⟩ := hd8 hg h ok hne sz hM hU hbr;clear hbr hU hM sz hne ok h hg;go_enter Try.func47, Try.ntmps47;go_upto_region 0 with fail
 go_loopg [] M (fun gk wr => Hid (∃ R' : RunD, RunAt wr base X R' rest /\ Below base w wr /\ RunOk X.gs 1 R' /\ R'.row ≠ [] /\ R'.row.length = gk /\ Sz N R' /\ R'.unwind X.gs gk = U))
 case atStart => exact Lib.hid ⟨R, H.out, Hbr.out, Hok.out, Hne.out, HM.out, Hsz.out, HU.out⟩
 case round =>
  obtain ⟨R', hR, hbw, hok, hrn, hrl, hsz, hu⟩ := hrel.out;clear hrel;have hcall := qnext_any Hg.out hR hok hrn hsz hN 2
  obtain ⟨n, hn⟩ : ∃ n, gk = n + 1 := ⟨gk - 1, by have := List.length_pos_iff.mpr hrn; omega⟩
  subst hn;have hrN := hsz.row
  rcases hnx : R'.next X.gs 2 with _ | R''
  ·rw [hnx] at hcall;unfold RunD.unwind at hu;rw [hnx] at hu;dsimp only at hu;obtain ⟨HR, Hbw, Hok, Hrn, Hsz, Hu, Hcall, Hnx⟩ := hd8 hR hbw hok hrn hsz hu hcall hnx;clear hnx hcall hu hsz hrn hok hbw hR;go_wp2_with fail;refine Hcall.out.mono ?_;rintro e w1 ⟨rfl, h1, hb1⟩;have hbw1 := Hbw.out.trans hb1;obtain ⟨V1, hV1⟩ := h1.run;obtain ⟨g, c, n', v, s, hv, hT⟩ := hV1.top Hrn.out
   obtain rfl : n' = n := by have := hT.len; omega
   obtain ⟨f0, f1, f2, f3, f4, f5, f6, f7, f8⟩ : _ /\ _ /\ _ /\ _ /\ _ /\ _ /\ _ /\ _ /\ _ := ⟨hT.f0, hT.f1, hT.f2, hT.f3, hT.f4, hT.f5, hT.f6, hT.f7, hT.f8⟩
   obtain ⟨PA, pc, hpv, _⟩ := own_any hT.pv;obtain ⟨CA, cc, hcv, _⟩ := own_any hT.cv;obtain ⟨WA, wc, hwv, _⟩ := own_any hT.wv;obtain ⟨KA, kc, hkv, _⟩ := own_any hT.kv;obtain ⟨pn, hpn⟩ := mn (R'.top.places.length);obtain ⟨cn, hcn⟩ := mn (R'.top.cells.length);obtain ⟨wn, hwn⟩ := mn (R'.top.waits.length);obtain ⟨kn, hkn⟩ := mn (R'.top.kept.length);rw [hpv, hpn] at f3;rw [hcv, hcn] at f4;rw [hwv, hwn] at f5;rw [hkv, hkn] at f8;obtain ⟨xf, hxf⟩ := mn (R'.top.f);obtain ⟨xa, hxa⟩ := mn (R'.top.at_);obtain ⟨xw, hxw⟩ := mn (R'.top.why);obtain ⟨xe, hxe⟩ := mn (R'.top.ends);obtain ⟨xr, hxr⟩ := mn (R'.top.ret);rw [hxf] at f0;rw [hxa] at f1;rw [hxw] at f2;rw [hxe] at f6;rw [hxr] at f7
   have b3 : w1.cell? ⟨X.rp, 3, none⟩ = some (.slice (some ⟨g, 0, none⟩) (n' + 1) c) := by
    have := hV1.blk.cell 3;rw [this, <- hT.rv]; rfl
   have hn1 : IntKind.i64.wrap (n' : Int) = n' := by rw [IntKind.wrap_i64]; omega
   have hn2 : (n' : Int) < n' + 1 := by omega
   have hcap : n' <= c := by have := hT.cap.1; omega
   have lrp := hV1.blk.lt;have lg := hT.lt
   have hS : ∀ W : World, (∀ p : Addr, p.block < w1.heap.size -> W.cell? p = w1.cell? p) -> W.cell? ⟨X.rp, 3, none⟩ = some (.slice (some ⟨g, 0, none⟩) (n' + 1) c) /\ W.cell? ⟨g, n' * 9, none⟩ = some (.int .i64 xf) /\ W.cell? ⟨g, n' * 9 + 1, none⟩ = some (.int .i64 xa) /\ W.cell? ⟨g, n' * 9 + 2, none⟩ = some (.int .i64 xw) /\ W.cell? ⟨g, n' * 9 + 3, none⟩ = some (.slice PA pn pc) /\ W.cell? ⟨g, n' * 9 + 4, none⟩ = some (.slice CA cn cc) /\ W.cell? ⟨g, n' * 9 + 5, none⟩ = some (.slice WA wn wc) /\ W.cell? ⟨g, n' * 9 + 6, none⟩ = some (.bool xe) /\ W.cell? ⟨g, n' * 9 + 7, none⟩ = some (.int .u64 xr) /\ W.cell? ⟨g, n' * 9 + 8, none⟩ = some (.slice KA kn kc) :=
    fun W hW => ⟨(hW _ lrp).trans b3, (hW _ lg).trans f0, (hW _ lg).trans f1, (hW _ lg).trans f2, (hW _ lg).trans f3, (hW _ lg).trans f4, (hW _ lg).trans f5, (hW _ lg).trans f6, (hW _ lg).trans f7, (hW _ lg).trans f8⟩
   have hS1 := hS w1 fun _ _ => rfl
   clear f0 f1 f2 f3 f4 f5 f6 f7 f8 b3;obtain ⟨H1, Hb1, Hbw1, HV1, Hv, HT, Hpv, Hcv⟩ := hd8 h1 hb1 hbw1 hV1 hv hT hpv hcv;obtain ⟨Hwv, Hkv, Hpn, Hcn, Hwn, Hkn, Hxf, Hxa⟩ := hd8 hwv hkv hpn hcn hwn hkn hxf hxa;obtain ⟨Hxw, Hxe, Hxr, HS⟩ := hd4 hxw hxe hxr hS;clear hS hxr hxe hxw hxa hxf hkn hwn hcn hpn hkv hwv hcv hpv hT hv hV1 hbw1 hb1 h1;go_upto_region 1 with fail;refine wp_region_late (S := fun W => W.cell? ⟨X.rp, 3, none⟩ = some (.slice (some ⟨g, 0, none⟩) (n' + 1) c) /\ W.cell? ⟨g, n' * 9, none⟩ = some (.int .i64 xf) /\ W.cell? ⟨g, n' * 9 + 1, none⟩ = some (.int .i64 xa) /\ W.cell? ⟨g, n' * 9 + 2, none⟩ = some (.int .i64 xw) /\ W.cell? ⟨g, n' * 9 + 3, none⟩ = some (.slice PA pn pc) /\ W.cell? ⟨g, n' * 9 + 4, none⟩ = some (.slice CA cn cc) /\ W.cell? ⟨g, n' * 9 + 5, none⟩ = some (.slice WA wn wc) /\ W.cell? ⟨g, n' * 9 + 6, none⟩ = some (.bool xe) /\ W.cell? ⟨g, n' * 9 + 7, none⟩ = some (.int .u64 xr) /\ W.cell? ⟨g, n' * 9 + 8, none⟩ = some (.slice KA kn kc)) #[false, false, false, false, false, false, false, false, false, false, false, false, false, true] (by kernel_rfl) hS1 (fun hHeld => ?_);refine wpAnyL_tk 0 ?_;refine wpAnyL_tk 1 ?_;refine wpAnyL_tk 2 ?_;refine wpAnyL_tk 3 ?_;refine wpAnyL_tk 4 ?_;refine wpAnyL_tk 5 ?_;refine wpAnyL_tk 6 ?_;refine wpAnyL_tk 7 ?_;refine wpAnyL_tk 8 ?_;refine wpAnyL_tk 9 ?_;refine wpAnyL_tk 10 ?_;refine wpAnyL_tk 11 ?_;refine wpAnyL_rd 12 (fun K hK => ?_);go_simp;refine hK.out _ _ (HS.out _ fun p hp => World.cell?_alloc_lt _ _ p hp) (fun hHeld2 => ?_);clear hK K hHeld;refine lay ?_;refine wpAnyL_ls 13 (fun K hK => ?_);go_simp;refine hK.out _ _ ?_;clear hK K;refine lay ?_;refine wpAnyL_done (by kernel_rfl) ?_ _;have hV2 := (HV1.out.box 82 #[.int .i64 xf, .int .i64 xa, .int .i64 xw, .slice PA pn pc, .slice CA cn cc, .slice WA wn wc, .bool xe, .int .u64 xr, .slice KA kn kc]).drew;have hb2 := (Hbw1.out.alloc HV1.out.size_.2 (.cells #[.int .i64 xf, .int .i64 xa, .int .i64 xw, .slice PA pn pc, .slice CA cn cc, .slice WA wn wc, .bool xe, .int .u64 xr, .slice KA kn kc] 82)).drew;obtain ⟨w2, hw2⟩ := nm ((w1.alloc (.cells #[.int .i64 xf, .int .i64 xa, .int .i64 xw, .slice PA pn pc, .slice CA cn cc, .slice WA wn wc, .bool xe, .int .u64 xr, .slice KA kn kc] 82)).drew);obtain ⟨FB, hFB⟩ := mn (w1.heap.size);rw [<- hw2] at hV2 hb2 ⊢;rw [hFB] at hV2 ⊢;clear hHeld2 hS1;have hT2 := hV2.topAt Hrn.out Hv.out HT.out.rv
   have b3 : w2.cell? ⟨X.rp, 3, none⟩ = some (.slice (some ⟨g, 0, none⟩) (n' + 1) c) := by
    have := hV2.blk.cell 3;rw [this, <- HT.out.rv]; rfl
   have b3f := hV2.blk.frozen 3;have hV3 := hV2.popSet hT2 Hv.out;have hb3 := hb2.setCell (p := ⟨X.rp, 3, none⟩) hV2.size_.1 (.slice (some ⟨g, 0, none⟩) n' c);obtain ⟨HV2, Hb2, Hw2, HFB, HT2, HV3, Hb3⟩ := hd7 hV2 hb2 hw2 hFB hT2 hV3 hb3;clear hb3 hV3 hT2 hFB hw2 hb2 hV2;go_upto_region 2 with fail;refine wp_region_late (S := fun W => W.cell? ⟨X.rp, 3, none⟩ = some (.slice (some ⟨g, 0, none⟩) (n' + 1) c) /\ W.frozen? ⟨X.rp, 3, none⟩ = false) #[false, false, false, false, false, false, false, false, false, false, false, false, false, false, true] (by kernel_rfl) ⟨b3, b3f⟩ (fun hHeld => ?_);refine wpAnyL_tk 0 ?_;refine wpAnyL_tk 1 ?_;refine wpAnyL_tk 2 ?_;refine wpAnyL_tk 3 ?_;refine wpAnyL_tk 4 ?_;refine wpAnyL_tk 5 ?_;refine wpAnyL_tk 6 ?_;refine wpAnyL_tk 7 ?_;refine wpAnyL_tk 8 ?_;refine wpAnyL_tk 9 ?_;refine wpAnyL_tk 10 ?_;refine wpAnyL_tk 11 ?_;refine wpAnyL_tk 12 ?_;refine wpAnyL_tk 13 ?_;refine wpAnyL_ls 14 (fun K hK => ?_);go_simp;refine hK.out _ _ ?_;clear hK K;refine lay ?_;refine wpAnyL_done (by kernel_rfl) ?_ _;clear b3 b3f hHeld;have hV4 := HV3.out.drew;have hb4 := Hb3.out.drew;obtain ⟨w4, hw4⟩ := nm ((w2.setCell ⟨X.rp, 3, none⟩ (.slice (some ⟨g, 0, none⟩) n' c)).drew);rw [<- hw4] at hV4 hb4 ⊢;obtain ⟨V4, hV4e⟩ := mn (({ V1 with rv := .slice (some ⟨g, 0, none⟩) n' c, fv := s } : RunV));rw [hV4e] at hV4;obtain ⟨rest1, hrest1⟩ := nm (It.blk FB 82 #[.int .i64 xf, .int .i64 xa, .int .i64 xw, .slice PA pn pc, .slice CA cn cc, .slice WA wn wc, .bool xe, .int .u64 xr, .slice KA kn kc] :: rest);rw [<- hrest1] at hV4;have hFBk : Blk w4 FB 82 #[.int .i64 xf, .int .i64 xa, .int .i64 xw, .slice PA pn pc, .slice CA cn cc, .slice WA wn wc, .bool xe, .int .u64 xr, .slice KA kn kc] := (hV4.its.each (.blk FB 82 #[.int .i64 xf, .int .i64 xa, .int .i64 xw, .slice PA pn pc, .slice CA cn cc, .slice WA wn wc, .bool xe, .int .u64 xr, .slice KA kn kc]) (List.mem_append_right _ (by rw [hrest1]; exact List.mem_cons_self))).2;have k2 := bc hFBk 2;obtain ⟨LA, lc, hlv, _⟩ := own_any hV4.list;have b4 : w4.cell? ⟨X.rp, 4, none⟩ = some V4.lv := hV4.blk.cell 4;rw [hlv] at b4;obtain ⟨L, hL⟩ := mn (R'.list.length)
   replace b4 : w4.cell? ⟨X.rp, 4, none⟩ = some (.slice LA L lc) := by rw [b4, <- hL]; rfl
   have hLN : L <= 1000000 := by have := Hsz.out.list; omega
   obtain ⟨ho1, ho2, ho3, ho4⟩ := out_ok Hok.out Hrn.out Hsz.out
   have hrt : R'.row.tail.length = n' := by rw [List.length_tail]; omega
   have hv4 : V4.rv = .slice (some ⟨g, 0, none⟩) n' c := by rw [<- hV4e]
   obtain ⟨HV4, Hb4, Hw4, HV4e, Hrest1, HFBk, Hlv, HL⟩ := hd8 hV4 hb4 hw4 hV4e hrest1 hFBk hlv hL;obtain ⟨Ho1, Ho2, Ho3, Ho4, Hrt, Hv4⟩ := hd6 ho1 ho2 ho3 ho4 hrt hv4;clear hv4 hrt ho4 ho3 ho2 ho1 hL hlv hFBk hrest1 hV4e hw4 hb4 hV4
   go_upto_if 41 with fail
   go_cut [4] from 41 to 62 (fun _ wx => RunAt wx base X (outR R') rest /\ Below base w wx)
   case first =>
    by_cases hx2 : xw = 2
    ·have hxb : (xw == 2) = true := by simpa using hx2
     have hl2 := Ho4.out (by rw [Hxw.out]; exact hx2);obtain ⟨l1, z2, he1⟩ := snoc_of (l := R'.list) (by omega);obtain ⟨ll, z1, he2⟩ := snoc_of (l := l1) (by rw [he1, List.length_append, List.length_singleton] at hl2; omega);rw [he2] at he1;obtain ⟨m, hm⟩ := mn (ll.length)
     have hL2 : L = m + 2 := by rw [<- HL.out, he1]; simp [hm]
     have hlo := HV4.out.list;rw [Hlv.out] at hlo;have hRl : R'.pop.list = ll ++ [z1] ++ [z2] := he1;have hRn : R'.pop.list.length = L := HL.out;rw [hRn, hRl] at hlo;obtain ⟨_, lq, hLA, _, _, hcell⟩ := own_row hlo (by omega);subst hLA
     have hpl : (panCells (ll ++ [z1])).length = (m + 1) * 2 := by rw [len_pan, List.length_append, hm]; rfl
     have p0 := hcell ((m + 1) * 2) (.int .u64 z2.1) (by rw [pan_app, List.getElem?_append_right (by omega), show (m + 1) * 2 - (panCells (ll ++ [z1])).length = 0 by omega]; rfl);have p1 := hcell ((m + 1) * 2 + 1) (.bool z2.2) (by rw [pan_app, List.getElem?_append_right (by omega), show (m + 1) * 2 + 1 - (panCells (ll ++ [z1])).length = 1 by omega]; rfl);rw [addr_zero] at p0 p1
     have hw1 : IntKind.i64.wrap ((L : Int) - 1) = ((m + 1 : Nat) : Int) := by rw [IntKind.wrap_i64]; omega
     have hw2 : IntKind.i64.wrap (m : Int) = m := by rw [IntKind.wrap_i64]; omega
     have hw3 : (L : Int) - 1 = ((m + 1 : Nat) : Int) := by omega
     have hw4 : (L : Int) - 2 = (m : Int) := by omega
     have hi1 : ((m + 1 : Nat) : Int) < L := by omega
     have hi2 : (m : Int) + 1 < L := by omega
     have hmlc : m <= lc := by
      rcases hlo.2 with ⟨_, h0⟩ | ⟨_, _, _, hs, _, _, h1, _⟩
      ·omega
      ·injection hs with _ _ hs; omega
     obtain ⟨y1, hy1⟩ := mn (z2.1);obtain ⟨y2, hy2⟩ := mn (z2.2);rw [hy1] at p0;rw [hy2] at p1;obtain ⟨He1, He2, Hm, Hlo, HRl, HRn, Hcell, Hpl⟩ := hd8 he1 he2 hm hlo hRl hRn hcell hpl;obtain ⟨Hy1, Hy2, Hl2, HL2, Hx2⟩ := hd5 hy1 hy2 hl2 hL2 hx2;clear hx2 hL2 hl2 hy2 hy1 hpl hcell hRn hRl hlo hm he2 he1;go_upto_region 6 with fail;have hV5 := HV4.out.box 96 #[.int .u64 y1, .bool y2];have hb5 := Hb4.out.alloc HV4.out.size_.2 (.cells #[.int .u64 y1, .bool y2] 96);obtain ⟨w5, hw5⟩ := nm (w4.alloc (.cells #[.int .u64 y1, .bool y2] 96));obtain ⟨LB, hLB⟩ := mn (w4.heap.size);rw [<- hw5] at hV5 hb5 ⊢;rw [hLB] at hV5 ⊢
     have e4 : w5.cell? ⟨X.rp, 4, none⟩ = some (.slice (some ⟨lq, 0, none⟩) L lc) := by
      have := hV5.blk.cell 4
      have hlv5 : V4.lv = .slice (some ⟨lq, 0, none⟩) L lc := by rw [Hlv.out, HRn.out]
      rw [this, <- hlv5]; rfl
     have e4f := hV5.blk.frozen 4;have hLBk : Blk w5 LB 96 #[.int .u64 y1, .bool y2] := (hV5.its.each (.blk LB 96 #[.int .u64 y1, .bool y2]) (List.mem_append_right _ List.mem_cons_self)).2;have j0 := bc hLBk 0;have j1 := bc hLBk 1;have lrp5 := hV5.blk.lt;have lLB := hLBk.lt
     have hS2 : ∀ W : World, (∀ p : Addr, p.block < w5.heap.size -> W.cell? p = w5.cell? p) -> W.cell? ⟨X.rp, 4, none⟩ = some (.slice (some ⟨lq, 0, none⟩) L lc) /\ W.cell? ⟨LB, 0, none⟩ = some (.int .u64 y1) /\ W.cell? ⟨LB, 1, none⟩ = some (.bool y2) :=
      fun W hW => ⟨(hW _ lrp5).trans e4, (hW _ lLB).trans j0, (hW _ lLB).trans j1⟩
     have hS3 := hS2 w5 fun _ _ => rfl
     clear e4 j0 j1 p0 p1 b4 k2;obtain ⟨HV5, Hb5, Hw5, HLB, HLBk, HS2⟩ := hd6 hV5 hb5 hw5 hLB hLBk hS2;clear hS2 hLBk hLB hw5 hb5 hV5;refine wp_region_late (S := fun W => W.cell? ⟨X.rp, 4, none⟩ = some (.slice (some ⟨lq, 0, none⟩) L lc) /\ W.cell? ⟨LB, 0, none⟩ = some (.int .u64 y1) /\ W.cell? ⟨LB, 1, none⟩ = some (.bool y2)) #[false, false, false, false, false, false, false, false, false, false, false, false, false, true] (by kernel_rfl) hS3 (fun hHeld => ?_);refine wpAnyL_tk 0 ?_;refine wpAnyL_tk 1 ?_;refine wpAnyL_tk 2 ?_;refine wpAnyL_tk 3 ?_;refine wpAnyL_tk 4 ?_;refine wpAnyL_tk 5 ?_;refine wpAnyL_tk 6 ?_;refine wpAnyL_tk 7 ?_;refine wpAnyL_tk 8 ?_;refine wpAnyL_rd 9 (fun K hK => ?_);go_simp;refine hK.out _ _ (HS2.out _ fun p hp => World.cell?_alloc_lt _ _ p hp) (fun hHeld2 => ?_);clear hK K hHeld;refine lay ?_;have hV6 := HV5.out.alloc (.cells #[.int .u64 y1, .bool y2] 96);have hb6 := Hb5.out.alloc HV5.out.size_.2 (.cells #[.int .u64 y1, .bool y2] 96);have hr6 : Reads (w5.alloc (.cells #[.int .u64 y1, .bool y2] 96)) (w5.heap.size + 1) 2 (some ⟨w5.heap.size, 0, none⟩) 1 [.int .u64 y1, .bool y2] := Reads.newS _ rfl _ _ _ _ _ rfl rfl
     have hlo6 : (w5.alloc (.cells #[.int .u64 y1, .bool y2] 96)).ownsRow base 96 2 (.slice (some ⟨lq, 0, none⟩) m lc) m (panCells ll) := by
      have h1 := hV6.list
      have hlv5 : V4.lv = .slice (some ⟨lq, 0, none⟩) L lc := by rw [Hlv.out, HRn.out]
      rw [hlv5, HRn.out, HRl.out] at h1;have h2 := own_cut h1 (k := m) (by have := HL2.out; omega);rw [pan_app, pan_app, List.append_assoc, cut_list (by rw [len_pan, Hm.out])] at h2;exact h2
     obtain ⟨w6, hw6⟩ := nm (w5.alloc (.cells #[.int .u64 y1, .bool y2] 96));rw [<- hw6] at hV6 hb6 hr6 hlo6 hHeld2 ⊢;obtain ⟨HV6, Hb6, Hr6, Hlo6, Hw6⟩ := hd5 hV6 hb6 hr6 hlo6 hw6;clear hw6 hlo6 hr6 hb6 hV6;refine wpAnyL_rd 10 (fun K hK => ?_);refine step_append_any _ rfl (.tmp 57) (.tmp 59) _ rfl base 96 iP _ 2 16 Try.underlying38 hiP pz0 pz1 pz2 rfl (by omega) (.slice (some ⟨lq, 0, none⟩) m lc) m (panCells ll) rfl Hlo6.out (w5.heap.size + 1) (some ⟨w5.heap.size, 0, none⟩) 1 1 [.int .u64 y1, .bool y2] rfl Hr6.out ?c1 ?c2 ?c3 ?c4 ?_
     case c1 => intro u hu; simp only [List.mem_cons, List.not_mem_nil, or_false] at hu; rcases hu with rfl | rfl <;> rfl
     case c2 => have := HL2.out; simp only [maxLen]; omega
     case c3 => have := HL2.out; omega
     case c4 => exact HV6.out.size_.2
     intro v7 w7 hown7 hg7 hat7
     replace hg7 := grown_drew hg7
     have hlv5 : V4.lv = .slice (some ⟨lq, 0, none⟩) L lc := by rw [Hlv.out, HRn.out]
     have hlb : V4.lv.ownBlock = (Value.slice (some ⟨lq, 0, none⟩) m lc).ownBlock := by rw [hlv5]; rfl
     obtain ⟨hne1, hne2⟩ := HV6.out.lv_ne
     have hpb : panCells ll ++ [Value.int .u64 y1, .bool y2] = panCells (ll ++ [z2]) := by rw [pan_app, Hy1.out, Hy2.out]
     rw [hpb] at hown7;obtain ⟨A7, c7, hv7, _⟩ := own_any hown7;rw [<- hlb] at hg7 hat7
     have hfin := HV6.out.setList (l' := ll ++ [z2]) (by rw [List.length_append, Hm.out]; rfl) hown7 hg7 (by
      rcases hat7 with e | e
      ·exact .inl e
      ·exact .inr fun b hb => by rw [e] at hb; injection hb with hb; have : w6.heap.size = b := hb; omega)
     have hb7 := (Hb6.out.grown hg7 HV6.out.size_.2 (fun b e => (HV6.out.list.lt b e).1)).setCell (p := ⟨X.rp, 4, none⟩) HV6.out.size_.1 v7
     have hlt6 : X.rp < w6.heap.size /\ LB < w6.heap.size := ⟨HV6.out.blk.lt, by rw [Hw6.out]; simp; omega⟩
     have e4 : w7.cell? ⟨X.rp, 4, none⟩ = some (.slice (some ⟨lq, 0, none⟩) L lc) := (hg7.cell_far ⟨X.rp, 4, none⟩ hlt6.1 hne1).trans hHeld2.1;have e4f : w7.frozen? ⟨X.rp, 4, none⟩ = false := (hg7.frozen_far ⟨X.rp, 4, none⟩ hlt6.1 hne1).trans (HV6.out.blk.frozen 4);have hLm := hne2 (.blk LB 96 #[.int .u64 y1, .bool y2]) List.mem_cons_self LB rfl
     have hgL : ∀ i, w7.cell? ⟨LB, i, none⟩ = w6.cell? ⟨LB, i, none⟩ := fun i => hg7.cell_far ⟨LB, i, none⟩ hlt6.2 hLm
     have hout : ({ R'.pop with list := ll ++ [z2] } : RunD) = outR R' := by
      unfold outR RunD.last;rw [if_pos (by rw [Hxw.out]; exact Hx2.out), He1.out];simp
     have hfin2 : RunAt (w7.setCell ⟨X.rp, 4, none⟩ v7) base X (outR R') rest := by
      rw [<- hout]
      have h8 : RunAt (w7.setCell ⟨X.rp, 4, none⟩ v7) base X { R'.pop with list := ll ++ [z2] } _ := ⟨H.out.le, H.out.gs.below (hb7.mono H.out.le), _, hfin⟩
      rw [Hrest1.out] at h8;exact h8.drop.drop
     rw [hv7] at hfin2 hb7 ⊢;refine hK.out _ _ ⟨e4, (hgL 0).trans hHeld2.2.1, (hgL 1).trans hHeld2.2.2⟩ (fun hHeld3 => ?_);clear hK K hHeld2;clear hfin;obtain ⟨Hfin2, Hb7, Hown7, Hg7, Hat7, Hne1, Hne2, HgL⟩ := hd8 hfin2 hb7 hown7 hg7 hat7 hne1 hne2 hgL;obtain ⟨HLm, Hv7, Hout, Hlb, Hlv5, Hpb⟩ := hd6 hLm hv7 hout hlb hlv5 hpb;clear hpb hlv5 hlb hout hv7 hLm hgL hne2 hne1 hat7 hg7 hown7 hb7 hfin2;refine lay ?_;refine wpAnyL_tk 11 ?_;refine wpAnyL_tk 12 ?_;refine wpAnyL_ls 13 (fun K hK => ?_);go_simp;refine hK.out _ _ ?_;clear hK K;refine lay ?_;refine wpAnyL_done (by kernel_rfl) ?_ _;go_wp2_with fail;go_meet
     first
      | exact ⟨Hfin2.out, Hb7.out⟩
      | exact ⟨Hfin2.out.drew, Hb7.out.drew⟩
    ·have hxb : (xw == 2) = false := by simpa using hx2
     have hout : outR R' = R'.pop := by
      unfold outR;rw [if_neg (by rw [Hxw.out]; exact hx2)]
     have hfin2 : RunAt w4 base X (outR R') rest := by
      rw [hout]
      have h8 : RunAt w4 base X R'.pop _ := ⟨H.out.le, H.out.gs.below (Hb4.out.mono H.out.le), _, HV4.out⟩
      rw [Hrest1.out] at h8;exact h8.drop
     obtain ⟨Hfin2, Hout⟩ := hd2 hfin2 hout;clear hout hfin2;go_wp2_with fail;go_meet;exact ⟨Hfin2.out, Hb4.out⟩
   case rest =>
    obtain ⟨h5, hb5⟩ := hcut;clear b4 k2;obtain ⟨V5, hV5⟩ := h5.run;obtain ⟨RA, rc, hrv5, _⟩ := own_any hV5.rrow
    have hrn5 : (outR R').row.length = n' := by rw [Ho2.out]; exact Hrt.out
    have e3 : wc.cell? ⟨X.rp, 3, none⟩ = some (.slice RA n' rc) := by
     have := hV5.blk.cell 3;rw [hrn5] at hrv5;rw [this, <- hrv5]; rfl
    have hend : (outR R').endK = R'.endK := by unfold outR; split <;> rfl
    by_cases hn0 : n' = 0
    ·have hnb : ((n' : Int) == 0) = true := by simpa using hn0
     have hrE : (outR R').row.isEmpty = true := by
      rcases hr : (outR R').row with _ | ⟨x, r⟩
      ·rfl
      ·rw [hr] at hrn5; simp at hrn5; omega
     have hl1 : (outR R').list.length = 1 := by
      have h1 := Ho1.out.list.1
      have : (outR R').row = [] := by simpa using hrE
      rw [this] at h1;exact h1
     obtain ⟨l0, z, hz⟩ := snoc_of (l := (outR R').list) (by omega)
     have hl0 : l0 = [] := by rw [hz] at hl1; simpa using hl1
     subst hl0;have hz : (outR R').list = [z] := hz;have hlo := hV5.list;obtain ⟨LA5, lc5, hlv5, _⟩ := own_any hlo;rw [hlv5, hl1, hz] at hlo;obtain ⟨_, lq5, hLA5, _, _, hcell5⟩ := own_row hlo (by omega);subst hLA5;have p0 := hcell5 0 (.int .u64 z.1) rfl;rw [addr_zero] at p0
     have e4 : wc.cell? ⟨X.rp, 4, none⟩ = some (.slice (some ⟨lq5, 0, none⟩) 1 lc5) := by
      have := hV5.blk.cell 4;rw [hl1] at hlv5;rw [this, <- hlv5]; rfl
     obtain ⟨zz, hzz⟩ := mn (z.1);rw [hzz] at p0;have e7 : wc.cell? ⟨X.rp, 7, none⟩ = some (.int .i64 (outR R').endK) := hV5.blk.cell 7;have e8 : wc.cell? ⟨X.rp, 8, none⟩ = some (.int .u64 (outR R').endV) := hV5.blk.cell 8;have e7f := hV5.blk.frozen 7;have e8f := hV5.blk.frozen 8;have hV6 := (hV5.setF (R' := { outR R' with endK := 2 }) 7 (.int .i64 2) rfl ⟨rfl, rfl, rfl, rfl, rfl⟩).setF (R' := { outR R' with endK := 2, endV := zz }) 8 (.int .u64 zz) rfl ⟨rfl, rfl, rfl, rfl, rfl⟩;have hb6 := (hb5.setCell (p := ⟨X.rp, 7, none⟩) hV5.size_.1 (.int .i64 2)).setCell (p := ⟨X.rp, 8, none⟩) hV5.size_.1 (.int .u64 zz)
     have hU2 : U = { outR R' with endK := 2, endV := zz } := by
      rw [<- Hu.out];show (if (outR R').row.isEmpty = true then { outR R' with endK := 2, endV := (outR R').last.1 } else RunD.unwind X.gs n' (outR R')) = _;rw [if_pos hrE]
      have : (outR R').last = z := by unfold RunD.last; rw [hz]; rfl
      rw [this, hzz]
     have hfin : RunAt ((wc.setCell ⟨X.rp, 7, none⟩ (.int .i64 2)).setCell ⟨X.rp, 8, none⟩ (.int .u64 zz)) base X U rest := by
      rw [hU2];exact ⟨H.out.le, H.out.gs.below (hb6.mono H.out.le), _, hV6⟩
     have hw0 : IntKind.i64.wrap 0 = 0 := by decide
     obtain ⟨H5, Hb5, HV5, Hrv5, Hrn5, Hend, Hn0, HrE⟩ := hd8 h5 hb5 hV5 hrv5 hrn5 hend hn0 hrE;obtain ⟨Hl1, Hz, Hlo, Hcell5, Hlv5, Hzz, HV6, Hb6⟩ := hd8 hl1 hz hlo hcell5 hlv5 hzz hV6 hb6;obtain ⟨HU2, Hfin⟩ := hd2 hU2 hfin;clear hfin hU2 hb6 hV6 hzz hlv5 hcell5 hlo hz hl1 hrE hn0 hend hrn5 hrv5 hV5 hb5 h5;go_upto_region 8 with fail;refine wp_region_late (S := fun W => W.cell? ⟨X.rp, 4, none⟩ = some (.slice (some ⟨lq5, 0, none⟩) 1 lc5) /\ W.cell? ⟨lq5, 0, none⟩ = some (.int .u64 zz) /\ W.cell? ⟨X.rp, 7, none⟩ = some (.int .i64 (outR R').endK) /\ W.frozen? ⟨X.rp, 7, none⟩ = false /\ W.cell? ⟨X.rp, 8, none⟩ = some (.int .u64 (outR R').endV) /\ W.frozen? ⟨X.rp, 8, none⟩ = false) #[false, false, false, false, false, false, false, false, false, false, false, false, false, false, false, false, false, true] (by kernel_rfl) ⟨e4, p0, e7, e7f, e8, e8f⟩ (fun hHeld => ?_);refine wpAnyL_tk 0 ?_;refine wpAnyL_tk 1 ?_;refine wpAnyL_tk 2 ?_;refine wpAnyL_tk 3 ?_;refine wpAnyL_tk 4 ?_;refine wpAnyL_tk 5 ?_;refine wpAnyL_tk 6 ?_;refine wpAnyL_tk 7 ?_;refine wpAnyL_tk 8 ?_;refine wpAnyL_tk 9 ?_;refine wpAnyL_tk 10 ?_;refine wpAnyL_tk 11 ?_;refine wpAnyL_tk 12 ?_;refine wpAnyL_tk 13 ?_;refine wpAnyL_tk 14 ?_;refine wpAnyL_tk 15 ?_;refine wpAnyL_tk 16 ?_;refine wpAnyL_ls 17 (fun K hK => ?_);go_simp;refine hK.out _ _ ?_;clear hK K;refine lay ?_;refine wpAnyL_done (by kernel_rfl) ?_ _;go_wp2_with fail;go_end0
     first
      | exact ⟨rfl, Hfin.out, Hb6.out⟩
      | exact ⟨rfl, Hfin.out.drew, Hb6.out.drew⟩
    ·have hnb : ((n' : Int) == 0) = false := by simpa using hn0
     have hrE : ¬ (outR R').row.isEmpty = true := fun e => by
      have : (outR R').row = [] := by simpa using e
      rw [this] at hrn5;exact hn0 hrn5.symm
     have hU2 : (outR R').unwind X.gs n' = U := by
      rw [<- Hu.out]
      show _ = (if (outR R').row.isEmpty = true then { outR R' with endK := 2, endV := (outR R').last.1 } else RunD.unwind X.gs n' (outR R'))
      rw [if_neg hrE]
     have hne2 : (outR R').row ≠ [] := fun e => hrE (by rw [e]; rfl)
     obtain ⟨H5, Hb5, HV5, Hrv5, Hrn5, Hend, Hn0, HrE⟩ := hd8 h5 hb5 hV5 hrv5 hrn5 hend hn0 hrE;obtain ⟨HU2, Hne2⟩ := hd2 hU2 hne2;clear hne2 hU2 hrE hn0 hend hrn5 hrv5 hV5 hb5 h5;go_wp2_with fail
     go_roundg n'
     case measure => omega
     case rel => exact Lib.hid ⟨outR R', H5.out, Hb5.out, Ho1.out, Hne2.out, Hrn5.out, Ho3.out, HU2.out⟩
  ·rw [hnx] at hcall;unfold RunD.unwind at hu;rw [hnx] at hu;dsimp only at hu;obtain ⟨HR, Hbw, Hok, Hrn, Hsz, Hu, Hcall, Hnx⟩ := hd8 hR hbw hok hrn hsz hu hcall hnx;clear hnx hcall hu hsz hrn hok hbw hR;go_wp2_with fail;refine Hcall.out.mono ?_;rintro e w1 ⟨rfl, h1, hb1⟩;rw [Hu.out] at h1;have hfin := Hbw.out.trans hb1;obtain ⟨H1, Hb1, Hfin⟩ := hd3 h1 hb1 hfin;clear hfin hb1 h1;go_wp2_with fail;go_end0;exact ⟨rfl, H1.out, Hfin.out⟩
end
end Go.Proofs.Ytncpehhfjkncoaa
namespace Go.Proofs.Ytncpehhfjkncoaa
open Go.RowKit

section
variable {w : World} {base : Nat} {X : RunX} {R : RunD} {rest : List It} {q N : Nat}
theorem begin_any (hg : GsW X.gs) (h : RunAt w base X R rest) (ok : RunOk X.gs 0 R) (hne : R.row ≠ []) (sz : Sz N R) (hN : N + 1 <= 1000000) {v : Int} (hv : U64 v) :
  Calls Try.prog 28 #[.pointer (some ⟨X.rp, 0, none⟩), .int .u64 v] w fun e w' => RunGot base X rest w (.tuple #[]) (R.begin X.gs v) e w' := by
 obtain ⟨iP, hiP, pz0, pz1, pz2⟩ := info_parts infoPanic;obtain ⟨V, hV⟩ := h.run;obtain ⟨LA, lc, hlv, _⟩ := own_any hV.list;obtain ⟨L, hL⟩ := mn (R.list.length)
 have hLN : L <= N := by rw [<- hL]; exact sz.list
 rw [hL] at hlv
 have b4 : w.cell? ⟨X.rp, 4, none⟩ = some (.slice LA L lc) := by
  have := hV.blk.cell 4;rw [this, <- hlv]; rfl
 have b4f := hV.blk.frozen 4;have hlo := hV.list;rw [hlv, hL] at hlo;obtain ⟨hne1, _⟩ := hV.lv_ne;obtain ⟨R1, hR1⟩ := nm ({ R with list := R.list ++ [(v, false)] } : RunD);obtain ⟨R2, hR2⟩ := nm ({ R with list := R.list ++ [(v, false)], panics := max R.panics (R.list.length + 1) } : RunD)
 have ok2 : RunOk X.gs 1 R2 := by
  rw [hR2];refine { ok with list := ⟨?_, ?_⟩ }
  ·show (R.list ++ [(v, false)]).length = twos R.row + 1;rw [List.length_append, ok.list.1]; rfl
  ·intro p hp
   rcases List.mem_append.mp hp with hp | hp
   ·exact ok.list.2 p hp
   ·rw [List.mem_singleton.mp hp]; exact hv
 have hne2 : R2.row ≠ [] := by rw [hR2]; exact hne
 have sz2 : Sz (N + 1) R2 := by
  rw [hR2];refine ⟨Nat.le_succ_of_le sz.row, ?_, Nat.le_succ_of_le sz.waits⟩;show (R.list ++ [(v, false)]).length <= N + 1;rw [List.length_append, hL];show L + 1 <= N + 1
  omega
 have hB : R.begin X.gs v = R2.unwind X.gs R2.row.length := by rw [hR2]; rfl
 have hbr := Below.refl base w;have hV1 := hV.alloc (.cells #[.int .u64 v, .bool false] 96);have hb1 := hbr.alloc hV.size_.2 (.cells #[.int .u64 v, .bool false] 96);have hlo1 := hV1.list;rw [hlv, hL] at hlo1;obtain ⟨H, HV, HL, Hlo, HR1, HR2, Hok2, Hne2⟩ := hd8 h hV hL hlo hR1 hR2 ok2 hne2;obtain ⟨Hsz2, HB, Hbr, HV1, Hb1, Hlo1, Hne1, Hlv⟩ := hd8 sz2 hB hbr hV1 hb1 hlo1 hne1 hlv;clear hlv hne1 hlo1 hb1 hV1 hbr hB sz2 hne2 ok2 hR2 hR1 hlo hL hV h;go_enter Try.func28, Try.ntmps28
 go_upto_region 1 with (first
  | (at_builtin
     refine wpList_append_any _ rfl (.tmp 8) (.tmp 11) _ rfl base 96 iP _ 2 16 Try.underlying38 hiP pz0 pz1 pz2 rfl (by omega) (.slice LA L lc) L (panCells R.list) rfl Hlo1.out (w.heap.size + 1) (some ⟨w.heap.size, 0, none⟩) 1 1 [.int .u64 v, .bool false] rfl (Reads.newS _ rfl _ _ _ _ _ rfl rfl) ?c1 ?c2 ?c3 ?c4 ?_
     case c1 => intro u hu; simp only [List.mem_cons, List.not_mem_nil, or_false] at hu; rcases hu with rfl | rfl <;> rfl
     case c2 => simp only [maxLen]; omega
     case c3 => omega
     case c4 => exact HV1.out.size_.2
     intro v5 w5 hown5 hg5 hat5;obtain ⟨A5, c5, rfl, _⟩ := own_any hown5
     have hlb : V.lv.ownBlock = (Value.slice LA L lc).ownBlock := by rw [Hlv.out]
     rw [<- hlb] at hg5 hat5;have hne5 : some X.rp ≠ V.lv.ownBlock := HV1.out.lv_ne.1;have b45f : w5.frozen? ⟨X.rp, 4, none⟩ = false := (hg5.frozen_far ⟨X.rp, 4, none⟩ HV1.out.blk.lt hne5).trans (HV1.out.blk.frozen 4)
     have b45 : w5.cell? ⟨X.rp, 4, none⟩ = some (.slice LA L lc) := by
      have h1 := (hg5.cell_far ⟨X.rp, 4, none⟩ HV1.out.blk.lt hne5)
      have h2 := HV1.out.blk.cell 4;rw [h1, h2, <- Hlv.out]; rfl
     have hV5 := HV1.out.setList (l' := R.list ++ [(v, false)]) (m := L + 1) (by rw [List.length_append, HL.out]; rfl) (by rw [pan_app]; exact hown5) hg5 (by
      rcases hat5 with e | e
      ·exact .inl e
      ·exact .inr fun b hb => by rw [e] at hb; injection hb with hb; omega)
     have hb5 := (Hb1.out.grown hg5 HV1.out.size_.2 (fun b e => (HV1.out.list.lt b e).1)).setCell (p := ⟨X.rp, 4, none⟩) HV1.out.size_.1 (.slice A5 (L + 1) c5);obtain ⟨HV5, Hb5, Hown5, Hg5, Hat5, Hlb, Hne5⟩ := hd7 hV5 hb5 hown5 hg5 hat5 hlb hne5;clear hne5 hlb hat5 hg5 hown5 hb5 hV5
     skip))
 obtain ⟨w6, hw6⟩ := nm (w5.setCell ⟨X.rp, 4, none⟩ (.slice A5 (L + 1) c5));have hV6 := HV5.out;have hb6 := Hb5.out;rw [<- hw6] at hV6 hb6 ⊢;clear b4 b4f b45 b45f;obtain ⟨V6, hV6e⟩ := mn (({ V with lv := .slice A5 (L + 1) c5 } : RunV));rw [hV6e] at hV6
 have e4 : w6.cell? ⟨X.rp, 4, none⟩ = some (.slice A5 (L + 1) c5) := by
  have := hV6.blk.cell 4;rw [this, <- hV6e]; rfl
 obtain ⟨pp, hpp⟩ := mn (R.panics)
 have e12 : w6.cell? ⟨X.rp, 12, none⟩ = some (.int .i64 pp) := by
  have := hV6.blk.cell 12;rw [this, <- hpp]; rfl
 obtain ⟨HV6, Hb6, Hw6, HV6e, Hpp⟩ := hd5 hV6 hb6 hw6 hV6e hpp;clear hpp hV6e hw6 hb6 hV6
 go_quiet (fail)
 have hV7 := HV6.out.drewN nq;have hb7 := below_drewN Hb6.out nq;have e4q : (w6.drewN nq).cell? ⟨X.rp, 4, none⟩ = some (.slice A5 (L + 1) c5) := e4;have e12q : (w6.drewN nq).cell? ⟨X.rp, 12, none⟩ = some (.int .i64 pp) := e12;obtain ⟨w7, hw7⟩ := nm (w6.drewN nq);rw [<- hw7] at hV7 hb7 e4q e12q ⊢;clear e4 e12;have e12f := hV7.blk.frozen 12
 by_cases hlt : pp < (L : Int) + 1
 ·have hV8 := hV7.setF (R' := R2) 12 (.int .i64 ((L : Int) + 1)) (by rw [HR2.out, HL.out, Int.max_eq_right (by rw [Hpp.out]; omega)]; rfl) (by rw [HR2.out]; exact ⟨rfl, rfl, rfl, rfl, rfl⟩);have hb8 := hb7.setCell (p := ⟨X.rp, 12, none⟩) hV7.size_.1 (.int .i64 ((L : Int) + 1))
  have h8 : RunAt (w7.setCell ⟨X.rp, 12, none⟩ (.int .i64 ((L : Int) + 1))) base X R2 rest := ⟨H.out.le, H.out.gs.below (hb8.mono H.out.le), _, hV8⟩
  obtain ⟨HV7, Hb7, Hw7, HV8, Hb8, H8⟩ := hd6 hV7 hb7 hw7 hV8 hb8 h8;clear h8 hb8 hV8 hw7 hb7 hV7;go_upto_region 3 with fail;obtain ⟨w8, hw8⟩ := nm (w7.setCell ⟨X.rp, 12, none⟩ (.int .i64 ((L : Int) + 1)));have h8 := H8.out;have hb8 := Hb8.out;rw [<- hw8] at h8 hb8 ⊢;clear H8 Hb8 e4q e12q e12f;have hun := unwind_any hg h8 Hok2.out Hne2.out Hsz2.out hN;obtain ⟨H8, Hb8, Hw8, Hun⟩ := hd4 h8 hb8 hw8 hun;clear hun hw8 hb8 h8;go_wp2_with fail;refine Hun.out.mono ?_;rintro e w9 ⟨rfl, h9, hb9⟩;rw [<- HB.out] at h9;have hfin := Hb8.out.trans hb9;obtain ⟨H9, Hb9, Hfin⟩ := hd3 h9 hb9 hfin;clear hfin hb9 h9;go_wp2_with fail;go_end0;exact ⟨rfl, H9.out, Hfin.out⟩
 ·have h8 : RunAt w7 base X R2 rest := by
   have e : ({ R with list := R.list ++ [(v, false)] } : RunD) = R2 := by
    rw [HR2.out, HL.out, Hpp.out, Int.max_eq_left (by omega), <- Hpp.out]
   rw [<- e];exact ⟨H.out.le, H.out.gs.below (hb7.mono H.out.le), _, hV7⟩
  have hun := unwind_any hg h8 Hok2.out Hne2.out Hsz2.out hN;obtain ⟨HV7, Hb7, Hw7, H8, Hun⟩ := hd5 hV7 hb7 hw7 h8 hun;clear hun h8 hw7 hb7 hV7;go_wp2_with fail;refine Hun.out.mono ?_;rintro e w9 ⟨rfl, h9, hb9⟩;rw [<- HB.out] at h9;have hfin := Hb7.out.trans hb9;obtain ⟨H9, Hb9, Hfin⟩ := hd3 h9 hb9 hfin;clear hfin hb9 h9;go_wp2_with fail;go_end0;exact ⟨rfl, H9.out, Hfin.out⟩
end
end Go.Proofs.Ytncpehhfjkncoaa
