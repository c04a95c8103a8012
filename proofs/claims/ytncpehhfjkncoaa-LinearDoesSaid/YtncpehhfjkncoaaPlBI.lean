/- Walk of one node of the document's run: operation 16. Conditions: the run lies in memory, it is right. -/
import Derived.Test.YtncpehhfjkncoaaPlAA
import Derived.Test.YtncpehhfjkncoaaPlBE
set_option linter.unusedVariables false
set_option linter.unusedSimpArgs false
set_option maxRecDepth 100000
set_option maxHeartbeats 16000000
namespace Go.Proofs.Ytncpehhfjkncoaa
open Go.RowKit

section
variable {w : World} {base N f i : Nat} {X : RunX} {R : RunD} {rest : List It} {g : GraphD} {x : NodeD}
theorem qstep_16 (hp : StepPre w base X R rest N f i g x) (hop : x.op = 16) (hevN : R.events.length <= 999999) :
  Calls Try.prog 15 #[.pointer (some ⟨X.rp, 0, none⟩)] w fun e w' => RunGot base X rest w (.tuple #[]) (R.step X.gs) e w' := by
 have hx0 := hp.st;have hgs0 := hp.h.gs;obtain ⟨hg, h, ok, sz, hN, hst, hgm, hxm, hend, hsteps, hnd⟩ := hp
 have hop2 : R.step X.gs = stepN X.gs { R with steps := R.steps + 1 } x := by rw [step_eq, hst.node]
 obtain ⟨V, hV⟩ := h.run;obtain ⟨GA, gc, hgv, _, _⟩ := h.gs.slice;have hgs := h.gs;rw [hgv] at hgs;obtain ⟨ad, pv, kv, iv, nv, hAd, hfl, hM⟩ := GraphsAt.at_ hgs hst.gr;subst hAd;obtain ⟨NA, nn, nc, css, hne, hrest⟩ := hM.nodes
 have hNo : RowsAt 12 NodeAt w X.B (.slice NA nn nc) g.nodes := ⟨NA, nn, nc, css, rfl, hrest⟩
 subst hne;obtain ⟨nad, av, hNA, hin, hC⟩ := node_at hNo hst.nd;subst hNA;have hb := hV.blk;obtain ⟨F, hF⟩ := mn (X.gs.length);have b9 : w.cell? ⟨X.rp, 9, none⟩ = some (.int .i64 R.steps) := hb.cell 9;have b9f := hb.frozen 9;rw [hF] at hfl;obtain ⟨AA, ac, hae, _⟩ := hC.args.slice;obtain ⟨m, hm⟩ := mn (x.args.length);rw [hm] at hae
 have hfi : (f : Int) < F := by omega
 have hii : (i : Int) < nn := by omega
 obtain ⟨st, hste⟩ := mn (R.steps);rw [hste] at b9
 have hsw : IntKind.i64.wrap (st + 1) = st + 1 := by rw [IntKind.wrap_i64]; omega
 obtain ⟨R1, hR1⟩ := nm ({ R with steps := R.steps + 1 } : RunD);have hV1 := hV.setF (R' := R1) 9 (.int .i64 (st + 1)) (by rw [hR1, hste]; rfl) (by rw [hR1]; exact ⟨rfl, rfl, rfl, rfl, rfl⟩);have hb1 := (Below.refl base w).setCell (p := ⟨X.rp, 9, none⟩) hV.size_.1 (.int .i64 (st + 1));rw [<- hR1] at hop2
 have hgA : gAt X.gs R.top.f = g := by
  unfold gAt;rw [hst.fr, Int.toNat_natCast, List.getD_eq_getElem?_getD, hst.gr]; rfl
 have htop := ok.top hst.ne
 have hkl : R1.top.places.length = g.kinds.length := by rw [hR1, <- hgA]; exact htop.places.1
 have hcl : R1.top.cells.length = g.cells.toNat := by rw [hR1, <- hgA]; exact htop.cells.1
 have hst1 : Stand X.gs R1 f i g x := by rw [hR1]; exact ⟨hst.ne, hst.fr, hst.gr, hst.an, hst.nd⟩
 have ok1 : RunOk X.gs 0 R1 := by rw [hR1]; exact ⟨ok.regs, ok.row, ok.calls, ok.list, ok.tape, ok.events⟩
 have sz1 : Sz N R1 := by rw [hR1]; exact ⟨sz.row, sz.list, sz.waits⟩
 have hend1 : R1.endK = 0 := by rw [hR1]; exact hend
 obtain ⟨H, HV, Hgv, Hgs, HM, HNo, HC, Hb⟩ := hd8 h hV hgv hgs hM hNo hC hb;obtain ⟨HF, Hae, Hm, Hst, Hgs0, HR1, Hop2, HV1⟩ := hd8 hF hae hm hst hgs0 hR1 hop2 hV1;obtain ⟨Hb1, Hst1, Hok1, Hsz1, Hend1, Hnd, Hx0, Hend⟩ := hd8 hb1 hst1 ok1 sz1 hend1 hnd hx0 hend;obtain ⟨Hste, Hok0, Hsz, HgA, Hkl, Hcl, Htop⟩ := hd7 hste ok sz hgA hkl hcl htop;clear htop hcl hkl hgA sz ok hste hend hx0 hnd hend1 sz1 ok1 hst1 hb1 hV1 hop2 hR1 hgs0 hst hm hae hF hb hC hNo hM hgs hgv hV h;go_enter Try.func15, Try.ntmps15;go_upto_region 1 with fail;obtain ⟨w1, hw1⟩ := nm (w.setCell ⟨X.rp, 9, none⟩ (.int .i64 (st + 1)));have hV1 := HV1.out;have hb1 := Hb1.out;rw [<- hw1] at hV1 hb1 ⊢;clear b9 b9f HV1 Hb1;obtain ⟨gr, c, n, vv, s, hv, hT⟩ := hV1.top Hst1.out.ne;have hlen := hT.len;have hrow1 := Hsz1.out.row
 have b3 : w1.cell? ⟨X.rp, 3, none⟩ = some (.slice (some ⟨gr, 0, none⟩) (n + 1) c) := by
  have := hV1.blk.cell 3;rw [this, <- hT.rv]; rfl
 have hn1 : IntKind.i64.wrap (n : Int) = n := by rw [IntKind.wrap_i64]; omega
 have hn2 : (n : Int) < n + 1 := by omega
 obtain ⟨HV1, Hb1, Hw1, HT, Hlen⟩ := hd5 hV1 hb1 hw1 hT hlen;clear hlen hT hw1 hb1 hV1
 go_quiet (fail)
 have hVq := HV1.out.drewN nq;have hbq := below_drewN Hb1.out nq;obtain ⟨wq, hwq⟩ := nm (w1.drewN nq);rw [<- hwq] at hVq hbq ⊢;clear b3;have hTq := hVq.topAt Hst1.out.ne hv HT.out.rv;have hgsq := Hgs.out.below (hbq.mono H.out.le);have hNoq := Hgs.out
 have hCq : NodeC wq X.B (nad.add (i * 12)) x av := HC.out.keep fun p hp => (hbq.mono H.out.le).cell hp
 obtain ⟨GB, hGB⟩ := mn (wq.heap.size)
 have hBq : X.B <= GB := by have := H.out.le; have := hVq.size_.2; omega
 have hadl : (ad.add (f * 8)).block < GB := by have := HM.out.lt; omega
 have hnal : (nad.add (i * 12)).block < GB := by have := HC.out.lt; omega
 have b0 : wq.cell? ⟨X.rp, 0, none⟩ = some (.slice (some ad) F gc) := by
  have := hVq.blk.cell 0;rw [this, <- HF.out, <- Hgv.out]; rfl
 have c6 : wq.cell? ⟨(ad.add (f * 8)).block, (ad.add (f * 8)).off + 6, none⟩ = some (.slice (some nad) nn nc) := ((hbq.mono H.out.le).cell (p := ⟨(ad.add (f * 8)).block, _, none⟩) HM.out.lt).trans HM.out.c6
 have f0 : wq.cell? ⟨gr, n * 9, none⟩ = some (.int .i64 (f : Nat)) := by rw [hTq.f0, Hst1.out.fr]
 have f1 : wq.cell? ⟨gr, n * 9 + 1, none⟩ = some (.int .i64 (i : Nat)) := by rw [hTq.f1, Hst1.out.an]
 have a0 := hCq.c0;rw [hop] at a0;have a9 := hCq.c9;rw [Hae.out] at a9
 have hrpl : X.rp < GB := by rw [<- hGB]; exact hVq.blk.lt
 have hgrl : gr < GB := by rw [<- hGB]; exact hTq.lt
 have hS : ∀ W : World, (∀ p : Addr, p.block < GB -> W.cell? p = wq.cell? p) -> W.cell? ⟨X.rp, 0, none⟩ = some (.slice (some ad) F gc) /\ W.cell? ⟨gr, n * 9, none⟩ = some (.int .i64 (f : Nat)) /\ W.cell? ⟨gr, n * 9 + 1, none⟩ = some (.int .i64 (i : Nat)) /\ W.cell? ⟨(ad.add (f * 8)).block, (ad.add (f * 8)).off + 6, none⟩ = some (.slice (some nad) nn nc) /\ W.cell? (nad.add (i * 12)) = some (.int .u8 16) /\ W.cell? ⟨(nad.add (i * 12)).block, (nad.add (i * 12)).off + 1, none⟩ = some (.int .u8 x.byo) /\ W.cell? ⟨(nad.add (i * 12)).block, (nad.add (i * 12)).off + 2, none⟩ = some (.int .i64 x.d) /\ W.cell? ⟨(nad.add (i * 12)).block, (nad.add (i * 12)).off + 3, none⟩ = some (.int .i64 x.e) /\ W.cell? ⟨(nad.add (i * 12)).block, (nad.add (i * 12)).off + 4, none⟩ = some (.int .i64 x.a) /\ W.cell? ⟨(nad.add (i * 12)).block, (nad.add (i * 12)).off + 5, none⟩ = some (.int .i64 x.b) /\ W.cell? ⟨(nad.add (i * 12)).block, (nad.add (i * 12)).off + 6, none⟩ = some (.int .i64 x.f) /\ W.cell? ⟨(nad.add (i * 12)).block, (nad.add (i * 12)).off + 7, none⟩ = some (.int .i64 x.cell) /\ W.cell? ⟨(nad.add (i * 12)).block, (nad.add (i * 12)).off + 8, none⟩ = some (.int .u64 x.imm) /\ W.cell? ⟨(nad.add (i * 12)).block, (nad.add (i * 12)).off + 9, none⟩ = some (.slice AA m ac) /\ W.cell? ⟨(nad.add (i * 12)).block, (nad.add (i * 12)).off + 10, none⟩ = some (.int .i64 x.next) /\ W.cell? ⟨(nad.add (i * 12)).block, (nad.add (i * 12)).off + 11, none⟩ = some (.int .i64 x.els) := fun W hW => by
  have gn : ∀ j, W.cell? ⟨(nad.add (i * 12)).block, (nad.add (i * 12)).off + j, none⟩ = wq.cell? ⟨(nad.add (i * 12)).block, (nad.add (i * 12)).off + j, none⟩ := fun j => hW _ hnal
  exact ⟨(hW _ hrpl).trans b0, (hW _ hgrl).trans f0, (hW _ hgrl).trans f1, (hW ⟨(ad.add (f * 8)).block, _, none⟩ hadl).trans c6, (hW _ hnal).trans a0, (gn 1).trans hCq.c1, (gn 2).trans hCq.c2, (gn 3).trans hCq.c3, (gn 4).trans hCq.c4, (gn 5).trans hCq.c5, (gn 6).trans hCq.c6, (gn 7).trans hCq.c7, (gn 8).trans hCq.c8, (gn 9).trans a9, (gn 10).trans hCq.c10, (gn 11).trans hCq.c11⟩
 have hSq := hS wq fun _ _ => rfl
 clear b0 c6 f0 f1 a0 a9;obtain ⟨Hwq, HVq, Hbq, HTq, HCq, HS, Hgsq, HNoq⟩ := hd8 hwq hVq hbq hTq hCq hS hgsq hNoq;have Hop := Lib.hid hop;clear hop hNoq hgsq hS hCq hTq hbq hVq hwq;go_upto_region 2 with fail
 refine wp_region_late (S := fun W => W.cell? ⟨X.rp, 0, none⟩ = some (.slice (some ad) F gc) /\ W.cell? ⟨gr, n * 9, none⟩ = some (.int .i64 (f : Nat)) /\ W.cell? ⟨gr, n * 9 + 1, none⟩ = some (.int .i64 (i : Nat)) /\ W.cell? ⟨(ad.add (f * 8)).block, (ad.add (f * 8)).off + 6, none⟩ = some (.slice (some nad) nn nc) /\ W.cell? (nad.add (i * 12)) = some (.int .u8 16) /\ W.cell? ⟨(nad.add (i * 12)).block, (nad.add (i * 12)).off + 1, none⟩ = some (.int .u8 x.byo) /\ W.cell? ⟨(nad.add (i * 12)).block, (nad.add (i * 12)).off + 2, none⟩ = some (.int .i64 x.d) /\ W.cell? ⟨(nad.add (i * 12)).block, (nad.add (i * 12)).off + 3, none⟩ = some (.int .i64 x.e) /\ W.cell? ⟨(nad.add (i * 12)).block, (nad.add (i * 12)).off + 4, none⟩ = some (.int .i64 x.a) /\ W.cell? ⟨(nad.add (i * 12)).block, (nad.add (i * 12)).off + 5, none⟩ = some (.int .i64 x.b) /\ W.cell? ⟨(nad.add (i * 12)).block, (nad.add (i * 12)).off + 6, none⟩ = some (.int .i64 x.f) /\ W.cell? ⟨(nad.add (i * 12)).block, (nad.add (i * 12)).off + 7, none⟩ = some (.int .i64 x.cell) /\ W.cell? ⟨(nad.add (i * 12)).block, (nad.add (i * 12)).off + 8, none⟩ = some (.int .u64 x.imm) /\ W.cell? ⟨(nad.add (i * 12)).block, (nad.add (i * 12)).off + 9, none⟩ = some (.slice AA m ac) /\ W.cell? ⟨(nad.add (i * 12)).block, (nad.add (i * 12)).off + 10, none⟩ = some (.int .i64 x.next) /\ W.cell? ⟨(nad.add (i * 12)).block, (nad.add (i * 12)).off + 11, none⟩ = some (.int .i64 x.els))
  #[false, false, false, false, false, false, false, false, false, false, false, false, false, false, false, false, false, false, false, true] (by kernel_rfl) hSq (fun hHeld => ?_)
 refine wpAnyL_tk 0 ?_;refine wpAnyL_tk 1 ?_;refine wpAnyL_tk 2 ?_;refine wpAnyL_tk 3 ?_;refine wpAnyL_tk 4 ?_;refine wpAnyL_tk 5 ?_;refine wpAnyL_tk 6 ?_;refine wpAnyL_tk 7 ?_;refine wpAnyL_tk 8 ?_;refine wpAnyL_tk 9 ?_;refine wpAnyL_tk 10 ?_;refine wpAnyL_tk 11 ?_;refine wpAnyL_tk 12 ?_;refine wpAnyL_tk 13 ?_;refine wpAnyL_tk 14 ?_;refine wpAnyL_tk 15 ?_;refine wpAnyL_tk 16 ?_;refine wpAnyL_tk 17 ?_;refine wpAnyL_rd 18 (fun K hK => ?_);go_simp;refine hK.out _ _ (HS.out _ fun p hp => World.cell?_alloc_lt _ _ p (by rw [hGB]; exact hp)) (fun hHeld2 => ?_);clear hK K hHeld;refine lay ?_;refine wpAnyL_ls 19 (fun K hK => ?_);go_simp;refine hK.out _ _ ?_;clear hK K;refine lay ?_;refine wpAnyL_done (by kernel_rfl) ?_ _;have hV2 := (HVq.out.box 52 #[.int .u8 16, .int .u8 x.byo, .int .i64 x.d, .int .i64 x.e, .int .i64 x.a, .int .i64 x.b, .int .i64 x.f, .int .i64 x.cell, .int .u64 x.imm, .slice AA m ac, .int .i64 x.next, .int .i64 x.els]).drew;have hb2 := (Hbq.out.alloc HVq.out.size_.2 (.cells #[.int .u8 16, .int .u8 x.byo, .int .i64 x.d, .int .i64 x.e, .int .i64 x.a, .int .i64 x.b, .int .i64 x.f, .int .i64 x.cell, .int .u64 x.imm, .slice AA m ac, .int .i64 x.next, .int .i64 x.els] 52)).drew;obtain ⟨W2, hW2⟩ := nm ((wq.alloc (.cells #[.int .u8 16, .int .u8 x.byo, .int .i64 x.d, .int .i64 x.e, .int .i64 x.a, .int .i64 x.b, .int .i64 x.f, .int .i64 x.cell, .int .u64 x.imm, .slice AA m ac, .int .i64 x.next, .int .i64 x.els] 52)).drew);rw [<- hW2] at hV2 hb2 ⊢;rw [hGB] at hV2;obtain ⟨rest1, hrest1⟩ := nm (It.blk GB 52 #[.int .u8 16, .int .u8 x.byo, .int .i64 x.d, .int .i64 x.e, .int .i64 x.a, .int .i64 x.b, .int .i64 x.f, .int .i64 x.cell, .int .u64 x.imm, .slice AA m ac, .int .i64 x.next, .int .i64 x.els] :: rest);rw [<- hrest1] at hV2
 have h2 : RunAt W2 base X R1 rest1 := ⟨H.out.le, H.out.gs.below (hb2.mono H.out.le), _, hV2⟩
 have hGm : It.blk GB 52 #[.int .u8 16, .int .u8 x.byo, .int .i64 x.d, .int .i64 x.e, .int .i64 x.a, .int .i64 x.b, .int .i64 x.f, .int .i64 x.cell, .int .u64 x.imm, .slice AA m ac, .int .i64 x.next, .int .i64 x.els] ∈ rest1 := by rw [hrest1]; exact List.mem_cons_self
 have hrd : ∀ (W : World) (Q : RunD), RunAt W base X Q rest1 -> RunAt W base X Q rest := fun W Q hQ => by
  rw [hrest1] at hQ;exact hQ.drop
 have hNB2 : Blk W2 GB 52 #[.int .u8 16, .int .u8 x.byo, .int .i64 x.d, .int .i64 x.e, .int .i64 x.a, .int .i64 x.b, .int .i64 x.f, .int .i64 x.cell, .int .u64 x.imm, .slice AA m ac, .int .i64 x.next, .int .i64 x.els] := (h2.mem hGm).2;have hT2 := hV2.topAt Hst1.out.ne hv HT.out.rv;have k0 := bc hNB2 0;have k2 := bc hNB2 2;have k10 := bc hNB2 10;clear hHeld2 hSq;obtain ⟨HV2, Hb2, HW2, Hrest1, H2, HGm, Hrd, HNB2⟩ := hd8 hV2 hb2 hW2 hrest1 h2 hGm hrd hNB2;have HT2 := Lib.hid hT2;clear hT2 hNB2 hrd hGm h2 hrest1 hW2 hb2 hV2;obtain ⟨iE, hiE, ez0, ez1, ez2⟩ := info_parts infoEvent;have hevs := HV2.out.evs;obtain ⟨EA, ec, heve, _⟩ := own_any hevs;obtain ⟨EN, hEN⟩ := mn (R1.events.length);rw [hEN] at heve
 have hENl : EN <= 999999 := by rw [<- hEN, HR1.out]; exact hevN
 obtain ⟨TA, tc, htve, htc, htm, htr⟩ := HV2.out.tok;obtain ⟨TN, hTN⟩ := mn (R1.tape.length);rw [hTN] at htve htc htr
 have b5 : W2.cell? ⟨X.rp, 5, none⟩ = some (.slice TA TN tc) := by
  have := HV2.out.blk.cell 5;rw [this, <- htve]; rfl
 have b5f := HV2.out.blk.frozen 5;obtain ⟨v0, hv0⟩ := mn (R1.tape.headD 0)
 by_cases hT0 : TN = 0
 ·have hti : ¬ (0 : Int) < TN := by omega
  have hte : R1.tape = [] := List.eq_nil_of_length_eq_zero (by omega)
  have hv0z : R1.tape.headD 0 = 0 := by rw [hte]; rfl
  have hv0 := hv0z;obtain ⟨V3, hV3e⟩ := mn (V);obtain ⟨R3, hR3e'⟩ := mn (R1 : RunD)
  have hR3e : ({ R3 with events := R1.events ++ [(2, (0 : Int))] } : RunD) = { R1 with tape := R1.tape.tail, events := R1.events ++ [(2, (0 : Int))] } := by
   have ht : R1.tape.tail = R1.tape := by rw [hte]; rfl
   rw [<- hR3e', ht]
  have hV3 : RunIn W2 base X R3 V3 rest1 := by rw [<- hV3e, <- hR3e']; exact HV2.out
  have hb3 := Hb2.out
  have heV3 : V3.ev = V.ev := by rw [hV3e]
  have hR3ev : R3.events = R1.events := by rw [hR3e']
  have hR3r : R3.row = R1.row := by rw [hR3e']
  obtain ⟨Hevs, Heve, HEN, Htve, Htm, Htr, HTN, HT0⟩ := hd8 hevs heve hEN htve htm htr hTN hT0;obtain ⟨Hte, HV3, Hb3, HeV3, HR3ev, HR3r, HR3e, HR3e'⟩ := hd8 hte hV3 hb3 heV3 hR3ev hR3r hR3e hR3e';obtain ⟨HV3e, Hv0⟩ := hd2 hV3e hv0;clear hv0 hV3e hR3e' hR3e hR3r hR3ev heV3 hb3 hV3 hte hT0 hTN htr htm htve hEN heve hevs;go_upto_region 61 with fail;clear k0 k2 k10;clear b5 b5f;have hb4 := Hb3.out.alloc HV3.out.size_.2 (.cells #[.int .i64 2, .int .u64 0] 62);have hV4 := HV3.out.alloc (.cells #[.int .i64 2, .int .u64 0] 62);have heve3 : V3.ev = .slice EA EN ec := HeV3.out.trans Heve.out;have hev3 : R3.events = R1.events := HR3ev.out
  have ho4 : (W2.alloc (.cells #[.int .i64 2, .int .u64 0] 62)).ownsRow base 62 2 (.slice EA EN ec) EN (evCells R1.events) := by
   have := hV4.evs;rw [heve3, hev3, HEN.out] at this;exact this
  have b6 : W2.cell? ⟨X.rp, 6, none⟩ = some (.slice EA EN ec) := by
   have := HV3.out.blk.cell 6;rw [this, <- heve3]; rfl
  have lrp3 : X.rp < W2.heap.size := HV3.out.blk.lt;obtain ⟨Hb4, HV4, Heve3, Hev3, Ho4⟩ := hd5 hb4 hV4 heve3 hev3 ho4;clear ho4 hev3 heve3 hV4 hb4
  go_upto_region 62 with (first
   | (at_builtin
      refine wpList_append_any _ rfl (.tmp 357) (.tmp 360) _ rfl base 62 iE _ 2 16 Try.underlying39 hiE ez0 ez1 ez2 rfl (by omega) (.slice EA EN ec) EN (evCells R1.events) rfl Ho4.out (W2.heap.size + 1) (some ⟨W2.heap.size, 0, none⟩) 1 1 [.int .i64 2, .int .u64 0] rfl (Reads.newS _ rfl _ _ _ _ _ rfl rfl) ?c1 ?c2 ?c3 ?c4 ?_
      case c1 => intro u hu; simp only [List.mem_cons, List.not_mem_nil, or_false] at hu; rcases hu with rfl | rfl <;> rfl
      case c2 => simp only [maxLen]; omega
      case c3 => omega
      case c4 => exact HV4.out.size_.2
      intro v7 w7 hown7 hg7 hat7;obtain ⟨A7, c7, rfl, _⟩ := own_any hown7
      have hlb : V3.ev.ownBlock = (Value.slice EA EN ec).ownBlock := by rw [Heve3.out]
      rw [<- hlb] at hg7 hat7;obtain ⟨hne1, hne2⟩ := HV4.out.ev_ne;have e6 : w7.cell? ⟨X.rp, 6, none⟩ = some (.slice EA EN ec) := (hg7.cell_far ⟨X.rp, 6, none⟩ HV4.out.blk.lt hne1).trans ((World.cell?_alloc_lt _ _ ⟨X.rp, 6, none⟩ lrp3).trans b6);have e6f : w7.frozen? ⟨X.rp, 6, none⟩ = false := (hg7.frozen_far ⟨X.rp, 6, none⟩ HV4.out.blk.lt hne1).trans (HV4.out.blk.frozen 6);rw [show [Value.int .i64 2, .int .u64 0] = [.int .i64 ((2, (0 : Int)) : Int × Int).1, .int .u64 ((2, (0 : Int)) : Int × Int).2] from rfl, <- ev_app] at hown7
      have hV5 := HV4.out.setEvs (l' := R1.events ++ [(2, (0 : Int))]) (by rw [List.length_append, HEN.out]; rfl) hown7 hg7 (by
       rcases hat7 with e | e
       ·exact .inl e
       ·exact .inr fun b hb => by rw [e] at hb; injection hb with hb; omega)
      have hb5 := (Hb4.out.grown hg7 HV4.out.size_.2 (fun b e => (HV4.out.evs.lt b e).1)).setCell (p := ⟨X.rp, 6, none⟩) HV4.out.size_.1 (.slice A7 (EN + 1) c7);obtain ⟨HV5, Hb5, Hown7, Hg7, Hat7, Hlb, Hne1, Hne2⟩ := hd8 hV5 hb5 hown7 hg7 hat7 hlb hne1 hne2;clear hne2 hne1 hlb hat7 hg7 hown7 hb5 hV5
      skip))
  obtain ⟨w5, hw5⟩ := nm (w7.setCell ⟨X.rp, 6, none⟩ (.slice A7 (EN + 1) c7));have hV5 := HV5.out;have hb5 := Hb5.out;rw [<- hw5] at hV5 hb5 ⊢;clear HV5 Hb5 b6 e6 e6f;obtain ⟨R5, hR5⟩ := mn (({ R3 with events := R1.events ++ [(2, (0 : Int))] } : RunD) : RunD);rw [hR5] at hV5
  have h5 : RunAt w5 base X R5 rest1 := ⟨H.out.le, H.out.gs.below (hb5.mono H.out.le), _, hV5⟩
  have hR5r : R5.row = R1.row := by rw [<- hR5]; exact HR3r.out
  have hR5n : R5.row ≠ [] := by rw [hR5r]; exact Hst1.out.ne
  have hR5t : R5.top.places.length = g.kinds.length := by
   have : R5.top = R1.top := by unfold RunD.top; rw [hR5r]
   rw [this]; exact Hkl.out
  have hN5 : Blk w5 GB 52 #[.int .u8 16, .int .u8 x.byo, .int .i64 x.d, .int .i64 x.e, .int .i64 x.a, .int .i64 x.b, .int .i64 x.f, .int .i64 x.cell, .int .u64 x.imm, .slice AA m ac, .int .i64 x.next, .int .i64 x.els] := (h5.mem HGm.out).2;have j2 := bc hN5 2;have hset := set_any h5 hR5n (p := x.d) (by have := Hnd.out.d (by have := Hop.out; omega); rw [hR5t]; omega) (by rw [hR5r]; have := Hsz1.out.row; omega) (0 : Int);obtain ⟨HV5, Hb5, Hw5, HR5, H5, HR5r, HR5n, HR5t⟩ := hd8 hV5 hb5 hw5 hR5 h5 hR5r hR5n hR5t;obtain ⟨HN5, Hset⟩ := hd2 hN5 hset;clear hset hN5 hR5t hR5n hR5r h5 hR5 hw5 hb5 hV5;go_wp2_with fail;refine Hset.out.mono ?_;rintro e w8 ⟨rfl, h8, hb8'⟩;have hb8 := Hb5.out.trans hb8';obtain ⟨R8, hR8⟩ := mn (R5.set x.d (0 : Int));rw [hR8] at h8
  have hn8 : R8.row ≠ [] := by rw [<- hR8, ]; exact set_row _ _ _ HR5n.out
  have hz8r : R8.row.length <= N := by rw [<- hR8, (set_lens HR5n.out _ _).1, HR5r.out]; exact Hsz1.out.row
  obtain ⟨H8, Hb8, Hb8', HR8⟩ := hd4 h8 hb8 hb8' hR8;clear hR8 hb8' hb8 h8;obtain ⟨V8, hV8⟩ := H8.out.run;obtain ⟨g8, c8, n8, v8, s8, hv8, hT8⟩ := hV8.top hn8;have hl8 := hT8.len;have hz8 := hz8r
  have z3 : w8.cell? ⟨X.rp, 3, none⟩ = some (.slice (some ⟨g8, 0, none⟩) (n8 + 1) c8) := by
   have := hV8.blk.cell 3;rw [this, <- hT8.rv]; rfl
  have z1 := hT8.f1;have z1f := hT8.fz (n8 * 9 + 1)
  have hn81 : IntKind.i64.wrap (n8 : Int) = n8 := by rw [IntKind.wrap_i64]; omega
  have hn82 : (n8 : Int) < n8 + 1 := by omega
  have hV9 := hV8.setFr hT8 hv8 (x' := { R8.top with at_ := x.next }) (v' := v8) (j := 1) (u := .int .i64 x.next) (by omega) rfl rfl (by obtain ⟨_, v2, _, _, e, _, e2⟩ := hV8.top_eq hn8; rw [hv8] at e; injection e with e _; rw [e]; exact e2);have hb9 := Hb8.out.setCell (p := ⟨g8, n8 * 9 + 1, none⟩) hT8.le (.int .i64 x.next);have h9 := Hrd.out _ _ (show RunAt (w8.setCell ⟨g8, n8 * 9 + 1, none⟩ (.int .i64 x.next)) base X (R8.goOn x.next) rest1 from ⟨H.out.le, H.out.gs.below (hb9.mono H.out.le), _, hV9⟩);obtain ⟨HV8, HT8, Hv8, HV9, Hb9, H9, Hl8⟩ := hd7 hV8 hT8 hv8 hV9 hb9 h9 hl8;clear hl8 h9 hb9 hV9 hv8 hT8 hV8;go_upto_region 65 with fail;refine wp_region_late (S := fun W => W.cell? ⟨X.rp, 3, none⟩ = some (.slice (some ⟨g8, 0, none⟩) (n8 + 1) c8) /\ W.cell? ⟨g8, n8 * 9 + 1, none⟩ = some (.int .i64 R8.top.at_) /\ W.frozen? ⟨g8, n8 * 9 + 1, none⟩ = false) #[false, false, false, false, false, false, false, false, false, false, false, false, false, true] (by kernel_rfl) ⟨z3, z1, z1f⟩ (fun hHeld => ?_);refine wpAnyL_tk 0 ?_;refine wpAnyL_tk 1 ?_;refine wpAnyL_tk 2 ?_;refine wpAnyL_tk 3 ?_;refine wpAnyL_tk 4 ?_;refine wpAnyL_tk 5 ?_;refine wpAnyL_tk 6 ?_;refine wpAnyL_tk 7 ?_;refine wpAnyL_tk 8 ?_;refine wpAnyL_tk 9 ?_;refine wpAnyL_tk 10 ?_;refine wpAnyL_tk 11 ?_;refine wpAnyL_tk 12 ?_;refine wpAnyL_ls 13 (fun K hK => ?_);go_simp;refine hK.out _ _ ?_;clear hK K;refine lay ?_;refine wpAnyL_done (by kernel_rfl) ?_ _;go_wp2_with fail;go_end0
  have hfinal : R.step X.gs = R8.goOn x.next := by
   rw [Hop2.out];unfold stepN;dsimp only;rw [if_neg (by rw [Hop.out]; omega)]; rw [if_neg (by rw [Hop.out]; omega)]; rw [if_neg (by rw [Hop.out]; omega)]; rw [if_neg (by rw [Hop.out]; omega)]; rw [if_neg (by rw [Hop.out]; omega)]; rw [if_neg (by rw [Hop.out]; omega)]; rw [if_neg (by rw [Hop.out]; omega)]; rw [if_neg (by rw [Hop.out]; omega)]; rw [if_neg (by rw [Hop.out]; omega)]; rw [if_neg (by rw [Hop.out]; omega)]; rw [if_neg (by rw [Hop.out]; omega)]; rw [if_neg (by rw [Hop.out]; omega)]; rw [if_neg (by rw [Hop.out]; omega)]; rw [if_neg (by rw [Hop.out]; omega)]; rw [if_neg (by rw [Hop.out]; omega)]; rw [if_pos Hop.out]; rw [Hv0.out, <- HR8.out, <- HR5.out, HR3e.out]
  first
   | exact ⟨rfl, by rw [hfinal]; exact H9.out, Hb9.out⟩
   | exact ⟨rfl, by rw [hfinal]; exact H9.out.drew, Hb9.out.drew⟩
 ·have hti : (0 : Int) < TN := by omega
  obtain ⟨tg, tk, tN, tcap, htz, htA, htd, htl⟩ := htr (by omega);subst htA;obtain ⟨v0, hv0⟩ := mn (R1.tape.headD 0);have htape := HV2.out.tape;rw [htz, htl] at htape
  have hdl : tk < V.tl.length := by
   have : R1.tape.length = V.tl.length - tk := by rw [htd, List.length_drop]
   omega
  have hcell := World.ownsRow.cellAt htape tk (by omega);rw [u64s_get V.tl tk hdl] at hcell
  have hvd : V.tl.getD tk 0 = v0 := by
   rw [<- hv0, htd];rw [List.headD_eq_head?_getD, List.head?_drop, List.getD_eq_getElem?_getD]
  rw [hvd] at hcell
  have hTN1 : 1 <= TN := by omega
  have htcl : 1 <= tc := by omega
  obtain ⟨A3, hA3⟩ := mn ((if tc = 1 then some (⟨tg, tk, none⟩ : Addr) else some ⟨tg, tk + 1, none⟩) : Option Addr);obtain ⟨V3, hV3e⟩ := mn (({ V with tv := .slice A3 (TN - 1) (tc - 1) } : RunV) : RunV);obtain ⟨R3, hR3e'⟩ := mn (({ R1 with tape := R1.tape.tail } : RunD) : RunD)
  have hR3e : ({ R3 with events := R1.events ++ [(2, v0)] } : RunD) = { R1 with tape := R1.tape.tail, events := R1.events ++ [(2, v0)] } := by rw [<- hR3e']
  have htok : TapeOk { V with tv := .slice A3 (TN - 1) (tc - 1) } { R1 with tape := R1.tape.tail } := by
   refine ⟨A3, tc - 1, ?_, ?_, by omega, fun hpos => ?_⟩
   ·show Value.slice A3 (TN - 1) (tc - 1) = .slice A3 R1.tape.tail.length (tc - 1);rw [List.length_tail, hTN]
   ·show R1.tape.tail.length <= tc - 1;rw [List.length_tail]; omega
   ·have hpos : 0 < R1.tape.tail.length := hpos;rw [List.length_tail] at hpos;refine ⟨tg, tk + 1, tN, tcap, htz, ?_, ?_, htl⟩
    ·rw [<- hA3, if_neg (by omega)]
    ·show R1.tape.tail = V.tl.drop (tk + 1);rw [htd, List.tail_drop]
  have hV3 := HV2.out.setTape htok;have hb3 := Hb2.out.setCell (p := ⟨X.rp, 5, none⟩) HV2.out.size_.1 (.slice A3 (TN - 1) (tc - 1));rw [hV3e, hR3e'] at hV3
  have heV3 : V3.ev = V.ev := by rw [<- hV3e]
  have hR3ev : R3.events = R1.events := by rw [<- hR3e']
  have hR3r : R3.row = R1.row := by rw [<- hR3e']
  have hslc : ∀ W : World, (Instr.slice 25 (.slice (some ⟨tg, tk, none⟩) TN tc) (some (.int .i64 1)) none none).run Try.prog W = .ok (.slice A3 (TN - 1) (tc - 1)) W := fun W => by
   have hu := Try.underlying25;have h1 := run_slice_l (P := Try.prog) (w := W) 25 (some ⟨tg, tk, none⟩) TN tc hu .i64 1 (by omega) (by omega)
   have hsz : (sizeOf (Try.prog.elem 25)).run Try.prog W = .ok 1 W := by kernel_rfl
   rw [h1, <- hA3, hsz]
   by_cases htc1 : tc = 1
   ·simp [Result.andThen, sliced, htc1]
   ·simp [Result.andThen, sliced, htc1, addr_at]
  obtain ⟨Hevs, Heve, HEN, Htve, Htm, Htr, HTN, HT0⟩ := hd8 hevs heve hEN htve htm htr hTN hT0;obtain ⟨HV3, Hb3, HeV3, HR3ev, HR3r, HR3e, HR3e', HV3e⟩ := hd8 hV3 hb3 heV3 hR3ev hR3r hR3e hR3e' hV3e;obtain ⟨Hv0, Htz, Htd, Htl, Htape, Hdl, Hvd, Htok⟩ := hd8 hv0 htz htd htl htape hdl hvd htok;have HA3 := Lib.hid hA3;clear hA3 htok hvd hdl htape htl htd htz hv0 hV3e hR3e' hR3e hR3r hR3ev heV3 hb3 hV3 hT0 hTN htr htm htve hEN heve hevs;go_upto_region 61 with fail;clear k0 k2 k10;obtain ⟨w3, hw3⟩ := nm (W2.setCell ⟨X.rp, 5, none⟩ (.slice A3 (TN - 1) (tc - 1)));have hV3 := HV3.out;have hb3 := Hb3.out;rw [<- hw3] at hV3 hb3 ⊢;clear b5 b5f hcell hslc HV3 Hb3;obtain ⟨HV3, Hb3, Hw3⟩ := hd3 hV3 hb3 hw3;clear hw3 hb3 hV3;have hb4 := Hb3.out.alloc HV3.out.size_.2 (.cells #[.int .i64 2, .int .u64 v0] 62);have hV4 := HV3.out.alloc (.cells #[.int .i64 2, .int .u64 v0] 62);have heve3 : V3.ev = .slice EA EN ec := HeV3.out.trans Heve.out;have hev3 : R3.events = R1.events := HR3ev.out
  have ho4 : (w3.alloc (.cells #[.int .i64 2, .int .u64 v0] 62)).ownsRow base 62 2 (.slice EA EN ec) EN (evCells R1.events) := by
   have := hV4.evs;rw [heve3, hev3, HEN.out] at this;exact this
  have b6 : w3.cell? ⟨X.rp, 6, none⟩ = some (.slice EA EN ec) := by
   have := HV3.out.blk.cell 6;rw [this, <- heve3]; rfl
  have lrp3 : X.rp < w3.heap.size := HV3.out.blk.lt;obtain ⟨Hb4, HV4, Heve3, Hev3, Ho4⟩ := hd5 hb4 hV4 heve3 hev3 ho4;clear ho4 hev3 heve3 hV4 hb4
  go_upto_region 62 with (first
   | (at_builtin
      refine wpList_append_any _ rfl (.tmp 357) (.tmp 360) _ rfl base 62 iE _ 2 16 Try.underlying39 hiE ez0 ez1 ez2 rfl (by omega) (.slice EA EN ec) EN (evCells R1.events) rfl Ho4.out (w3.heap.size + 1) (some ⟨w3.heap.size, 0, none⟩) 1 1 [.int .i64 2, .int .u64 v0] rfl (Reads.newS _ rfl _ _ _ _ _ rfl rfl) ?c1 ?c2 ?c3 ?c4 ?_
      case c1 => intro u hu; simp only [List.mem_cons, List.not_mem_nil, or_false] at hu; rcases hu with rfl | rfl <;> rfl
      case c2 => simp only [maxLen]; omega
      case c3 => omega
      case c4 => exact HV4.out.size_.2
      intro v7 w7 hown7 hg7 hat7;obtain ⟨A7, c7, rfl, _⟩ := own_any hown7
      have hlb : V3.ev.ownBlock = (Value.slice EA EN ec).ownBlock := by rw [Heve3.out]
      rw [<- hlb] at hg7 hat7;obtain ⟨hne1, hne2⟩ := HV4.out.ev_ne;have e6 : w7.cell? ⟨X.rp, 6, none⟩ = some (.slice EA EN ec) := (hg7.cell_far ⟨X.rp, 6, none⟩ HV4.out.blk.lt hne1).trans ((World.cell?_alloc_lt _ _ ⟨X.rp, 6, none⟩ lrp3).trans b6);have e6f : w7.frozen? ⟨X.rp, 6, none⟩ = false := (hg7.frozen_far ⟨X.rp, 6, none⟩ HV4.out.blk.lt hne1).trans (HV4.out.blk.frozen 6);rw [show [Value.int .i64 2, .int .u64 v0] = [.int .i64 ((2, v0) : Int × Int).1, .int .u64 ((2, v0) : Int × Int).2] from rfl, <- ev_app] at hown7
      have hV5 := HV4.out.setEvs (l' := R1.events ++ [(2, v0)]) (by rw [List.length_append, HEN.out]; rfl) hown7 hg7 (by
       rcases hat7 with e | e
       ·exact .inl e
       ·exact .inr fun b hb => by rw [e] at hb; injection hb with hb; omega)
      have hb5 := (Hb4.out.grown hg7 HV4.out.size_.2 (fun b e => (HV4.out.evs.lt b e).1)).setCell (p := ⟨X.rp, 6, none⟩) HV4.out.size_.1 (.slice A7 (EN + 1) c7);obtain ⟨HV5, Hb5, Hown7, Hg7, Hat7, Hlb, Hne1, Hne2⟩ := hd8 hV5 hb5 hown7 hg7 hat7 hlb hne1 hne2;clear hne2 hne1 hlb hat7 hg7 hown7 hb5 hV5
      skip))
  obtain ⟨w5, hw5⟩ := nm (w7.setCell ⟨X.rp, 6, none⟩ (.slice A7 (EN + 1) c7));have hV5 := HV5.out;have hb5 := Hb5.out;rw [<- hw5] at hV5 hb5 ⊢;clear HV5 Hb5 b6 e6 e6f;obtain ⟨R5, hR5⟩ := mn (({ R3 with events := R1.events ++ [(2, v0)] } : RunD) : RunD);rw [hR5] at hV5
  have h5 : RunAt w5 base X R5 rest1 := ⟨H.out.le, H.out.gs.below (hb5.mono H.out.le), _, hV5⟩
  have hR5r : R5.row = R1.row := by rw [<- hR5]; exact HR3r.out
  have hR5n : R5.row ≠ [] := by rw [hR5r]; exact Hst1.out.ne
  have hR5t : R5.top.places.length = g.kinds.length := by
   have : R5.top = R1.top := by unfold RunD.top; rw [hR5r]
   rw [this]; exact Hkl.out
  have hN5 : Blk w5 GB 52 #[.int .u8 16, .int .u8 x.byo, .int .i64 x.d, .int .i64 x.e, .int .i64 x.a, .int .i64 x.b, .int .i64 x.f, .int .i64 x.cell, .int .u64 x.imm, .slice AA m ac, .int .i64 x.next, .int .i64 x.els] := (h5.mem HGm.out).2;have j2 := bc hN5 2;have hset := set_any h5 hR5n (p := x.d) (by have := Hnd.out.d (by have := Hop.out; omega); rw [hR5t]; omega) (by rw [hR5r]; have := Hsz1.out.row; omega) v0;obtain ⟨HV5, Hb5, Hw5, HR5, H5, HR5r, HR5n, HR5t⟩ := hd8 hV5 hb5 hw5 hR5 h5 hR5r hR5n hR5t;obtain ⟨HN5, Hset⟩ := hd2 hN5 hset;clear hset hN5 hR5t hR5n hR5r h5 hR5 hw5 hb5 hV5;go_wp2_with fail;refine Hset.out.mono ?_;rintro e w8 ⟨rfl, h8, hb8'⟩;have hb8 := Hb5.out.trans hb8';obtain ⟨R8, hR8⟩ := mn (R5.set x.d v0);rw [hR8] at h8
  have hn8 : R8.row ≠ [] := by rw [<- hR8, ]; exact set_row _ _ _ HR5n.out
  have hz8r : R8.row.length <= N := by rw [<- hR8, (set_lens HR5n.out _ _).1, HR5r.out]; exact Hsz1.out.row
  obtain ⟨H8, Hb8, Hb8', HR8⟩ := hd4 h8 hb8 hb8' hR8;clear hR8 hb8' hb8 h8;obtain ⟨V8, hV8⟩ := H8.out.run;obtain ⟨g8, c8, n8, v8, s8, hv8, hT8⟩ := hV8.top hn8;have hl8 := hT8.len;have hz8 := hz8r
  have z3 : w8.cell? ⟨X.rp, 3, none⟩ = some (.slice (some ⟨g8, 0, none⟩) (n8 + 1) c8) := by
   have := hV8.blk.cell 3;rw [this, <- hT8.rv]; rfl
  have z1 := hT8.f1;have z1f := hT8.fz (n8 * 9 + 1)
  have hn81 : IntKind.i64.wrap (n8 : Int) = n8 := by rw [IntKind.wrap_i64]; omega
  have hn82 : (n8 : Int) < n8 + 1 := by omega
  have hV9 := hV8.setFr hT8 hv8 (x' := { R8.top with at_ := x.next }) (v' := v8) (j := 1) (u := .int .i64 x.next) (by omega) rfl rfl (by obtain ⟨_, v2, _, _, e, _, e2⟩ := hV8.top_eq hn8; rw [hv8] at e; injection e with e _; rw [e]; exact e2);have hb9 := Hb8.out.setCell (p := ⟨g8, n8 * 9 + 1, none⟩) hT8.le (.int .i64 x.next);have h9 := Hrd.out _ _ (show RunAt (w8.setCell ⟨g8, n8 * 9 + 1, none⟩ (.int .i64 x.next)) base X (R8.goOn x.next) rest1 from ⟨H.out.le, H.out.gs.below (hb9.mono H.out.le), _, hV9⟩);obtain ⟨HV8, HT8, Hv8, HV9, Hb9, H9, Hl8⟩ := hd7 hV8 hT8 hv8 hV9 hb9 h9 hl8;clear hl8 h9 hb9 hV9 hv8 hT8 hV8;go_upto_region 65 with fail;refine wp_region_late (S := fun W => W.cell? ⟨X.rp, 3, none⟩ = some (.slice (some ⟨g8, 0, none⟩) (n8 + 1) c8) /\ W.cell? ⟨g8, n8 * 9 + 1, none⟩ = some (.int .i64 R8.top.at_) /\ W.frozen? ⟨g8, n8 * 9 + 1, none⟩ = false) #[false, false, false, false, false, false, false, false, false, false, false, false, false, true] (by kernel_rfl) ⟨z3, z1, z1f⟩ (fun hHeld => ?_);refine wpAnyL_tk 0 ?_;refine wpAnyL_tk 1 ?_;refine wpAnyL_tk 2 ?_;refine wpAnyL_tk 3 ?_;refine wpAnyL_tk 4 ?_;refine wpAnyL_tk 5 ?_;refine wpAnyL_tk 6 ?_;refine wpAnyL_tk 7 ?_;refine wpAnyL_tk 8 ?_;refine wpAnyL_tk 9 ?_;refine wpAnyL_tk 10 ?_;refine wpAnyL_tk 11 ?_;refine wpAnyL_tk 12 ?_;refine wpAnyL_ls 13 (fun K hK => ?_);go_simp;refine hK.out _ _ ?_;clear hK K;refine lay ?_;refine wpAnyL_done (by kernel_rfl) ?_ _;go_wp2_with fail;go_end0
  have hfinal : R.step X.gs = R8.goOn x.next := by
   rw [Hop2.out];unfold stepN;dsimp only;rw [if_neg (by rw [Hop.out]; omega)]; rw [if_neg (by rw [Hop.out]; omega)]; rw [if_neg (by rw [Hop.out]; omega)]; rw [if_neg (by rw [Hop.out]; omega)]; rw [if_neg (by rw [Hop.out]; omega)]; rw [if_neg (by rw [Hop.out]; omega)]; rw [if_neg (by rw [Hop.out]; omega)]; rw [if_neg (by rw [Hop.out]; omega)]; rw [if_neg (by rw [Hop.out]; omega)]; rw [if_neg (by rw [Hop.out]; omega)]; rw [if_neg (by rw [Hop.out]; omega)]; rw [if_neg (by rw [Hop.out]; omega)]; rw [if_neg (by rw [Hop.out]; omega)]; rw [if_neg (by rw [Hop.out]; omega)]; rw [if_neg (by rw [Hop.out]; omega)]; rw [if_pos Hop.out]; rw [Hv0.out, <- HR8.out, <- HR5.out, HR3e.out]
  first
   | exact ⟨rfl, by rw [hfinal]; exact H9.out, Hb9.out⟩
   | exact ⟨rfl, by rw [hfinal]; exact H9.out.drew, Hb9.out.drew⟩
end
end Go.Proofs.Ytncpehhfjkncoaa
