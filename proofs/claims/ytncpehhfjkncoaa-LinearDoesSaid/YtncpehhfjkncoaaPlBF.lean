/- Walk of one node of the document's run: operation 13. Conditions: the run lies in memory, it is right. -/
import Derived.Test.YtncpehhfjkncoaaPlAA
import Derived.Test.YtncpehhfjkncoaaPlBE
set_option linter.unusedVariables false
set_option linter.unusedSimpArgs false
set_option maxRecDepth 100000
set_option maxHeartbeats 16000000
namespace Go.Proofs.Ytncpehhfjkncoaa
open Go.RowKit

section
variable {w : World} {base N f i : Nat} {X : RunX} {R : RunD} {rest : List It} {g : GraphD} {x : NodeD}
theorem qstep_13 (hp : StepPre w base X R rest N f i g x) (hop : x.op = 13) :
  Calls Try.prog 15 #[.pointer (some ⟨X.rp, 0, none⟩)] w fun e w' => RunGot base X rest w (.tuple #[]) (R.step X.gs) e w' := by
 have hx0 := hp.st;have hgs0 := hp.h.gs;obtain ⟨hg, h, ok, sz, hN, hst, hgm, hxm, hend, hsteps, hnd⟩ := hp
 have hop2 : R.step X.gs = stepN X.gs { R with steps := R.steps + 1 } x := by rw [step_eq, hst.node]
 obtain ⟨V, hV⟩ := h.run;obtain ⟨GA, gc, hgv, _, _⟩ := h.gs.slice;have hgs := h.gs;rw [hgv] at hgs;obtain ⟨ad, pv, kv, iv, nv, hAd, hfl, hM⟩ := GraphsAt.at_ hgs hst.gr;subst hAd;obtain ⟨NA, nn, nc, css, hne, hrest⟩ := hM.nodes
 have hNo : RowsAt 12 NodeAt w X.B (.slice NA nn nc) g.nodes := ⟨NA, nn, nc, css, rfl, hrest⟩
 subst hne;obtain ⟨nad, av, hNA, hin, hC⟩ := node_at hNo hst.nd;subst hNA;have hb := hV.blk;obtain ⟨F, hF⟩ := mn (X.gs.length);have b9 : w.cell? ⟨X.rp, 9, none⟩ = some (.int .i64 R.steps) := hb.cell 9;have b9f := hb.frozen 9;rw [hF] at hfl;obtain ⟨AA, ac, hae, _⟩ := hC.args.slice;obtain ⟨m, hm⟩ := mn (x.args.length);rw [hm] at hae
 have hfi : (f : Int) < F := by omega
 have hii : (i : Int) < nn := by omega
 obtain ⟨st, hste⟩ := mn (R.steps);rw [hste] at b9
 have hsw : IntKind.i64.wrap (st + 1) = st + 1 := by rw [IntKind.wrap_i64]; omega
 obtain ⟨R1, hR1⟩ := nm ({ R with steps := R.steps + 1 } : RunD);have hV1 := hV.setF (R' := R1) 9 (.int .i64 (st + 1)) (by rw [hR1, hste]; rfl) (by rw [hR1]; exact ⟨rfl, rfl, rfl, rfl, rfl⟩);have hb1 := (Below.refl base w).setCell (p := ⟨X.rp, 9, none⟩) hV.size_.1 (.int .i64 (st + 1));rw [<- hR1] at hop2
 have hgA : gAt X.gs R.top.f = g := by
  unfold gAt;rw [hst.fr, Int.toNat_natCast, List.getD_eq_getElem?_getD, hst.gr]; rfl
 have htop := ok.top hst.ne
 have hkl : R1.top.places.length = g.kinds.length := by rw [hR1, <- hgA]; exact htop.places.1
 have hcl : R1.top.cells.length = g.cells.toNat := by rw [hR1, <- hgA]; exact htop.cells.1
 have hst1 : Stand X.gs R1 f i g x := by rw [hR1]; exact ⟨hst.ne, hst.fr, hst.gr, hst.an, hst.nd⟩
 have ok1 : RunOk X.gs 0 R1 := by rw [hR1]; exact ⟨ok.regs, ok.row, ok.calls, ok.list, ok.tape, ok.events⟩
 have sz1 : Sz N R1 := by rw [hR1]; exact ⟨sz.row, sz.list, sz.waits⟩
 have hend1 : R1.endK = 0 := by rw [hR1]; exact hend
 obtain ⟨H, HV, Hgv, Hgs, HM, HNo, HC, Hb⟩ := hd8 h hV hgv hgs hM hNo hC hb;obtain ⟨HF, Hae, Hm, Hst, Hgs0, HR1, Hop2, HV1⟩ := hd8 hF hae hm hst hgs0 hR1 hop2 hV1;obtain ⟨Hb1, Hst1, Hok1, Hsz1, Hend1, Hnd, Hx0, Hend⟩ := hd8 hb1 hst1 ok1 sz1 hend1 hnd hx0 hend;obtain ⟨Hste, Hok0, Hsz, HgA, Hkl, Hcl, Htop⟩ := hd7 hste ok sz hgA hkl hcl htop;clear htop hcl hkl hgA sz ok hste hend hx0 hnd hend1 sz1 ok1 hst1 hb1 hV1 hop2 hR1 hgs0 hst hm hae hF hb hC hNo hM hgs hgv hV h;go_enter Try.func15, Try.ntmps15;go_upto_region 1 with fail;obtain ⟨w1, hw1⟩ := nm (w.setCell ⟨X.rp, 9, none⟩ (.int .i64 (st + 1)));have hV1 := HV1.out;have hb1 := Hb1.out;rw [<- hw1] at hV1 hb1 ⊢;clear b9 b9f HV1 Hb1;obtain ⟨gr, c, n, vv, s, hv, hT⟩ := hV1.top Hst1.out.ne;have hlen := hT.len;have hrow1 := Hsz1.out.row
 have b3 : w1.cell? ⟨X.rp, 3, none⟩ = some (.slice (some ⟨gr, 0, none⟩) (n + 1) c) := by
  have := hV1.blk.cell 3;rw [this, <- hT.rv]; rfl
 have hn1 : IntKind.i64.wrap (n : Int) = n := by rw [IntKind.wrap_i64]; omega
 have hn2 : (n : Int) < n + 1 := by omega
 obtain ⟨HV1, Hb1, Hw1, HT, Hlen⟩ := hd5 hV1 hb1 hw1 hT hlen;clear hlen hT hw1 hb1 hV1
 go_quiet (fail)
 have hVq := HV1.out.drewN nq;have hbq := below_drewN Hb1.out nq;obtain ⟨wq, hwq⟩ := nm (w1.drewN nq);rw [<- hwq] at hVq hbq ⊢;clear b3;have hTq := hVq.topAt Hst1.out.ne hv HT.out.rv;have hgsq := Hgs.out.below (hbq.mono H.out.le);have hNoq := Hgs.out
 have hCq : NodeC wq X.B (nad.add (i * 12)) x av := HC.out.keep fun p hp => (hbq.mono H.out.le).cell hp
 obtain ⟨GB, hGB⟩ := mn (wq.heap.size)
 have hBq : X.B <= GB := by have := H.out.le; have := hVq.size_.2; omega
 have hadl : (ad.add (f * 8)).block < GB := by have := HM.out.lt; omega
 have hnal : (nad.add (i * 12)).block < GB := by have := HC.out.lt; omega
 have b0 : wq.cell? ⟨X.rp, 0, none⟩ = some (.slice (some ad) F gc) := by
  have := hVq.blk.cell 0;rw [this, <- HF.out, <- Hgv.out]; rfl
 have c6 : wq.cell? ⟨(ad.add (f * 8)).block, (ad.add (f * 8)).off + 6, none⟩ = some (.slice (some nad) nn nc) := ((hbq.mono H.out.le).cell (p := ⟨(ad.add (f * 8)).block, _, none⟩) HM.out.lt).trans HM.out.c6
 have f0 : wq.cell? ⟨gr, n * 9, none⟩ = some (.int .i64 (f : Nat)) := by rw [hTq.f0, Hst1.out.fr]
 have f1 : wq.cell? ⟨gr, n * 9 + 1, none⟩ = some (.int .i64 (i : Nat)) := by rw [hTq.f1, Hst1.out.an]
 have a0 := hCq.c0;rw [hop] at a0;have a9 := hCq.c9;rw [Hae.out] at a9
 have hrpl : X.rp < GB := by rw [<- hGB]; exact hVq.blk.lt
 have hgrl : gr < GB := by rw [<- hGB]; exact hTq.lt
 have hS : ∀ W : World, (∀ p : Addr, p.block < GB -> W.cell? p = wq.cell? p) -> W.cell? ⟨X.rp, 0, none⟩ = some (.slice (some ad) F gc) /\ W.cell? ⟨gr, n * 9, none⟩ = some (.int .i64 (f : Nat)) /\ W.cell? ⟨gr, n * 9 + 1, none⟩ = some (.int .i64 (i : Nat)) /\ W.cell? ⟨(ad.add (f * 8)).block, (ad.add (f * 8)).off + 6, none⟩ = some (.slice (some nad) nn nc) /\ W.cell? (nad.add (i * 12)) = some (.int .u8 13) /\ W.cell? ⟨(nad.add (i * 12)).block, (nad.add (i * 12)).off + 1, none⟩ = some (.int .u8 x.byo) /\ W.cell? ⟨(nad.add (i * 12)).block, (nad.add (i * 12)).off + 2, none⟩ = some (.int .i64 x.d) /\ W.cell? ⟨(nad.add (i * 12)).block, (nad.add (i * 12)).off + 3, none⟩ = some (.int .i64 x.e) /\ W.cell? ⟨(nad.add (i * 12)).block, (nad.add (i * 12)).off + 4, none⟩ = some (.int .i64 x.a) /\ W.cell? ⟨(nad.add (i * 12)).block, (nad.add (i * 12)).off + 5, none⟩ = some (.int .i64 x.b) /\ W.cell? ⟨(nad.add (i * 12)).block, (nad.add (i * 12)).off + 6, none⟩ = some (.int .i64 x.f) /\ W.cell? ⟨(nad.add (i * 12)).block, (nad.add (i * 12)).off + 7, none⟩ = some (.int .i64 x.cell) /\ W.cell? ⟨(nad.add (i * 12)).block, (nad.add (i * 12)).off + 8, none⟩ = some (.int .u64 x.imm) /\ W.cell? ⟨(nad.add (i * 12)).block, (nad.add (i * 12)).off + 9, none⟩ = some (.slice AA m ac) /\ W.cell? ⟨(nad.add (i * 12)).block, (nad.add (i * 12)).off + 10, none⟩ = some (.int .i64 x.next) /\ W.cell? ⟨(nad.add (i * 12)).block, (nad.add (i * 12)).off + 11, none⟩ = some (.int .i64 x.els) := fun W hW => by
  have gn : ∀ j, W.cell? ⟨(nad.add (i * 12)).block, (nad.add (i * 12)).off + j, none⟩ = wq.cell? ⟨(nad.add (i * 12)).block, (nad.add (i * 12)).off + j, none⟩ := fun j => hW _ hnal
  exact ⟨(hW _ hrpl).trans b0, (hW _ hgrl).trans f0, (hW _ hgrl).trans f1, (hW ⟨(ad.add (f * 8)).block, _, none⟩ hadl).trans c6, (hW _ hnal).trans a0, (gn 1).trans hCq.c1, (gn 2).trans hCq.c2, (gn 3).trans hCq.c3, (gn 4).trans hCq.c4, (gn 5).trans hCq.c5, (gn 6).trans hCq.c6, (gn 7).trans hCq.c7, (gn 8).trans hCq.c8, (gn 9).trans a9, (gn 10).trans hCq.c10, (gn 11).trans hCq.c11⟩
 have hSq := hS wq fun _ _ => rfl
 clear b0 c6 f0 f1 a0 a9;obtain ⟨Hwq, HVq, Hbq, HTq, HCq, HS, Hgsq, HNoq⟩ := hd8 hwq hVq hbq hTq hCq hS hgsq hNoq;have Hop := Lib.hid hop;clear hop hNoq hgsq hS hCq hTq hbq hVq hwq;go_upto_region 2 with fail
 refine wp_region_late (S := fun W => W.cell? ⟨X.rp, 0, none⟩ = some (.slice (some ad) F gc) /\ W.cell? ⟨gr, n * 9, none⟩ = some (.int .i64 (f : Nat)) /\ W.cell? ⟨gr, n * 9 + 1, none⟩ = some (.int .i64 (i : Nat)) /\ W.cell? ⟨(ad.add (f * 8)).block, (ad.add (f * 8)).off + 6, none⟩ = some (.slice (some nad) nn nc) /\ W.cell? (nad.add (i * 12)) = some (.int .u8 13) /\ W.cell? ⟨(nad.add (i * 12)).block, (nad.add (i * 12)).off + 1, none⟩ = some (.int .u8 x.byo) /\ W.cell? ⟨(nad.add (i * 12)).block, (nad.add (i * 12)).off + 2, none⟩ = some (.int .i64 x.d) /\ W.cell? ⟨(nad.add (i * 12)).block, (nad.add (i * 12)).off + 3, none⟩ = some (.int .i64 x.e) /\ W.cell? ⟨(nad.add (i * 12)).block, (nad.add (i * 12)).off + 4, none⟩ = some (.int .i64 x.a) /\ W.cell? ⟨(nad.add (i * 12)).block, (nad.add (i * 12)).off + 5, none⟩ = some (.int .i64 x.b) /\ W.cell? ⟨(nad.add (i * 12)).block, (nad.add (i * 12)).off + 6, none⟩ = some (.int .i64 x.f) /\ W.cell? ⟨(nad.add (i * 12)).block, (nad.add (i * 12)).off + 7, none⟩ = some (.int .i64 x.cell) /\ W.cell? ⟨(nad.add (i * 12)).block, (nad.add (i * 12)).off + 8, none⟩ = some (.int .u64 x.imm) /\ W.cell? ⟨(nad.add (i * 12)).block, (nad.add (i * 12)).off + 9, none⟩ = some (.slice AA m ac) /\ W.cell? ⟨(nad.add (i * 12)).block, (nad.add (i * 12)).off + 10, none⟩ = some (.int .i64 x.next) /\ W.cell? ⟨(nad.add (i * 12)).block, (nad.add (i * 12)).off + 11, none⟩ = some (.int .i64 x.els))
  #[false, false, false, false, false, false, false, false, false, false, false, false, false, false, false, false, false, false, false, true] (by kernel_rfl) hSq (fun hHeld => ?_)
 refine wpAnyL_tk 0 ?_;refine wpAnyL_tk 1 ?_;refine wpAnyL_tk 2 ?_;refine wpAnyL_tk 3 ?_;refine wpAnyL_tk 4 ?_;refine wpAnyL_tk 5 ?_;refine wpAnyL_tk 6 ?_;refine wpAnyL_tk 7 ?_;refine wpAnyL_tk 8 ?_;refine wpAnyL_tk 9 ?_;refine wpAnyL_tk 10 ?_;refine wpAnyL_tk 11 ?_;refine wpAnyL_tk 12 ?_;refine wpAnyL_tk 13 ?_;refine wpAnyL_tk 14 ?_;refine wpAnyL_tk 15 ?_;refine wpAnyL_tk 16 ?_;refine wpAnyL_tk 17 ?_;refine wpAnyL_rd 18 (fun K hK => ?_);go_simp;refine hK.out _ _ (HS.out _ fun p hp => World.cell?_alloc_lt _ _ p (by rw [hGB]; exact hp)) (fun hHeld2 => ?_);clear hK K hHeld;refine lay ?_;refine wpAnyL_ls 19 (fun K hK => ?_);go_simp;refine hK.out _ _ ?_;clear hK K;refine lay ?_;refine wpAnyL_done (by kernel_rfl) ?_ _;have hV2 := (HVq.out.box 52 #[.int .u8 13, .int .u8 x.byo, .int .i64 x.d, .int .i64 x.e, .int .i64 x.a, .int .i64 x.b, .int .i64 x.f, .int .i64 x.cell, .int .u64 x.imm, .slice AA m ac, .int .i64 x.next, .int .i64 x.els]).drew;have hb2 := (Hbq.out.alloc HVq.out.size_.2 (.cells #[.int .u8 13, .int .u8 x.byo, .int .i64 x.d, .int .i64 x.e, .int .i64 x.a, .int .i64 x.b, .int .i64 x.f, .int .i64 x.cell, .int .u64 x.imm, .slice AA m ac, .int .i64 x.next, .int .i64 x.els] 52)).drew;obtain ⟨W2, hW2⟩ := nm ((wq.alloc (.cells #[.int .u8 13, .int .u8 x.byo, .int .i64 x.d, .int .i64 x.e, .int .i64 x.a, .int .i64 x.b, .int .i64 x.f, .int .i64 x.cell, .int .u64 x.imm, .slice AA m ac, .int .i64 x.next, .int .i64 x.els] 52)).drew);rw [<- hW2] at hV2 hb2 ⊢;rw [hGB] at hV2;obtain ⟨rest1, hrest1⟩ := nm (It.blk GB 52 #[.int .u8 13, .int .u8 x.byo, .int .i64 x.d, .int .i64 x.e, .int .i64 x.a, .int .i64 x.b, .int .i64 x.f, .int .i64 x.cell, .int .u64 x.imm, .slice AA m ac, .int .i64 x.next, .int .i64 x.els] :: rest);rw [<- hrest1] at hV2
 have h2 : RunAt W2 base X R1 rest1 := ⟨H.out.le, H.out.gs.below (hb2.mono H.out.le), _, hV2⟩
 have hGm : It.blk GB 52 #[.int .u8 13, .int .u8 x.byo, .int .i64 x.d, .int .i64 x.e, .int .i64 x.a, .int .i64 x.b, .int .i64 x.f, .int .i64 x.cell, .int .u64 x.imm, .slice AA m ac, .int .i64 x.next, .int .i64 x.els] ∈ rest1 := by rw [hrest1]; exact List.mem_cons_self
 have hrd : ∀ (W : World) (Q : RunD), RunAt W base X Q rest1 -> RunAt W base X Q rest := fun W Q hQ => by
  rw [hrest1] at hQ;exact hQ.drop
 have hNB2 : Blk W2 GB 52 #[.int .u8 13, .int .u8 x.byo, .int .i64 x.d, .int .i64 x.e, .int .i64 x.a, .int .i64 x.b, .int .i64 x.f, .int .i64 x.cell, .int .u64 x.imm, .slice AA m ac, .int .i64 x.next, .int .i64 x.els] := (h2.mem hGm).2;have hT2 := hV2.topAt Hst1.out.ne hv HT.out.rv;have k0 := bc hNB2 0;have k1 := bc hNB2 1;have k2 := bc hNB2 2;have k3 := bc hNB2 3;have k4 := bc hNB2 4;have k5 := bc hNB2 5;have k6 := bc hNB2 6;have k7 := bc hNB2 7;have k8 := bc hNB2 8;have k9 := bc hNB2 9;have k10 := bc hNB2 10;have k11 := bc hNB2 11;clear hHeld2 hSq;obtain ⟨HV2, Hb2, HW2, Hrest1, H2, HGm, Hrd, HNB2⟩ := hd8 hV2 hb2 hW2 hrest1 h2 hGm hrd hNB2;have HT2 := Lib.hid hT2;clear hT2 hNB2 hrd hGm h2 hrest1 hW2 hb2 hV2;have hab := (hg.nd g hgm x hxm).2 (by have := Hop.out; omega);obtain ⟨hxl, hxp⟩ := argsB_args hab (fun gg hgg => by obtain ⟨j, hj⟩ := List.getElem?_of_mem hgg; exact (hg.push j gg _ hj rfl).n)
 obtain ⟨f2, hf2⟩ : ∃ f2 : Nat, x.f = f2 := ⟨x.f.toNat, by have := Hnd.out.f (by have := Hop.out; omega); omega⟩
 have hf2l : f2 < X.gs.length := by have := Hnd.out.f (by have := Hop.out; omega); omega
 have hg2 : X.gs[f2]? = some X.gs[f2] := List.getElem?_eq_getElem hf2l
 have hal : x.args.length = (X.gs[f2]).params.length := by
  unfold argsB at hab;rw [Bool.and_eq_true, hf2, Int.toNat_natCast, hg2] at hab;simp only [Bool.and_eq_true, decide_eq_true_eq] at hab;exact hab.2.1
 obtain ⟨iD, hiD, dz0, dz1, dz2⟩ := info_parts infoDefd;have hwv := HT2.out.wv;obtain ⟨WA, wc, hwve, _⟩ := own_any hwv;obtain ⟨WN, hWN⟩ := mn (R1.top.waits.length);rw [hWN] at hwve hwv
 have hWNl : WN <= N := by rw [<- hWN]; exact Nat.le_trans (top_waits Hst1.out.ne) Hsz1.out.waits
 have f5 := HT2.out.f5;rw [hwve] at f5;rw [hf2] at k6
 have hral : (R1.args x).length = x.args.length := by unfold RunD.args; rw [List.length_map]
 have hSW : ∀ W : World, (∀ p : Addr, p.block < W2.heap.size -> W.cell? p = W2.cell? p) -> W.cell? ⟨GB, 0, none⟩ = some (.int .u8 13) /\ W.cell? ⟨GB, 1, none⟩ = some (.int .u8 x.byo) /\ W.cell? ⟨GB, 2, none⟩ = some (.int .i64 x.d) /\ W.cell? ⟨GB, 3, none⟩ = some (.int .i64 x.e) /\ W.cell? ⟨GB, 4, none⟩ = some (.int .i64 x.a) /\ W.cell? ⟨GB, 5, none⟩ = some (.int .i64 x.b) /\ W.cell? ⟨GB, 6, none⟩ = some (.int .i64 (f2 : Nat)) /\ W.cell? ⟨GB, 7, none⟩ = some (.int .i64 x.cell) /\ W.cell? ⟨GB, 8, none⟩ = some (.int .u64 x.imm) /\ W.cell? ⟨GB, 9, none⟩ = some (.slice AA m ac) /\ W.cell? ⟨GB, 10, none⟩ = some (.int .i64 x.next) /\ W.cell? ⟨GB, 11, none⟩ = some (.int .i64 x.els) /\ W.cell? ⟨gr, n * 9 + 5, none⟩ = some (.slice WA WN wc) := fun W hW => by
  have gb : ∀ j, W.cell? ⟨GB, j, none⟩ = W2.cell? ⟨GB, j, none⟩ := fun j => hW _ HNB2.out.lt
  exact ⟨(gb 0).trans k0, (gb 1).trans k1, (gb 2).trans k2, (gb 3).trans k3, (gb 4).trans k4, (gb 5).trans k5, (gb 6).trans k6, (gb 7).trans k7, (gb 8).trans k8, (gb 9).trans k9, (gb 10).trans k10, (gb 11).trans k11, (hW _ HT2.out.lt).trans f5⟩
 have hSW0 := hSW W2 fun _ _ => rfl
 have hargs := qargs2_any H2.out.drew Hst1.out.ne (by have := Hsz1.out.row; omega) (x := x) (av := .slice AA m ac) (by have := HC.out.args.below (Hb2.out.mono H.out.le); rw [Hae.out] at this; exact this) (fun p hp => ⟨(hxp p hp).1, .inl (by have := (hxp p hp).2; omega)⟩) (by omega);rw [show (ncells x (.slice AA m ac)).toArray = #[.int .u8 13, .int .u8 x.byo, .int .i64 x.d, .int .i64 x.e, .int .i64 x.a, .int .i64 x.b, .int .i64 (f2 : Nat), .int .i64 x.cell, .int .u64 x.imm, .slice AA m ac, .int .i64 x.next, .int .i64 x.els] by unfold ncells; rw [Hop.out, hf2]] at hargs;have hrpl2 := HV2.out.blk.lt;have hgrl2 := HT2.out.lt;clear k0 k1 k2 k3 k4 k5 k6 k7 k8 k9 k10 k11 f5;obtain ⟨Hwv, Hwve, HWN, Hral, HSW, Hargs, Hal, Hxl⟩ := hd8 hwv hwve hWN hral hSW hargs hal hxl;obtain ⟨Hxp, Hab, Hf2⟩ := hd3 hxp hab hf2;clear hf2 hab hxp hxl hal hargs hSW hral hWN hwve hwv;go_upto_region 42 with fail;refine wp_region_late (S := fun W => W.cell? ⟨GB, 0, none⟩ = some (.int .u8 13) /\ W.cell? ⟨GB, 1, none⟩ = some (.int .u8 x.byo) /\ W.cell? ⟨GB, 2, none⟩ = some (.int .i64 x.d) /\ W.cell? ⟨GB, 3, none⟩ = some (.int .i64 x.e) /\ W.cell? ⟨GB, 4, none⟩ = some (.int .i64 x.a) /\ W.cell? ⟨GB, 5, none⟩ = some (.int .i64 x.b) /\ W.cell? ⟨GB, 6, none⟩ = some (.int .i64 (f2 : Nat)) /\ W.cell? ⟨GB, 7, none⟩ = some (.int .i64 x.cell) /\ W.cell? ⟨GB, 8, none⟩ = some (.int .u64 x.imm) /\ W.cell? ⟨GB, 9, none⟩ = some (.slice AA m ac) /\ W.cell? ⟨GB, 10, none⟩ = some (.int .i64 x.next) /\ W.cell? ⟨GB, 11, none⟩ = some (.int .i64 x.els) /\ W.cell? ⟨gr, n * 9 + 5, none⟩ = some (.slice WA WN wc)) #[false, false, false, false, false, false, false, false, false, false, false, false, false, false, false, true] (by kernel_rfl) hSW0 (fun hHeld => ?_);refine wpAnyL_tk 0 ?_;refine wpAnyL_tk 1 ?_;refine wpAnyL_tk 2 ?_;refine wpAnyL_tk 3 ?_;refine wpAnyL_tk 4 ?_;refine wpAnyL_tk 5 ?_;refine wpAnyL_tk 6 ?_;refine wpAnyL_tk 7 ?_;refine wpAnyL_tk 8 ?_;refine wpAnyL_rd 9 (fun K hK => ?_);go_simp;refine Hargs.out.mono ?_;rintro e w3 ⟨av3, rfl, ho3, hb3'⟩
 replace hb3' : Below W2.heap.size W2 w3 := Below.of_drew hb3'
 replace ho3 : w3.ownsRow W2.heap.size 34 1 av3 (R1.args x).length (u64s (R1.args x)) := ho3
 have hV3 := HV2.out.below hb3';have hb3 : Below base w w3 := Hb2.out.trans (hb3'.mono HV2.out.size_.2);have ho3b := own_base ho3 HV2.out.size_.2;have hI3 : Items w3 base (.row av3 34 1 (R1.args x).length (u64s (R1.args x)) :: (runIts X V R1 ++ rest1)) := HV2.out.its.new (only_of_below hb3' none) ho3b (fun b e => (World.ownsRow.lt ho3 b e).1);obtain ⟨A3, c3, hv3, _⟩ := own_any ho3
 have hk3 : ∀ p : Addr, p.block < W2.heap.size -> w3.cell? p = W2.cell? p := fun p hp => hb3'.cell hp
 refine hK.out _ _ (HSW.out _ hk3) (fun hHeld3 => ?_);clear hK K hHeld;refine lay ?_;rw [hv3] at hI3 ⊢;obtain ⟨rl, hrl⟩ := mn ((R1.args x).length);rw [hrl];have hV4 := hV3.alloc (.cells #[.int .i64 (f2 : Nat), .slice A3 rl c3] 93);have hI4 := hI3.alloc (.cells #[.int .i64 (f2 : Nat), .slice A3 rl c3] 93);have hb4 := hb3.alloc hV3.size_.2 (.cells #[.int .i64 (f2 : Nat), .slice A3 rl c3] 93);have hr4 : Reads (w3.alloc (.cells #[.int .i64 (f2 : Nat), .slice A3 rl c3] 93)) (w3.heap.size + 1) 2 (some ⟨w3.heap.size, 0, none⟩) 1 [.int .i64 (f2 : Nat), .slice A3 rl c3] := Reads.newS _ rfl _ _ _ _ _ rfl rfl
 have hk4 : ∀ p : Addr, p.block < W2.heap.size -> (w3.alloc (.cells #[.int .i64 (f2 : Nat), .slice A3 rl c3] 93)).cell? p = W2.cell? p := fun p hp => (World.cell?_alloc_lt _ _ p (by have := hb3'.size; omega)).trans (hk3 p hp)
 obtain ⟨HV3, HI3, Hb3, Hb3', Ho3, Ho3b, Hv3, Hrl⟩ := hd8 hV3 hI3 hb3 hb3' ho3 ho3b hv3 hrl;obtain ⟨Hk3, HV4, HI4, Hb4, Hr4, Hk4⟩ := hd6 hk3 hV4 hI4 hb4 hr4 hk4;clear hk4 hr4 hb4 hI4 hV4 hk3 hrl hv3 ho3b ho3 hb3' hb3 hI3 hV3;refine wpAnyL_tk 10 ?_;refine wpAnyL_rd 11 (fun K hK => ?_);go_simp;refine hK.out _ _ (HSW.out _ Hk4.out) (fun hHeld4 => ?_);clear hK K hHeld3;refine lay ?_;refine wpAnyL_rd 12 (fun K hK => ?_);refine step_append_any _ rfl (.tmp 251) (.tmp 258) _ rfl base 93 iD _ 2 32 Try.underlying80 hiD dz0 dz1 dz2 rfl (by omega) (.slice WA WN wc) WN (waitCells R1.top.waits vv.av) rfl (by have := (HV4.out.topAt Hst1.out.ne hv HT.out.rv).wv; rw [Hwve.out, HWN.out] at this; exact this) (w3.heap.size + 1) (some ⟨w3.heap.size, 0, none⟩) 1 1 [.int .i64 (f2 : Nat), .slice A3 rl c3] rfl Hr4.out ?c1 ?c2 ?c3 ?c4 ?_
 case c1 => intro u hu; simp only [List.mem_cons, List.not_mem_nil, or_false] at hu; rcases hu with rfl | rfl <;> rfl
 case c2 => simp only [maxLen]; omega
 case c3 => omega
 case c4 => exact HV4.out.size_.2
 intro v7 w7 hown7 hg7 hat7;obtain ⟨w4, hw4⟩ := nm (w3.alloc (.cells #[.int .i64 (f2 : Nat), .slice A3 rl c3] 93));have hV4 := HV4.out;have hI4 := HI4.out;have hb4 := Hb4.out;have hk4 := Hk4.out;rw [<- hw4] at hV4 hI4 hb4 hk4 hg7 hat7;rw [<- Hwve.out] at hg7 hat7;have hT4 := hV4.topAt Hst1.out.ne hv HT.out.rv;obtain ⟨hne1, hne2, hne3⟩ := hV4.wv_ne Hst1.out.ne hT4 hv;obtain ⟨A7, c7, hv7, _⟩ := own_any hown7;obtain ⟨R9, hR9⟩ := mn (R1.setTop { R1.top with waits := R1.top.waits ++ [((f2 : Int), R1.args x)] })
 have hV9 := hV4.addWait hT4 hv (d := ((f2 : Int), R1.args x)) (a := .slice A3 rl c3) (wv' := v7) (by rw [<- Hrl.out]; exact hI4) (by rw [HWN.out]; exact hown7) hg7 (by
  rcases hat7 with e | e
  ·exact .inl e
  ·exact .inr fun b hb => by rw [e] at hb; injection hb with hb; omega)
 rw [hR9] at hV9;have hb9 := (hb4.grown hg7 hV4.size_.2 (fun b e => (hT4.wv.lt b e).1)).setCell (p := ⟨gr, n * 9 + 5, none⟩) hT4.le v7;have hgrl4 : gr < w4.heap.size := hT4.lt
 have hGBl : GB < w4.heap.size := by have := HNB2.out.lt; have := Hb3'.out.size; rw [hw4]; simp; omega
 have hGm7 := hne3 (.blk GB 52 #[.int .u8 13, .int .u8 x.byo, .int .i64 x.d, .int .i64 x.e, .int .i64 x.a, .int .i64 x.b, .int .i64 x.f, .int .i64 x.cell, .int .u64 x.imm, .slice AA m ac, .int .i64 x.next, .int .i64 x.els]) HGm.out GB rfl
 have hf7 : ∀ j, w7.cell? ⟨gr, j, none⟩ = W2.cell? ⟨gr, j, none⟩ := fun j => (hg7.cell_far ⟨gr, j, none⟩ hgrl4 hne2).trans (hk4 _ hgrl2)
 have hb7 : ∀ j, w7.cell? ⟨GB, j, none⟩ = W2.cell? ⟨GB, j, none⟩ := fun j => (hg7.cell_far ⟨GB, j, none⟩ hGBl hGm7).trans (hk4 _ HNB2.out.lt)
 have hffz : w7.frozen? ⟨gr, n * 9 + 5, none⟩ = false := (hg7.frozen_far ⟨gr, n * 9 + 5, none⟩ hgrl4 hne2).trans (hT4.fz _)
 obtain ⟨s0, s1, s2, s3, s4, s5, s6, s7, s8, s9, s10, s11, s12⟩ := HSW.out W2 fun _ _ => rfl
 rw [hv7] at hV9 hb9 ⊢;obtain ⟨w9, hw9⟩ := nm (w7.setCell ⟨gr, n * 9 + 5, none⟩ (.slice A7 (WN + 1) c7));rw [<- hw9] at hV9 hb9
 have h9' : RunAt w9 base X R9 rest1 := ⟨H.out.le, H.out.gs.below (hb9.mono H.out.le), _, hV9⟩
 have hf75 := (hf7 (n * 9 + 5)).trans s12;refine hK.out _ _ ⟨(hb7 0).trans s0, (hb7 1).trans s1, (hb7 2).trans s2, (hb7 3).trans s3, (hb7 4).trans s4, (hb7 5).trans s5, (hb7 6).trans s6, (hb7 7).trans s7, (hb7 8).trans s8, (hb7 9).trans s9, (hb7 10).trans s10, (hb7 11).trans s11, hf75⟩ (fun hHeld7 => ?_);clear hK K s0 s1 s2 s3 s4 s5 s6 s7 s8 s9 s10 s11 s12 hHeld4
 have hR9n : R9.row ≠ [] := by rw [<- hR9]; exact (setTop_row _).1
 have hR9l : R9.row.length = R1.row.length := by
  rw [<- hR9];show R1.row.tail.length + 1 = _;rw [List.length_tail];have := List.length_pos_iff.mpr Hst1.out.ne
  omega
 have hR9w : R9.waiting <= 1000000 := by
  have h1 := setTop_wait Hst1.out.ne { R1.top with waits := R1.top.waits ++ [((f2 : Int), R1.args x)] };rw [hR9] at h1;simp only [List.length_append, List.length_singleton] at h1;have := Hsz1.out.waits
  omega
 have hwt := waiting_any h9' (by rw [hR9l]; have := Hsz1.out.row; omega) (by omega);obtain ⟨wt, hwte⟩ := mn (R9.waiting);rw [hwte] at hwt;obtain ⟨HV4, HI4, Hb4, Hk4, HT4, Hne1, Hne2, Hne3⟩ := hd8 hV4 hI4 hb4 hk4 hT4 hne1 hne2 hne3;obtain ⟨Hown7, Hg7, Hat7, Hv7, HR9, HV9, Hb9, H9'⟩ := hd8 hown7 hg7 hat7 hv7 hR9 hV9 hb9 h9';obtain ⟨HGm7, Hf7, Hb7, Hw4, HR9n, HR9l, HR9w, Hwt⟩ := hd8 hGm7 hf7 hb7 hw4 hR9n hR9l hR9w hwt;have Hwte := Lib.hid hwte;clear hwte hwt hR9w hR9l hR9n hw4 hb7 hf7 hGm7 h9' hb9 hV9 hR9 hv7 hat7 hg7 hown7 hne3 hne2 hne1 hT4 hk4 hb4 hI4 hV4;refine lay ?_;refine wpAnyL_tk 13 ?_;refine wpAnyL_tk 14 ?_;refine wpAnyL_ls 15 (fun K hK => ?_);go_simp
 try rw [<- hw9]
 refine hK.out _ _ ?_;clear hK K;refine lay ?_;refine wpAnyL_done (by kernel_rfl) ?_ _
 try rw [<- hw9]
 have Hw9 := Lib.hid hw9;clear hw9;clear hf75 hffz hHeld7 hSW0;go_wp2_with fail;refine Hwt.out.mono ?_;rintro e wx ⟨rfl, rfl⟩;obtain ⟨dd, hdd⟩ := mn (R9.defers)
 have e11 : w9.cell? ⟨X.rp, 11, none⟩ = some (.int .i64 dd) := by
  have := HV9.out.blk.cell 11;rw [this, <- hdd]; rfl
 have e11f := HV9.out.blk.frozen 11;have hwl : R9.waiting = wt := Hwte.out
 by_cases hdw : dd < (wt : Int)
 ·have hV10 := HV9.out.setF (R' := { R9 with defers := (wt : Int) }) 11 (.int .i64 (wt : Nat)) rfl ⟨rfl, rfl, rfl, rfl, rfl⟩;have hb8 := Hb9.out.setCell (p := ⟨X.rp, 11, none⟩) HV9.out.size_.1 (.int .i64 (wt : Nat));obtain ⟨R8, hR8⟩ := mn (({ R9 with defers := (wt : Int) } : RunD) : RunD);rw [hR8] at hV10;obtain ⟨w8, hw8⟩ := nm (w9.setCell ⟨X.rp, 11, none⟩ (.int .i64 (wt : Nat)));rw [<- hw8] at hV10 hb8
  have h8 : RunAt w8 base X R8 rest1 := ⟨H.out.le, H.out.gs.below (hb8.mono H.out.le), _, hV10⟩
  have hn8 : R8.row ≠ [] := by rw [<- hR8]; exact HR9n.out
  have hz8r : R8.row.length <= N := by rw [<- hR8]; show R9.row.length <= N; rw [HR9l.out]; exact Hsz1.out.row
  obtain ⟨HV10, Hb8, H8, HR8, Hdd, Hwl⟩ := hd6 hV10 hb8 h8 hR8 hdd hwl;clear hwl hdd hR8 h8 hb8 hV10;go_upto_region 65 with fail;rw [<- hw8];have Hw8 := Lib.hid hw8;clear hw8;clear e11 e11f;obtain ⟨V8, hV8⟩ := H8.out.run;obtain ⟨g8, c8, n8, v8, s8, hv8, hT8⟩ := hV8.top hn8;have hl8 := hT8.len;have hz8 := hz8r
  have z3 : w8.cell? ⟨X.rp, 3, none⟩ = some (.slice (some ⟨g8, 0, none⟩) (n8 + 1) c8) := by
   have := hV8.blk.cell 3;rw [this, <- hT8.rv]; rfl
  have z1 := hT8.f1;have z1f := hT8.fz (n8 * 9 + 1)
  have hn81 : IntKind.i64.wrap (n8 : Int) = n8 := by rw [IntKind.wrap_i64]; omega
  have hn82 : (n8 : Int) < n8 + 1 := by omega
  have hV9 := hV8.setFr hT8 hv8 (x' := { R8.top with at_ := x.next }) (v' := v8) (j := 1) (u := .int .i64 x.next) (by omega) rfl rfl (by obtain ⟨_, v2, _, _, e, _, e2⟩ := hV8.top_eq hn8; rw [hv8] at e; injection e with e _; rw [e]; exact e2);have hb9 := Hb8.out.setCell (p := ⟨g8, n8 * 9 + 1, none⟩) hT8.le (.int .i64 x.next);have h9 := Hrd.out _ _ (show RunAt (w8.setCell ⟨g8, n8 * 9 + 1, none⟩ (.int .i64 x.next)) base X (R8.goOn x.next) rest1 from ⟨H.out.le, H.out.gs.below (hb9.mono H.out.le), _, hV9⟩);obtain ⟨HV8, HT8, Hv8, HV9, Hb9, H9, Hl8⟩ := hd7 hV8 hT8 hv8 hV9 hb9 h9 hl8;clear hl8 h9 hb9 hV9 hv8 hT8 hV8;refine wp_region_late (S := fun W => W.cell? ⟨X.rp, 3, none⟩ = some (.slice (some ⟨g8, 0, none⟩) (n8 + 1) c8) /\ W.cell? ⟨g8, n8 * 9 + 1, none⟩ = some (.int .i64 R8.top.at_) /\ W.frozen? ⟨g8, n8 * 9 + 1, none⟩ = false) #[false, false, false, false, false, false, false, false, false, false, false, false, false, true] (by kernel_rfl) ⟨z3, z1, z1f⟩ (fun hHeld => ?_);refine wpAnyL_tk 0 ?_;refine wpAnyL_tk 1 ?_;refine wpAnyL_tk 2 ?_;refine wpAnyL_tk 3 ?_;refine wpAnyL_tk 4 ?_;refine wpAnyL_tk 5 ?_;refine wpAnyL_tk 6 ?_;refine wpAnyL_tk 7 ?_;refine wpAnyL_tk 8 ?_;refine wpAnyL_tk 9 ?_;refine wpAnyL_tk 10 ?_;refine wpAnyL_tk 11 ?_;refine wpAnyL_tk 12 ?_;refine wpAnyL_ls 13 (fun K hK => ?_);go_simp;refine hK.out _ _ ?_;clear hK K;refine lay ?_;refine wpAnyL_done (by kernel_rfl) ?_ _;go_wp2_with fail;go_end0
  have hfinal : R.step X.gs = R8.goOn x.next := by
   rw [Hop2.out];unfold stepN;dsimp only;rw [if_neg (by rw [Hop.out]; omega)]; rw [if_neg (by rw [Hop.out]; omega)]; rw [if_neg (by rw [Hop.out]; omega)]; rw [if_neg (by rw [Hop.out]; omega)]; rw [if_neg (by rw [Hop.out]; omega)]; rw [if_neg (by rw [Hop.out]; omega)]; rw [if_neg (by rw [Hop.out]; omega)]; rw [if_neg (by rw [Hop.out]; omega)]; rw [if_neg (by rw [Hop.out]; omega)]; rw [if_neg (by rw [Hop.out]; omega)]; rw [if_neg (by rw [Hop.out]; omega)]; rw [if_neg (by rw [Hop.out]; omega)]; rw [if_pos Hop.out]; rw [Hf2.out, HR9.out, <- HR8.out, Hdd.out, Hwl.out, Int.max_eq_right (by omega)]
  first
   | exact ⟨rfl, by rw [hfinal]; exact H9.out, Hb9.out⟩
   | exact ⟨rfl, by rw [hfinal]; exact H9.out.drew, Hb9.out.drew⟩
 ·have h8 := H9'.out;have hb8 := Hb9.out;have hn8 := HR9n.out
  have hz8r : R9.row.length <= N := by rw [HR9l.out]; exact Hsz1.out.row
  obtain ⟨H8, Hb8, Hdd, Hwl⟩ := hd4 h8 hb8 hdd hwl;clear hwl hdd hb8 h8;go_upto_region 65 with fail;clear e11 e11f;obtain ⟨V8, hV8⟩ := H8.out.run;obtain ⟨g8, c8, n8, v8, s8, hv8, hT8⟩ := hV8.top hn8;have hl8 := hT8.len;have hz8 := hz8r
  have z3 : w9.cell? ⟨X.rp, 3, none⟩ = some (.slice (some ⟨g8, 0, none⟩) (n8 + 1) c8) := by
   have := hV8.blk.cell 3;rw [this, <- hT8.rv]; rfl
  have z1 := hT8.f1;have z1f := hT8.fz (n8 * 9 + 1)
  have hn81 : IntKind.i64.wrap (n8 : Int) = n8 := by rw [IntKind.wrap_i64]; omega
  have hn82 : (n8 : Int) < n8 + 1 := by omega
  have hV9 := hV8.setFr hT8 hv8 (x' := { R9.top with at_ := x.next }) (v' := v8) (j := 1) (u := .int .i64 x.next) (by omega) rfl rfl (by obtain ⟨_, v2, _, _, e, _, e2⟩ := hV8.top_eq hn8; rw [hv8] at e; injection e with e _; rw [e]; exact e2);have hb9 := Hb8.out.setCell (p := ⟨g8, n8 * 9 + 1, none⟩) hT8.le (.int .i64 x.next);have h9 := Hrd.out _ _ (show RunAt (w9.setCell ⟨g8, n8 * 9 + 1, none⟩ (.int .i64 x.next)) base X (R9.goOn x.next) rest1 from ⟨H.out.le, H.out.gs.below (hb9.mono H.out.le), _, hV9⟩);obtain ⟨HV8, HT8, Hv8, HV9, Hb9, H9, Hl8⟩ := hd7 hV8 hT8 hv8 hV9 hb9 h9 hl8;clear hl8 h9 hb9 hV9 hv8 hT8 hV8;refine wp_region_late (S := fun W => W.cell? ⟨X.rp, 3, none⟩ = some (.slice (some ⟨g8, 0, none⟩) (n8 + 1) c8) /\ W.cell? ⟨g8, n8 * 9 + 1, none⟩ = some (.int .i64 R9.top.at_) /\ W.frozen? ⟨g8, n8 * 9 + 1, none⟩ = false) #[false, false, false, false, false, false, false, false, false, false, false, false, false, true] (by kernel_rfl) ⟨z3, z1, z1f⟩ (fun hHeld => ?_);refine wpAnyL_tk 0 ?_;refine wpAnyL_tk 1 ?_;refine wpAnyL_tk 2 ?_;refine wpAnyL_tk 3 ?_;refine wpAnyL_tk 4 ?_;refine wpAnyL_tk 5 ?_;refine wpAnyL_tk 6 ?_;refine wpAnyL_tk 7 ?_;refine wpAnyL_tk 8 ?_;refine wpAnyL_tk 9 ?_;refine wpAnyL_tk 10 ?_;refine wpAnyL_tk 11 ?_;refine wpAnyL_tk 12 ?_;refine wpAnyL_ls 13 (fun K hK => ?_);go_simp;refine hK.out _ _ ?_;clear hK K;refine lay ?_;refine wpAnyL_done (by kernel_rfl) ?_ _;go_wp2_with fail;go_end0
  have hfinal : R.step X.gs = R9.goOn x.next := by
   rw [Hop2.out];unfold stepN;dsimp only;rw [if_neg (by rw [Hop.out]; omega)]; rw [if_neg (by rw [Hop.out]; omega)]; rw [if_neg (by rw [Hop.out]; omega)]; rw [if_neg (by rw [Hop.out]; omega)]; rw [if_neg (by rw [Hop.out]; omega)]; rw [if_neg (by rw [Hop.out]; omega)]; rw [if_neg (by rw [Hop.out]; omega)]; rw [if_neg (by rw [Hop.out]; omega)]; rw [if_neg (by rw [Hop.out]; omega)]; rw [if_neg (by rw [Hop.out]; omega)]; rw [if_neg (by rw [Hop.out]; omega)]; rw [if_neg (by rw [Hop.out]; omega)]; rw [if_pos Hop.out]; rw [Hf2.out, HR9.out, Hdd.out, Hwl.out, Int.max_eq_left (by omega), <- Hdd.out]
  first
   | exact ⟨rfl, by rw [hfinal]; exact H9.out, Hb9.out⟩
   | exact ⟨rfl, by rw [hfinal]; exact H9.out.drew, Hb9.out.drew⟩
end
end Go.Proofs.Ytncpehhfjkncoaa
