/- Walk of one node of the document's run: operation 10. Conditions: the run lies in memory, it is right. Walk of one node of the document's run: operation 11. Conditions: the run lies in memory, it is right. -/
import Derived.Test.YtncpehhfjkncoaaPlAA
import Derived.Test.YtncpehhfjkncoaaPlAX
set_option linter.unusedVariables false
set_option linter.unusedSimpArgs false
set_option maxRecDepth 100000
set_option maxHeartbeats 16000000
namespace Go.Proofs.Ytncpehhfjkncoaa
open Go.RowKit

section
variable {w : World} {base N f i : Nat} {X : RunX} {R : RunD} {rest : List It} {g : GraphD} {x : NodeD}
theorem qstep_10 (hp : StepPre w base X R rest N f i g x) (hop : x.op = 10) :
  Calls Try.prog 15 #[.pointer (some ⟨X.rp, 0, none⟩)] w fun e w' => RunGot base X rest w (.tuple #[]) (R.step X.gs) e w' := by
 have hx0 := hp.st;have hgs0 := hp.h.gs;obtain ⟨hg, h, ok, sz, hN, hst, hgm, hxm, hend, hsteps, hnd⟩ := hp
 have hop2 : R.step X.gs = stepN X.gs { R with steps := R.steps + 1 } x := by rw [step_eq, hst.node]
 obtain ⟨V, hV⟩ := h.run;obtain ⟨GA, gc, hgv, _, _⟩ := h.gs.slice;have hgs := h.gs;rw [hgv] at hgs;obtain ⟨ad, pv, kv, iv, nv, hAd, hfl, hM⟩ := GraphsAt.at_ hgs hst.gr;subst hAd;obtain ⟨NA, nn, nc, css, hne, hrest⟩ := hM.nodes
 have hNo : RowsAt 12 NodeAt w X.B (.slice NA nn nc) g.nodes := ⟨NA, nn, nc, css, rfl, hrest⟩
 subst hne;obtain ⟨nad, av, hNA, hin, hC⟩ := node_at hNo hst.nd;subst hNA;have hb := hV.blk;obtain ⟨F, hF⟩ := mn (X.gs.length);have b9 : w.cell? ⟨X.rp, 9, none⟩ = some (.int .i64 R.steps) := hb.cell 9;have b9f := hb.frozen 9;rw [hF] at hfl;obtain ⟨AA, ac, hae, _⟩ := hC.args.slice;obtain ⟨m, hm⟩ := mn (x.args.length);rw [hm] at hae
 have hfi : (f : Int) < F := by omega
 have hii : (i : Int) < nn := by omega
 obtain ⟨st, hste⟩ := mn (R.steps);rw [hste] at b9
 have hsw : IntKind.i64.wrap (st + 1) = st + 1 := by rw [IntKind.wrap_i64]; omega
 obtain ⟨R1, hR1⟩ := nm ({ R with steps := R.steps + 1 } : RunD);have hV1 := hV.setF (R' := R1) 9 (.int .i64 (st + 1)) (by rw [hR1, hste]; rfl) (by rw [hR1]; exact ⟨rfl, rfl, rfl, rfl, rfl⟩);have hb1 := (Below.refl base w).setCell (p := ⟨X.rp, 9, none⟩) hV.size_.1 (.int .i64 (st + 1));rw [<- hR1] at hop2
 have hgA : gAt X.gs R.top.f = g := by
  unfold gAt;rw [hst.fr, Int.toNat_natCast, List.getD_eq_getElem?_getD, hst.gr]; rfl
 have htop := ok.top hst.ne
 have hkl : R1.top.places.length = g.kinds.length := by rw [hR1, <- hgA]; exact htop.places.1
 have hcl : R1.top.cells.length = g.cells.toNat := by rw [hR1, <- hgA]; exact htop.cells.1
 have hst1 : Stand X.gs R1 f i g x := by rw [hR1]; exact ⟨hst.ne, hst.fr, hst.gr, hst.an, hst.nd⟩
 have ok1 : RunOk X.gs 0 R1 := by rw [hR1]; exact ⟨ok.regs, ok.row, ok.calls, ok.list, ok.tape, ok.events⟩
 have sz1 : Sz N R1 := by rw [hR1]; exact ⟨sz.row, sz.list, sz.waits⟩
 have hend1 : R1.endK = 0 := by rw [hR1]; exact hend
 obtain ⟨H, HV, Hgv, Hgs, HM, HNo, HC, Hb⟩ := hd8 h hV hgv hgs hM hNo hC hb;obtain ⟨HF, Hae, Hm, Hst, Hgs0, HR1, Hop2, HV1⟩ := hd8 hF hae hm hst hgs0 hR1 hop2 hV1;obtain ⟨Hb1, Hst1, Hok1, Hsz1, Hend1, Hnd, Hx0, Hend⟩ := hd8 hb1 hst1 ok1 sz1 hend1 hnd hx0 hend;obtain ⟨Hste, Hok0, Hsz, HgA, Hkl, Hcl, Htop⟩ := hd7 hste ok sz hgA hkl hcl htop;clear htop hcl hkl hgA sz ok hste hend hx0 hnd hend1 sz1 ok1 hst1 hb1 hV1 hop2 hR1 hgs0 hst hm hae hF hb hC hNo hM hgs hgv hV h;go_enter Try.func15, Try.ntmps15;go_upto_region 1 with fail;obtain ⟨w1, hw1⟩ := nm (w.setCell ⟨X.rp, 9, none⟩ (.int .i64 (st + 1)));have hV1 := HV1.out;have hb1 := Hb1.out;rw [<- hw1] at hV1 hb1 ⊢;clear b9 b9f HV1 Hb1;obtain ⟨gr, c, n, vv, s, hv, hT⟩ := hV1.top Hst1.out.ne;have hlen := hT.len;have hrow1 := Hsz1.out.row
 have b3 : w1.cell? ⟨X.rp, 3, none⟩ = some (.slice (some ⟨gr, 0, none⟩) (n + 1) c) := by
  have := hV1.blk.cell 3;rw [this, <- hT.rv]; rfl
 have hn1 : IntKind.i64.wrap (n : Int) = n := by rw [IntKind.wrap_i64]; omega
 have hn2 : (n : Int) < n + 1 := by omega
 obtain ⟨HV1, Hb1, Hw1, HT, Hlen⟩ := hd5 hV1 hb1 hw1 hT hlen;clear hlen hT hw1 hb1 hV1
 go_quiet (fail)
 have hVq := HV1.out.drewN nq;have hbq := below_drewN Hb1.out nq;obtain ⟨wq, hwq⟩ := nm (w1.drewN nq);rw [<- hwq] at hVq hbq ⊢;clear b3;have hTq := hVq.topAt Hst1.out.ne hv HT.out.rv;have hgsq := Hgs.out.below (hbq.mono H.out.le);have hNoq := Hgs.out
 have hCq : NodeC wq X.B (nad.add (i * 12)) x av := HC.out.keep fun p hp => (hbq.mono H.out.le).cell hp
 obtain ⟨GB, hGB⟩ := mn (wq.heap.size)
 have hBq : X.B <= GB := by have := H.out.le; have := hVq.size_.2; omega
 have hadl : (ad.add (f * 8)).block < GB := by have := HM.out.lt; omega
 have hnal : (nad.add (i * 12)).block < GB := by have := HC.out.lt; omega
 have b0 : wq.cell? ⟨X.rp, 0, none⟩ = some (.slice (some ad) F gc) := by
  have := hVq.blk.cell 0;rw [this, <- HF.out, <- Hgv.out]; rfl
 have c6 : wq.cell? ⟨(ad.add (f * 8)).block, (ad.add (f * 8)).off + 6, none⟩ = some (.slice (some nad) nn nc) := ((hbq.mono H.out.le).cell (p := ⟨(ad.add (f * 8)).block, _, none⟩) HM.out.lt).trans HM.out.c6
 have f0 : wq.cell? ⟨gr, n * 9, none⟩ = some (.int .i64 (f : Nat)) := by rw [hTq.f0, Hst1.out.fr]
 have f1 : wq.cell? ⟨gr, n * 9 + 1, none⟩ = some (.int .i64 (i : Nat)) := by rw [hTq.f1, Hst1.out.an]
 have a0 := hCq.c0;rw [hop] at a0;have a9 := hCq.c9;rw [Hae.out] at a9
 have hrpl : X.rp < GB := by rw [<- hGB]; exact hVq.blk.lt
 have hgrl : gr < GB := by rw [<- hGB]; exact hTq.lt
 have hS : ∀ W : World, (∀ p : Addr, p.block < GB -> W.cell? p = wq.cell? p) -> W.cell? ⟨X.rp, 0, none⟩ = some (.slice (some ad) F gc) /\ W.cell? ⟨gr, n * 9, none⟩ = some (.int .i64 (f : Nat)) /\ W.cell? ⟨gr, n * 9 + 1, none⟩ = some (.int .i64 (i : Nat)) /\ W.cell? ⟨(ad.add (f * 8)).block, (ad.add (f * 8)).off + 6, none⟩ = some (.slice (some nad) nn nc) /\ W.cell? (nad.add (i * 12)) = some (.int .u8 10) /\ W.cell? ⟨(nad.add (i * 12)).block, (nad.add (i * 12)).off + 1, none⟩ = some (.int .u8 x.byo) /\ W.cell? ⟨(nad.add (i * 12)).block, (nad.add (i * 12)).off + 2, none⟩ = some (.int .i64 x.d) /\ W.cell? ⟨(nad.add (i * 12)).block, (nad.add (i * 12)).off + 3, none⟩ = some (.int .i64 x.e) /\ W.cell? ⟨(nad.add (i * 12)).block, (nad.add (i * 12)).off + 4, none⟩ = some (.int .i64 x.a) /\ W.cell? ⟨(nad.add (i * 12)).block, (nad.add (i * 12)).off + 5, none⟩ = some (.int .i64 x.b) /\ W.cell? ⟨(nad.add (i * 12)).block, (nad.add (i * 12)).off + 6, none⟩ = some (.int .i64 x.f) /\ W.cell? ⟨(nad.add (i * 12)).block, (nad.add (i * 12)).off + 7, none⟩ = some (.int .i64 x.cell) /\ W.cell? ⟨(nad.add (i * 12)).block, (nad.add (i * 12)).off + 8, none⟩ = some (.int .u64 x.imm) /\ W.cell? ⟨(nad.add (i * 12)).block, (nad.add (i * 12)).off + 9, none⟩ = some (.slice AA m ac) /\ W.cell? ⟨(nad.add (i * 12)).block, (nad.add (i * 12)).off + 10, none⟩ = some (.int .i64 x.next) /\ W.cell? ⟨(nad.add (i * 12)).block, (nad.add (i * 12)).off + 11, none⟩ = some (.int .i64 x.els) := fun W hW => by
  have gn : ∀ j, W.cell? ⟨(nad.add (i * 12)).block, (nad.add (i * 12)).off + j, none⟩ = wq.cell? ⟨(nad.add (i * 12)).block, (nad.add (i * 12)).off + j, none⟩ := fun j => hW _ hnal
  exact ⟨(hW _ hrpl).trans b0, (hW _ hgrl).trans f0, (hW _ hgrl).trans f1, (hW ⟨(ad.add (f * 8)).block, _, none⟩ hadl).trans c6, (hW _ hnal).trans a0, (gn 1).trans hCq.c1, (gn 2).trans hCq.c2, (gn 3).trans hCq.c3, (gn 4).trans hCq.c4, (gn 5).trans hCq.c5, (gn 6).trans hCq.c6, (gn 7).trans hCq.c7, (gn 8).trans hCq.c8, (gn 9).trans a9, (gn 10).trans hCq.c10, (gn 11).trans hCq.c11⟩
 have hSq := hS wq fun _ _ => rfl
 clear b0 c6 f0 f1 a0 a9;obtain ⟨Hwq, HVq, Hbq, HTq, HCq, HS, Hgsq, HNoq⟩ := hd8 hwq hVq hbq hTq hCq hS hgsq hNoq;have Hop := Lib.hid hop;clear hop hNoq hgsq hS hCq hTq hbq hVq hwq;go_upto_region 2 with fail
 refine wp_region_late (S := fun W => W.cell? ⟨X.rp, 0, none⟩ = some (.slice (some ad) F gc) /\ W.cell? ⟨gr, n * 9, none⟩ = some (.int .i64 (f : Nat)) /\ W.cell? ⟨gr, n * 9 + 1, none⟩ = some (.int .i64 (i : Nat)) /\ W.cell? ⟨(ad.add (f * 8)).block, (ad.add (f * 8)).off + 6, none⟩ = some (.slice (some nad) nn nc) /\ W.cell? (nad.add (i * 12)) = some (.int .u8 10) /\ W.cell? ⟨(nad.add (i * 12)).block, (nad.add (i * 12)).off + 1, none⟩ = some (.int .u8 x.byo) /\ W.cell? ⟨(nad.add (i * 12)).block, (nad.add (i * 12)).off + 2, none⟩ = some (.int .i64 x.d) /\ W.cell? ⟨(nad.add (i * 12)).block, (nad.add (i * 12)).off + 3, none⟩ = some (.int .i64 x.e) /\ W.cell? ⟨(nad.add (i * 12)).block, (nad.add (i * 12)).off + 4, none⟩ = some (.int .i64 x.a) /\ W.cell? ⟨(nad.add (i * 12)).block, (nad.add (i * 12)).off + 5, none⟩ = some (.int .i64 x.b) /\ W.cell? ⟨(nad.add (i * 12)).block, (nad.add (i * 12)).off + 6, none⟩ = some (.int .i64 x.f) /\ W.cell? ⟨(nad.add (i * 12)).block, (nad.add (i * 12)).off + 7, none⟩ = some (.int .i64 x.cell) /\ W.cell? ⟨(nad.add (i * 12)).block, (nad.add (i * 12)).off + 8, none⟩ = some (.int .u64 x.imm) /\ W.cell? ⟨(nad.add (i * 12)).block, (nad.add (i * 12)).off + 9, none⟩ = some (.slice AA m ac) /\ W.cell? ⟨(nad.add (i * 12)).block, (nad.add (i * 12)).off + 10, none⟩ = some (.int .i64 x.next) /\ W.cell? ⟨(nad.add (i * 12)).block, (nad.add (i * 12)).off + 11, none⟩ = some (.int .i64 x.els))
  #[false, false, false, false, false, false, false, false, false, false, false, false, false, false, false, false, false, false, false, true] (by kernel_rfl) hSq (fun hHeld => ?_)
 refine wpAnyL_tk 0 ?_;refine wpAnyL_tk 1 ?_;refine wpAnyL_tk 2 ?_;refine wpAnyL_tk 3 ?_;refine wpAnyL_tk 4 ?_;refine wpAnyL_tk 5 ?_;refine wpAnyL_tk 6 ?_;refine wpAnyL_tk 7 ?_;refine wpAnyL_tk 8 ?_;refine wpAnyL_tk 9 ?_;refine wpAnyL_tk 10 ?_;refine wpAnyL_tk 11 ?_;refine wpAnyL_tk 12 ?_;refine wpAnyL_tk 13 ?_;refine wpAnyL_tk 14 ?_;refine wpAnyL_tk 15 ?_;refine wpAnyL_tk 16 ?_;refine wpAnyL_tk 17 ?_;refine wpAnyL_rd 18 (fun K hK => ?_);go_simp;refine hK.out _ _ (HS.out _ fun p hp => World.cell?_alloc_lt _ _ p (by rw [hGB]; exact hp)) (fun hHeld2 => ?_);clear hK K hHeld;refine lay ?_;refine wpAnyL_ls 19 (fun K hK => ?_);go_simp;refine hK.out _ _ ?_;clear hK K;refine lay ?_;refine wpAnyL_done (by kernel_rfl) ?_ _;have hV2 := (HVq.out.box 52 #[.int .u8 10, .int .u8 x.byo, .int .i64 x.d, .int .i64 x.e, .int .i64 x.a, .int .i64 x.b, .int .i64 x.f, .int .i64 x.cell, .int .u64 x.imm, .slice AA m ac, .int .i64 x.next, .int .i64 x.els]).drew;have hb2 := (Hbq.out.alloc HVq.out.size_.2 (.cells #[.int .u8 10, .int .u8 x.byo, .int .i64 x.d, .int .i64 x.e, .int .i64 x.a, .int .i64 x.b, .int .i64 x.f, .int .i64 x.cell, .int .u64 x.imm, .slice AA m ac, .int .i64 x.next, .int .i64 x.els] 52)).drew;obtain ⟨W2, hW2⟩ := nm ((wq.alloc (.cells #[.int .u8 10, .int .u8 x.byo, .int .i64 x.d, .int .i64 x.e, .int .i64 x.a, .int .i64 x.b, .int .i64 x.f, .int .i64 x.cell, .int .u64 x.imm, .slice AA m ac, .int .i64 x.next, .int .i64 x.els] 52)).drew);rw [<- hW2] at hV2 hb2 ⊢;rw [hGB] at hV2;obtain ⟨rest1, hrest1⟩ := nm (It.blk GB 52 #[.int .u8 10, .int .u8 x.byo, .int .i64 x.d, .int .i64 x.e, .int .i64 x.a, .int .i64 x.b, .int .i64 x.f, .int .i64 x.cell, .int .u64 x.imm, .slice AA m ac, .int .i64 x.next, .int .i64 x.els] :: rest);rw [<- hrest1] at hV2
 have h2 : RunAt W2 base X R1 rest1 := ⟨H.out.le, H.out.gs.below (hb2.mono H.out.le), _, hV2⟩
 have hGm : It.blk GB 52 #[.int .u8 10, .int .u8 x.byo, .int .i64 x.d, .int .i64 x.e, .int .i64 x.a, .int .i64 x.b, .int .i64 x.f, .int .i64 x.cell, .int .u64 x.imm, .slice AA m ac, .int .i64 x.next, .int .i64 x.els] ∈ rest1 := by rw [hrest1]; exact List.mem_cons_self
 have hrd : ∀ (W : World) (Q : RunD), RunAt W base X Q rest1 -> RunAt W base X Q rest := fun W Q hQ => by
  rw [hrest1] at hQ;exact hQ.drop
 have hNB2 : Blk W2 GB 52 #[.int .u8 10, .int .u8 x.byo, .int .i64 x.d, .int .i64 x.e, .int .i64 x.a, .int .i64 x.b, .int .i64 x.f, .int .i64 x.cell, .int .u64 x.imm, .slice AA m ac, .int .i64 x.next, .int .i64 x.els] := (h2.mem hGm).2;have hT2 := hV2.topAt Hst1.out.ne hv HT.out.rv;have k0 := bc hNB2 0;have k10 := bc hNB2 10;clear hHeld2 hSq;obtain ⟨HV2, Hb2, HW2, Hrest1, H2, HGm, Hrd, HNB2⟩ := hd8 hV2 hb2 hW2 hrest1 h2 hGm hrd hNB2;have HT2 := Lib.hid hT2;clear hT2 hNB2 hrd hGm h2 hrest1 hW2 hb2 hV2;obtain ⟨w8, hw8⟩ := mn (W2);subst hw8;have h8 := H2.out;have hb8 := Hb2.out;have hn8 := Hst1.out.ne;have hz8r := Hsz1.out.row;obtain ⟨H8, Hb8⟩ := hd2 h8 hb8;clear hb8 h8;obtain ⟨V8, hV8⟩ := H8.out.run;obtain ⟨g8, c8, n8, v8, s8, hv8, hT8⟩ := hV8.top hn8;have hl8 := hT8.len;have hz8 := hz8r
 have z3 : W2.cell? ⟨X.rp, 3, none⟩ = some (.slice (some ⟨g8, 0, none⟩) (n8 + 1) c8) := by
  have := hV8.blk.cell 3;rw [this, <- hT8.rv]; rfl
 have z1 := hT8.f1;have z1f := hT8.fz (n8 * 9 + 1)
 have hn81 : IntKind.i64.wrap (n8 : Int) = n8 := by rw [IntKind.wrap_i64]; omega
 have hn82 : (n8 : Int) < n8 + 1 := by omega
 have hV9 := hV8.setFr hT8 hv8 (x' := { R1.top with at_ := x.next }) (v' := v8) (j := 1) (u := .int .i64 x.next) (by omega) rfl rfl (by obtain ⟨_, v2, _, _, e, _, e2⟩ := hV8.top_eq hn8; rw [hv8] at e; injection e with e _; rw [e]; exact e2);have hb9 := Hb8.out.setCell (p := ⟨g8, n8 * 9 + 1, none⟩) hT8.le (.int .i64 x.next);have h9 := Hrd.out _ _ (show RunAt (W2.setCell ⟨g8, n8 * 9 + 1, none⟩ (.int .i64 x.next)) base X (R1.goOn x.next) rest1 from ⟨H.out.le, H.out.gs.below (hb9.mono H.out.le), _, hV9⟩);obtain ⟨HV8, HT8, Hv8, HV9, Hb9, H9, Hl8⟩ := hd7 hV8 hT8 hv8 hV9 hb9 h9 hl8;clear hl8 h9 hb9 hV9 hv8 hT8 hV8;go_upto_region 65 with fail;refine wp_region_late (S := fun W => W.cell? ⟨X.rp, 3, none⟩ = some (.slice (some ⟨g8, 0, none⟩) (n8 + 1) c8) /\ W.cell? ⟨g8, n8 * 9 + 1, none⟩ = some (.int .i64 R1.top.at_) /\ W.frozen? ⟨g8, n8 * 9 + 1, none⟩ = false) #[false, false, false, false, false, false, false, false, false, false, false, false, false, true] (by kernel_rfl) ⟨z3, z1, z1f⟩ (fun hHeld => ?_);refine wpAnyL_tk 0 ?_;refine wpAnyL_tk 1 ?_;refine wpAnyL_tk 2 ?_;refine wpAnyL_tk 3 ?_;refine wpAnyL_tk 4 ?_;refine wpAnyL_tk 5 ?_;refine wpAnyL_tk 6 ?_;refine wpAnyL_tk 7 ?_;refine wpAnyL_tk 8 ?_;refine wpAnyL_tk 9 ?_;refine wpAnyL_tk 10 ?_;refine wpAnyL_tk 11 ?_;refine wpAnyL_tk 12 ?_;refine wpAnyL_ls 13 (fun K hK => ?_);go_simp;refine hK.out _ _ ?_;clear hK K;refine lay ?_;refine wpAnyL_done (by kernel_rfl) ?_ _;go_wp2_with fail;go_end0
 have hfinal : R.step X.gs = R1.goOn x.next := by
  rw [Hop2.out];unfold stepN;dsimp only;rw [if_neg (by rw [Hop.out]; omega)]; rw [if_neg (by rw [Hop.out]; omega)]; rw [if_neg (by rw [Hop.out]; omega)]; rw [if_neg (by rw [Hop.out]; omega)]; rw [if_neg (by rw [Hop.out]; omega)]; rw [if_neg (by rw [Hop.out]; omega)]; rw [if_neg (by rw [Hop.out]; omega)]; rw [if_neg (by rw [Hop.out]; omega)]; rw [if_neg (by rw [Hop.out]; omega)]; rw [if_pos Hop.out]; skip
 first
  | exact ⟨rfl, by rw [hfinal]; exact H9.out, Hb9.out⟩
  | exact ⟨rfl, by rw [hfinal]; exact H9.out.drew, Hb9.out.drew⟩
end
end Go.Proofs.Ytncpehhfjkncoaa
namespace Go.Proofs.Ytncpehhfjkncoaa
open Go.RowKit

section
variable {w : World} {base N f i : Nat} {X : RunX} {R : RunD} {rest : List It} {g : GraphD} {x : NodeD}
theorem qstep_11 (hp : StepPre w base X R rest N f i g x) (hop : x.op = 11) :
  Calls Try.prog 15 #[.pointer (some ⟨X.rp, 0, none⟩)] w fun e w' => RunGot base X rest w (.tuple #[]) (R.step X.gs) e w' := by
 have hx0 := hp.st;have hgs0 := hp.h.gs;obtain ⟨hg, h, ok, sz, hN, hst, hgm, hxm, hend, hsteps, hnd⟩ := hp
 have hop2 : R.step X.gs = stepN X.gs { R with steps := R.steps + 1 } x := by rw [step_eq, hst.node]
 obtain ⟨V, hV⟩ := h.run;obtain ⟨GA, gc, hgv, _, _⟩ := h.gs.slice;have hgs := h.gs;rw [hgv] at hgs;obtain ⟨ad, pv, kv, iv, nv, hAd, hfl, hM⟩ := GraphsAt.at_ hgs hst.gr;subst hAd;obtain ⟨NA, nn, nc, css, hne, hrest⟩ := hM.nodes
 have hNo : RowsAt 12 NodeAt w X.B (.slice NA nn nc) g.nodes := ⟨NA, nn, nc, css, rfl, hrest⟩
 subst hne;obtain ⟨nad, av, hNA, hin, hC⟩ := node_at hNo hst.nd;subst hNA;have hb := hV.blk;obtain ⟨F, hF⟩ := mn (X.gs.length);have b9 : w.cell? ⟨X.rp, 9, none⟩ = some (.int .i64 R.steps) := hb.cell 9;have b9f := hb.frozen 9;rw [hF] at hfl;obtain ⟨AA, ac, hae, _⟩ := hC.args.slice;obtain ⟨m, hm⟩ := mn (x.args.length);rw [hm] at hae
 have hfi : (f : Int) < F := by omega
 have hii : (i : Int) < nn := by omega
 obtain ⟨st, hste⟩ := mn (R.steps);rw [hste] at b9
 have hsw : IntKind.i64.wrap (st + 1) = st + 1 := by rw [IntKind.wrap_i64]; omega
 obtain ⟨R1, hR1⟩ := nm ({ R with steps := R.steps + 1 } : RunD);have hV1 := hV.setF (R' := R1) 9 (.int .i64 (st + 1)) (by rw [hR1, hste]; rfl) (by rw [hR1]; exact ⟨rfl, rfl, rfl, rfl, rfl⟩);have hb1 := (Below.refl base w).setCell (p := ⟨X.rp, 9, none⟩) hV.size_.1 (.int .i64 (st + 1));rw [<- hR1] at hop2
 have hgA : gAt X.gs R.top.f = g := by
  unfold gAt;rw [hst.fr, Int.toNat_natCast, List.getD_eq_getElem?_getD, hst.gr]; rfl
 have htop := ok.top hst.ne
 have hkl : R1.top.places.length = g.kinds.length := by rw [hR1, <- hgA]; exact htop.places.1
 have hcl : R1.top.cells.length = g.cells.toNat := by rw [hR1, <- hgA]; exact htop.cells.1
 have hst1 : Stand X.gs R1 f i g x := by rw [hR1]; exact ⟨hst.ne, hst.fr, hst.gr, hst.an, hst.nd⟩
 have ok1 : RunOk X.gs 0 R1 := by rw [hR1]; exact ⟨ok.regs, ok.row, ok.calls, ok.list, ok.tape, ok.events⟩
 have sz1 : Sz N R1 := by rw [hR1]; exact ⟨sz.row, sz.list, sz.waits⟩
 have hend1 : R1.endK = 0 := by rw [hR1]; exact hend
 obtain ⟨H, HV, Hgv, Hgs, HM, HNo, HC, Hb⟩ := hd8 h hV hgv hgs hM hNo hC hb;obtain ⟨HF, Hae, Hm, Hst, Hgs0, HR1, Hop2, HV1⟩ := hd8 hF hae hm hst hgs0 hR1 hop2 hV1;obtain ⟨Hb1, Hst1, Hok1, Hsz1, Hend1, Hnd, Hx0, Hend⟩ := hd8 hb1 hst1 ok1 sz1 hend1 hnd hx0 hend;obtain ⟨Hste, Hok0, Hsz, HgA, Hkl, Hcl, Htop⟩ := hd7 hste ok sz hgA hkl hcl htop;clear htop hcl hkl hgA sz ok hste hend hx0 hnd hend1 sz1 ok1 hst1 hb1 hV1 hop2 hR1 hgs0 hst hm hae hF hb hC hNo hM hgs hgv hV h;go_enter Try.func15, Try.ntmps15;go_upto_region 1 with fail;obtain ⟨w1, hw1⟩ := nm (w.setCell ⟨X.rp, 9, none⟩ (.int .i64 (st + 1)));have hV1 := HV1.out;have hb1 := Hb1.out;rw [<- hw1] at hV1 hb1 ⊢;clear b9 b9f HV1 Hb1;obtain ⟨gr, c, n, vv, s, hv, hT⟩ := hV1.top Hst1.out.ne;have hlen := hT.len;have hrow1 := Hsz1.out.row
 have b3 : w1.cell? ⟨X.rp, 3, none⟩ = some (.slice (some ⟨gr, 0, none⟩) (n + 1) c) := by
  have := hV1.blk.cell 3;rw [this, <- hT.rv]; rfl
 have hn1 : IntKind.i64.wrap (n : Int) = n := by rw [IntKind.wrap_i64]; omega
 have hn2 : (n : Int) < n + 1 := by omega
 obtain ⟨HV1, Hb1, Hw1, HT, Hlen⟩ := hd5 hV1 hb1 hw1 hT hlen;clear hlen hT hw1 hb1 hV1
 go_quiet (fail)
 have hVq := HV1.out.drewN nq;have hbq := below_drewN Hb1.out nq;obtain ⟨wq, hwq⟩ := nm (w1.drewN nq);rw [<- hwq] at hVq hbq ⊢;clear b3;have hTq := hVq.topAt Hst1.out.ne hv HT.out.rv;have hgsq := Hgs.out.below (hbq.mono H.out.le);have hNoq := Hgs.out
 have hCq : NodeC wq X.B (nad.add (i * 12)) x av := HC.out.keep fun p hp => (hbq.mono H.out.le).cell hp
 obtain ⟨GB, hGB⟩ := mn (wq.heap.size)
 have hBq : X.B <= GB := by have := H.out.le; have := hVq.size_.2; omega
 have hadl : (ad.add (f * 8)).block < GB := by have := HM.out.lt; omega
 have hnal : (nad.add (i * 12)).block < GB := by have := HC.out.lt; omega
 have b0 : wq.cell? ⟨X.rp, 0, none⟩ = some (.slice (some ad) F gc) := by
  have := hVq.blk.cell 0;rw [this, <- HF.out, <- Hgv.out]; rfl
 have c6 : wq.cell? ⟨(ad.add (f * 8)).block, (ad.add (f * 8)).off + 6, none⟩ = some (.slice (some nad) nn nc) := ((hbq.mono H.out.le).cell (p := ⟨(ad.add (f * 8)).block, _, none⟩) HM.out.lt).trans HM.out.c6
 have f0 : wq.cell? ⟨gr, n * 9, none⟩ = some (.int .i64 (f : Nat)) := by rw [hTq.f0, Hst1.out.fr]
 have f1 : wq.cell? ⟨gr, n * 9 + 1, none⟩ = some (.int .i64 (i : Nat)) := by rw [hTq.f1, Hst1.out.an]
 have a0 := hCq.c0;rw [hop] at a0;have a9 := hCq.c9;rw [Hae.out] at a9
 have hrpl : X.rp < GB := by rw [<- hGB]; exact hVq.blk.lt
 have hgrl : gr < GB := by rw [<- hGB]; exact hTq.lt
 have hS : ∀ W : World, (∀ p : Addr, p.block < GB -> W.cell? p = wq.cell? p) -> W.cell? ⟨X.rp, 0, none⟩ = some (.slice (some ad) F gc) /\ W.cell? ⟨gr, n * 9, none⟩ = some (.int .i64 (f : Nat)) /\ W.cell? ⟨gr, n * 9 + 1, none⟩ = some (.int .i64 (i : Nat)) /\ W.cell? ⟨(ad.add (f * 8)).block, (ad.add (f * 8)).off + 6, none⟩ = some (.slice (some nad) nn nc) /\ W.cell? (nad.add (i * 12)) = some (.int .u8 11) /\ W.cell? ⟨(nad.add (i * 12)).block, (nad.add (i * 12)).off + 1, none⟩ = some (.int .u8 x.byo) /\ W.cell? ⟨(nad.add (i * 12)).block, (nad.add (i * 12)).off + 2, none⟩ = some (.int .i64 x.d) /\ W.cell? ⟨(nad.add (i * 12)).block, (nad.add (i * 12)).off + 3, none⟩ = some (.int .i64 x.e) /\ W.cell? ⟨(nad.add (i * 12)).block, (nad.add (i * 12)).off + 4, none⟩ = some (.int .i64 x.a) /\ W.cell? ⟨(nad.add (i * 12)).block, (nad.add (i * 12)).off + 5, none⟩ = some (.int .i64 x.b) /\ W.cell? ⟨(nad.add (i * 12)).block, (nad.add (i * 12)).off + 6, none⟩ = some (.int .i64 x.f) /\ W.cell? ⟨(nad.add (i * 12)).block, (nad.add (i * 12)).off + 7, none⟩ = some (.int .i64 x.cell) /\ W.cell? ⟨(nad.add (i * 12)).block, (nad.add (i * 12)).off + 8, none⟩ = some (.int .u64 x.imm) /\ W.cell? ⟨(nad.add (i * 12)).block, (nad.add (i * 12)).off + 9, none⟩ = some (.slice AA m ac) /\ W.cell? ⟨(nad.add (i * 12)).block, (nad.add (i * 12)).off + 10, none⟩ = some (.int .i64 x.next) /\ W.cell? ⟨(nad.add (i * 12)).block, (nad.add (i * 12)).off + 11, none⟩ = some (.int .i64 x.els) := fun W hW => by
  have gn : ∀ j, W.cell? ⟨(nad.add (i * 12)).block, (nad.add (i * 12)).off + j, none⟩ = wq.cell? ⟨(nad.add (i * 12)).block, (nad.add (i * 12)).off + j, none⟩ := fun j => hW _ hnal
  exact ⟨(hW _ hrpl).trans b0, (hW _ hgrl).trans f0, (hW _ hgrl).trans f1, (hW ⟨(ad.add (f * 8)).block, _, none⟩ hadl).trans c6, (hW _ hnal).trans a0, (gn 1).trans hCq.c1, (gn 2).trans hCq.c2, (gn 3).trans hCq.c3, (gn 4).trans hCq.c4, (gn 5).trans hCq.c5, (gn 6).trans hCq.c6, (gn 7).trans hCq.c7, (gn 8).trans hCq.c8, (gn 9).trans a9, (gn 10).trans hCq.c10, (gn 11).trans hCq.c11⟩
 have hSq := hS wq fun _ _ => rfl
 clear b0 c6 f0 f1 a0 a9;obtain ⟨Hwq, HVq, Hbq, HTq, HCq, HS, Hgsq, HNoq⟩ := hd8 hwq hVq hbq hTq hCq hS hgsq hNoq;have Hop := Lib.hid hop;clear hop hNoq hgsq hS hCq hTq hbq hVq hwq;go_upto_region 2 with fail
 refine wp_region_late (S := fun W => W.cell? ⟨X.rp, 0, none⟩ = some (.slice (some ad) F gc) /\ W.cell? ⟨gr, n * 9, none⟩ = some (.int .i64 (f : Nat)) /\ W.cell? ⟨gr, n * 9 + 1, none⟩ = some (.int .i64 (i : Nat)) /\ W.cell? ⟨(ad.add (f * 8)).block, (ad.add (f * 8)).off + 6, none⟩ = some (.slice (some nad) nn nc) /\ W.cell? (nad.add (i * 12)) = some (.int .u8 11) /\ W.cell? ⟨(nad.add (i * 12)).block, (nad.add (i * 12)).off + 1, none⟩ = some (.int .u8 x.byo) /\ W.cell? ⟨(nad.add (i * 12)).block, (nad.add (i * 12)).off + 2, none⟩ = some (.int .i64 x.d) /\ W.cell? ⟨(nad.add (i * 12)).block, (nad.add (i * 12)).off + 3, none⟩ = some (.int .i64 x.e) /\ W.cell? ⟨(nad.add (i * 12)).block, (nad.add (i * 12)).off + 4, none⟩ = some (.int .i64 x.a) /\ W.cell? ⟨(nad.add (i * 12)).block, (nad.add (i * 12)).off + 5, none⟩ = some (.int .i64 x.b) /\ W.cell? ⟨(nad.add (i * 12)).block, (nad.add (i * 12)).off + 6, none⟩ = some (.int .i64 x.f) /\ W.cell? ⟨(nad.add (i * 12)).block, (nad.add (i * 12)).off + 7, none⟩ = some (.int .i64 x.cell) /\ W.cell? ⟨(nad.add (i * 12)).block, (nad.add (i * 12)).off + 8, none⟩ = some (.int .u64 x.imm) /\ W.cell? ⟨(nad.add (i * 12)).block, (nad.add (i * 12)).off + 9, none⟩ = some (.slice AA m ac) /\ W.cell? ⟨(nad.add (i * 12)).block, (nad.add (i * 12)).off + 10, none⟩ = some (.int .i64 x.next) /\ W.cell? ⟨(nad.add (i * 12)).block, (nad.add (i * 12)).off + 11, none⟩ = some (.int .i64 x.els))
  #[false, false, false, false, false, false, false, false, false, false, false, false, false, false, false, false, false, false, false, true] (by kernel_rfl) hSq (fun hHeld => ?_)
 refine wpAnyL_tk 0 ?_;refine wpAnyL_tk 1 ?_;refine wpAnyL_tk 2 ?_;refine wpAnyL_tk 3 ?_;refine wpAnyL_tk 4 ?_;refine wpAnyL_tk 5 ?_;refine wpAnyL_tk 6 ?_;refine wpAnyL_tk 7 ?_;refine wpAnyL_tk 8 ?_;refine wpAnyL_tk 9 ?_;refine wpAnyL_tk 10 ?_;refine wpAnyL_tk 11 ?_;refine wpAnyL_tk 12 ?_;refine wpAnyL_tk 13 ?_;refine wpAnyL_tk 14 ?_;refine wpAnyL_tk 15 ?_;refine wpAnyL_tk 16 ?_;refine wpAnyL_tk 17 ?_;refine wpAnyL_rd 18 (fun K hK => ?_);go_simp;refine hK.out _ _ (HS.out _ fun p hp => World.cell?_alloc_lt _ _ p (by rw [hGB]; exact hp)) (fun hHeld2 => ?_);clear hK K hHeld;refine lay ?_;refine wpAnyL_ls 19 (fun K hK => ?_);go_simp;refine hK.out _ _ ?_;clear hK K;refine lay ?_;refine wpAnyL_done (by kernel_rfl) ?_ _;have hV2 := (HVq.out.box 52 #[.int .u8 11, .int .u8 x.byo, .int .i64 x.d, .int .i64 x.e, .int .i64 x.a, .int .i64 x.b, .int .i64 x.f, .int .i64 x.cell, .int .u64 x.imm, .slice AA m ac, .int .i64 x.next, .int .i64 x.els]).drew;have hb2 := (Hbq.out.alloc HVq.out.size_.2 (.cells #[.int .u8 11, .int .u8 x.byo, .int .i64 x.d, .int .i64 x.e, .int .i64 x.a, .int .i64 x.b, .int .i64 x.f, .int .i64 x.cell, .int .u64 x.imm, .slice AA m ac, .int .i64 x.next, .int .i64 x.els] 52)).drew;obtain ⟨W2, hW2⟩ := nm ((wq.alloc (.cells #[.int .u8 11, .int .u8 x.byo, .int .i64 x.d, .int .i64 x.e, .int .i64 x.a, .int .i64 x.b, .int .i64 x.f, .int .i64 x.cell, .int .u64 x.imm, .slice AA m ac, .int .i64 x.next, .int .i64 x.els] 52)).drew);rw [<- hW2] at hV2 hb2 ⊢;rw [hGB] at hV2;obtain ⟨rest1, hrest1⟩ := nm (It.blk GB 52 #[.int .u8 11, .int .u8 x.byo, .int .i64 x.d, .int .i64 x.e, .int .i64 x.a, .int .i64 x.b, .int .i64 x.f, .int .i64 x.cell, .int .u64 x.imm, .slice AA m ac, .int .i64 x.next, .int .i64 x.els] :: rest);rw [<- hrest1] at hV2
 have h2 : RunAt W2 base X R1 rest1 := ⟨H.out.le, H.out.gs.below (hb2.mono H.out.le), _, hV2⟩
 have hGm : It.blk GB 52 #[.int .u8 11, .int .u8 x.byo, .int .i64 x.d, .int .i64 x.e, .int .i64 x.a, .int .i64 x.b, .int .i64 x.f, .int .i64 x.cell, .int .u64 x.imm, .slice AA m ac, .int .i64 x.next, .int .i64 x.els] ∈ rest1 := by rw [hrest1]; exact List.mem_cons_self
 have hrd : ∀ (W : World) (Q : RunD), RunAt W base X Q rest1 -> RunAt W base X Q rest := fun W Q hQ => by
  rw [hrest1] at hQ;exact hQ.drop
 have hNB2 : Blk W2 GB 52 #[.int .u8 11, .int .u8 x.byo, .int .i64 x.d, .int .i64 x.e, .int .i64 x.a, .int .i64 x.b, .int .i64 x.f, .int .i64 x.cell, .int .u64 x.imm, .slice AA m ac, .int .i64 x.next, .int .i64 x.els] := (h2.mem hGm).2;have hT2 := hV2.topAt Hst1.out.ne hv HT.out.rv;have k0 := bc hNB2 0;have k1 := bc hNB2 1;have k2 := bc hNB2 2;have k3 := bc hNB2 3;have k4 := bc hNB2 4;have k5 := bc hNB2 5;have k6 := bc hNB2 6;have k7 := bc hNB2 7;have k8 := bc hNB2 8;have k9 := bc hNB2 9;have k10 := bc hNB2 10;have k11 := bc hNB2 11;clear hHeld2 hSq;obtain ⟨HV2, Hb2, HW2, Hrest1, H2, HGm, Hrd, HNB2⟩ := hd8 hV2 hb2 hW2 hrest1 h2 hGm hrd hNB2;have HT2 := Lib.hid hT2;clear hT2 hNB2 hrd hGm h2 hrest1 hW2 hb2 hV2;have hab := (hg.nd g hgm x hxm).2 (by have := Hop.out; omega);obtain ⟨hxl, hxp⟩ := argsB_args hab (fun gg hgg => by obtain ⟨j, hj⟩ := List.getElem?_of_mem hgg; exact (hg.push j gg _ hj rfl).n)
 obtain ⟨f2, hf2⟩ : ∃ f2 : Nat, x.f = f2 := ⟨x.f.toNat, by have := Hnd.out.f (by have := Hop.out; omega); omega⟩
 have hf2l : f2 < X.gs.length := by have := Hnd.out.f (by have := Hop.out; omega); omega
 have hg2 : X.gs[f2]? = some X.gs[f2] := List.getElem?_eq_getElem hf2l
 have hal : x.args.length = (X.gs[f2]).params.length := by
  unfold argsB at hab;rw [Bool.and_eq_true, hf2, Int.toNat_natCast, hg2] at hab;simp only [Bool.and_eq_true, decide_eq_true_eq] at hab;exact hab.2.1
 obtain ⟨iU, hiU, uz0, uz1, uz2⟩ := info_parts infoU64;obtain ⟨rg, hrg⟩ := mn (V.rg)
 have b2 : W2.cell? ⟨X.rp, 2, none⟩ = some (.slice (some ⟨rg, 0, none⟩) 16 16) := by
  have := HV2.out.blk.cell 2;rw [this, <- hrg]; rfl
 have lrp2 : X.rp < W2.heap.size := HV2.out.blk.lt;have f8 := HT2.out.f8;have f8f := HT2.out.fz (n * 9 + 8);have hV3 := HV2.out.alloc (.cells #[] 34);have hb3 := Hb2.out.alloc HV2.out.size_.2 (.cells #[] 34);have ho3 : (W2.alloc (.cells #[] 34)).ownsRow base 34 1 (.slice (some ⟨W2.heap.size, 0, none⟩) 0 0) 0 [] := own_base (own_lit0 W2 34 1) HV2.out.size_.2;have hI3 : Items (W2.alloc (.cells #[] 34)) base (.row (.slice (some ⟨W2.heap.size, 0, none⟩) 0 0) 34 1 0 [] :: (runIts X V R1 ++ rest1)) := HV2.out.its.new (World.grownBy_alloc W2 _ none) ho3 (fun b e => by have e : some W2.heap.size = some b := e; injection e with e; omega);have hrr := Reads.of_own hV3.regs;rw [hrg] at hrr;obtain ⟨HV3, Hb3, Ho3, HI3, Hrr, Hrg, Hal, Hxl⟩ := hd8 hV3 hb3 ho3 hI3 hrr hrg hal hxl;obtain ⟨Hxp, Hab, Hf2⟩ := hd3 hxp hab hf2;clear hf2 hab hxp hxl hal hrg hrr hI3 ho3 hb3 hV3
 go_upto_region 35 with (first
  | (at_builtin
     refine wpList_append_any _ rfl (.tmp 213) (.tmp 217) _ rfl base 34 iU _ 1 8 Try.underlying25 hiU uz0 uz1 uz2 rfl (by omega) (.slice (some ⟨W2.heap.size, 0, none⟩) 0 0) 0 [] rfl Ho3.out _ (some ⟨rg, 0, none⟩) 16 16 (u64s R1.regs) rfl Hrr.out ?c1 ?c2 ?c3 ?c4 ?_
     case c1 => intro u hu; unfold u64s at hu; exact ints_oneCell .u64 _ u hu
     case c2 => simp only [maxLen]; omega
     case c3 => omega
     case c4 => exact HV3.out.size_.2
     intro v5 w5 hown5 hg5 hat5;obtain ⟨A5, c5, rfl, _⟩ := own_any hown5
     have hI5 := HI3.out.push (i := 0) rfl hown5 hg5 (by
      rcases hat5 with e | e
      ·exact .inl e
      ·exact .inr fun b hb => by rw [e] at hb; injection hb with hb; omega)
     have hb5 := Hb3.out.grown hg5 HV3.out.size_.2 (fun b e => (World.ownsRow.lt Ho3.out b e).1)
     have hV5 : RunIn w5 base X R1 V rest1 := ⟨HV2.out.tok, HV2.out.lens, hI5.tail⟩
     have hT5 := hV5.topAt Hst1.out.ne hv HT.out.rv;have f85 := hT5.f8;have f85f := hT5.fz (n * 9 + 8);obtain ⟨HI5, Hb5, HV5, HT5, Hown5, Hg5, Hat5⟩ := hd7 hI5 hb5 hV5 hT5 hown5 hg5 hat5;clear hat5 hg5 hown5 hT5 hV5 hb5 hI5
     skip))
 have hrl : R1.regs.length = 16 := by have := HV2.out.regs.1; rwa [len_u64s] at this
 have hI5' : Items w5 base (.row (.slice A5 16 c5) 34 1 R1.regs.length (u64s R1.regs) :: (runIts X V R1 ++ rest1)) := by rw [hrl]; exact HI5.out
 have hV6 := HV5.out.setKept HT5.out hv (l := R1.regs) hI5';have hb6 := Hb5.out.setCell (p := ⟨gr, n * 9 + 8, none⟩) HT5.out.le (.slice A5 16 c5);obtain ⟨w6, hw6⟩ := nm (w5.setCell ⟨gr, n * 9 + 8, none⟩ (.slice A5 16 c5));obtain ⟨R6, hR6⟩ := mn (R1.setTop { R1.top with kept := R1.regs });rw [hR6, <- hw6] at hV6;rw [<- hw6] at hb6 ⊢
 have h6 : RunAt w6 base X R6 rest1 := ⟨H.out.le, H.out.gs.below (hb6.mono H.out.le), _, hV6⟩
 have hR6n : R6.row ≠ [] := by rw [<- hR6]; exact (setTop_row _).1
 have hR6l : R6.row.length = R1.row.length := by
  rw [<- hR6];show R1.row.tail.length + 1 = _;rw [List.length_tail];have := List.length_pos_iff.mpr Hst1.out.ne
  omega
 have hra : R6.args x = R1.args x := by rw [<- hR6]; rfl
 have hral : (R1.args x).length = x.args.length := by unfold RunD.args; rw [List.length_map]
 have hN6 : Blk w6 GB 52 #[.int .u8 11, .int .u8 x.byo, .int .i64 x.d, .int .i64 x.e, .int .i64 x.a, .int .i64 x.b, .int .i64 x.f, .int .i64 x.cell, .int .u64 x.imm, .slice AA m ac, .int .i64 x.next, .int .i64 x.els] := (h6.mem HGm.out).2;have l0 := bc hN6 0;have l1 := bc hN6 1;have l2 := bc hN6 2;have l3 := bc hN6 3;have l4 := bc hN6 4;have l5 := bc hN6 5;have l6 := bc hN6 6;have l7 := bc hN6 7;have l8 := bc hN6 8;have l9 := bc hN6 9;have l10 := bc hN6 10;have l11 := bc hN6 11;rw [Hf2.out] at l6;have hargs := qargs_any h6.drew hR6n (by rw [hR6l]; have := Hsz1.out.row; omega) (x := x) (av := .slice AA m ac) (by have := HC.out.args.below (hb6.mono H.out.le); rw [Hae.out] at this; exact this) (fun p hp => ⟨(Hxp.out p hp).1, .inl (by have := (Hxp.out p hp).2; omega)⟩) (by have := Hxl.out; omega);rw [hra, show (ncells x (.slice AA m ac)).toArray = #[.int .u8 11, .int .u8 x.byo, .int .i64 x.d, .int .i64 x.e, .int .i64 x.a, .int .i64 x.b, .int .i64 (f2 : Nat), .int .i64 x.cell, .int .u64 x.imm, .slice AA m ac, .int .i64 x.next, .int .i64 x.els] by unfold ncells; rw [Hop.out, Hf2.out]] at hargs;clear k0 k1 k2 k3 k4 k5 k6 k7 k8 k9 k10 k11 b2 f8 f8f f85 f85f;obtain ⟨HI5', HV6, Hb6, Hw6, HR6, H6, HR6n, HR6l⟩ := hd8 hI5' hV6 hb6 hw6 hR6 h6 hR6n hR6l;obtain ⟨Hra, Hral, HN6, Hargs, Hrl⟩ := hd5 hra hral hN6 hargs hrl;clear hrl hargs hN6 hral hra hR6l hR6n h6 hR6 hw6 hb6 hV6 hI5';refine wp_region_late (S := fun W => W.cell? ⟨GB, 0, none⟩ = some (.int .u8 11) /\ W.cell? ⟨GB, 1, none⟩ = some (.int .u8 x.byo) /\ W.cell? ⟨GB, 2, none⟩ = some (.int .i64 x.d) /\ W.cell? ⟨GB, 3, none⟩ = some (.int .i64 x.e) /\ W.cell? ⟨GB, 4, none⟩ = some (.int .i64 x.a) /\ W.cell? ⟨GB, 5, none⟩ = some (.int .i64 x.b) /\ W.cell? ⟨GB, 6, none⟩ = some (.int .i64 (f2 : Nat)) /\ W.cell? ⟨GB, 7, none⟩ = some (.int .i64 x.cell) /\ W.cell? ⟨GB, 8, none⟩ = some (.int .u64 x.imm) /\ W.cell? ⟨GB, 9, none⟩ = some (.slice AA m ac) /\ W.cell? ⟨GB, 10, none⟩ = some (.int .i64 x.next) /\ W.cell? ⟨GB, 11, none⟩ = some (.int .i64 x.els)) #[false, false, false, false, false, false, true] (by kernel_rfl) ⟨l0, l1, l2, l3, l4, l5, l6, l7, l8, l9, l10, l11⟩ (fun hHeld => ?_);refine wpAnyL_tk 0 ?_;refine wpAnyL_tk 1 ?_;refine wpAnyL_tk 2 ?_;refine wpAnyL_tk 3 ?_;refine wpAnyL_tk 4 ?_;refine wpAnyL_rd 5 (fun K hK => ?_);go_simp;refine Hargs.out.mono ?_;rintro e w7 ⟨av7, rfl, h7, hb7'⟩;have hb7 := Hb6.out.drew.trans hb7';obtain ⟨A7, c7, hv7, _⟩ := own_any (show w7.ownsRow base 34 1 av7 (R1.args x).length (u64s (R1.args x)) from RunAt.first h7);have hN7 : Blk w7 GB 52 #[.int .u8 11, .int .u8 x.byo, .int .i64 x.d, .int .i64 x.e, .int .i64 x.a, .int .i64 x.b, .int .i64 x.f, .int .i64 x.cell, .int .u64 x.imm, .slice AA m ac, .int .i64 x.next, .int .i64 x.els] := (h7.mem (List.mem_cons_of_mem _ HGm.out)).2;have m0 := bc hN7 0;have m1 := bc hN7 1;have m2 := bc hN7 2;have m3 := bc hN7 3;have m4 := bc hN7 4;have m5 := bc hN7 5;have m6 := bc hN7 6;have m7 := bc hN7 7;have m8 := bc hN7 8;have m9 := bc hN7 9;have m10 := bc hN7 10;have m11 := bc hN7 11;rw [Hf2.out] at m6;have hpu := push_any h7 (hg.push f2 _ _ hg2 (by rw [Hral.out]; exact Hal.out)) (av := av7) List.mem_cons_self (by rw [HR6l.out]; have := Hsz1.out.row; omega) 0;refine hK.out _ _ ⟨m0, m1, m2, m3, m4, m5, m6, m7, m8, m9, m10, m11⟩ (fun hHeld7 => ?_);clear hK K;obtain ⟨H7, Hb7', Hb7, HN7, Hpu, Hv7⟩ := hd6 h7 hb7' hb7 hN7 hpu hv7;clear hv7 hpu hN7 hb7 hb7' h7;refine lay ?_;refine wpAnyL_ls 6 (fun K hK => ?_);go_simp;refine Hpu.out.mono ?_;rintro e w8 ⟨rfl, h8, hb8'⟩;have hb8 := Hb7.out.trans hb8';have h9 := Hrd.out _ _ h8.drop
 have hfinal : R.step X.gs = R6.push X.gs (f2 : Nat) (R1.args x) 0 := by
  rw [Hop2.out];unfold stepN;dsimp only;rw [if_neg (by rw [Hop.out]; omega)]; rw [if_neg (by rw [Hop.out]; omega)]; rw [if_neg (by rw [Hop.out]; omega)]; rw [if_neg (by rw [Hop.out]; omega)]; rw [if_neg (by rw [Hop.out]; omega)]; rw [if_neg (by rw [Hop.out]; omega)]; rw [if_neg (by rw [Hop.out]; omega)]; rw [if_neg (by rw [Hop.out]; omega)]; rw [if_neg (by rw [Hop.out]; omega)]; rw [if_neg (by rw [Hop.out]; omega)]; rw [if_pos Hop.out];rw [Hf2.out, HR6.out]
 rw [<- hfinal] at h9;obtain ⟨H8, Hb8', Hb8, H9, Hfinal⟩ := hd5 h8 hb8' hb8 h9 hfinal;clear hfinal h9 hb8 hb8' h8;refine hK.out _ _ ?_;clear hK K;refine lay ?_;refine wpAnyL_done (by kernel_rfl) ?_ _;go_wp2_with fail;go_end0
 first
  | exact ⟨rfl, H9.out, Hb8.out⟩
  | exact ⟨rfl, H9.out.drew, Hb8.out.drew⟩
end
end Go.Proofs.Ytncpehhfjkncoaa
