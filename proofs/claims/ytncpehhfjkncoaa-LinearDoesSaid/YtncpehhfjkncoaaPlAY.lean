/- Walk of one node of the document's run: operation 1. Conditions: the run lies in memory, it is right. Walk of one node of the document's run: operation 2. Conditions: the run lies in memory, it is right. -/
import Derived.Test.YtncpehhfjkncoaaPlAA
import Derived.Test.YtncpehhfjkncoaaPlAX
set_option linter.unusedVariables false
set_option linter.unusedSimpArgs false
set_option maxRecDepth 100000
set_option maxHeartbeats 16000000
namespace Go.Proofs.Ytncpehhfjkncoaa
open Go.RowKit

section
variable {w : World} {base N f i : Nat} {X : RunX} {R : RunD} {rest : List It} {g : GraphD} {x : NodeD}
theorem qstep_1 (hp : StepPre w base X R rest N f i g x) (hop : x.op = 1) :
  Calls Try.prog 15 #[.pointer (some ⟨X.rp, 0, none⟩)] w fun e w' => RunGot base X rest w (.tuple #[]) (R.step X.gs) e w' := by
 have hx0 := hp.st;have hgs0 := hp.h.gs;obtain ⟨hg, h, ok, sz, hN, hst, hgm, hxm, hend, hsteps, hnd⟩ := hp
 have hop2 : R.step X.gs = stepN X.gs { R with steps := R.steps + 1 } x := by rw [step_eq, hst.node]
 obtain ⟨V, hV⟩ := h.run;obtain ⟨GA, gc, hgv, _, _⟩ := h.gs.slice;have hgs := h.gs;rw [hgv] at hgs;obtain ⟨ad, pv, kv, iv, nv, hAd, hfl, hM⟩ := GraphsAt.at_ hgs hst.gr;subst hAd;obtain ⟨NA, nn, nc, css, hne, hrest⟩ := hM.nodes
 have hNo : RowsAt 12 NodeAt w X.B (.slice NA nn nc) g.nodes := ⟨NA, nn, nc, css, rfl, hrest⟩
 subst hne;obtain ⟨nad, av, hNA, hin, hC⟩ := node_at hNo hst.nd;subst hNA;have hb := hV.blk;obtain ⟨F, hF⟩ := mn (X.gs.length);have b9 : w.cell? ⟨X.rp, 9, none⟩ = some (.int .i64 R.steps) := hb.cell 9;have b9f := hb.frozen 9;rw [hF] at hfl;obtain ⟨AA, ac, hae, _⟩ := hC.args.slice;obtain ⟨m, hm⟩ := mn (x.args.length);rw [hm] at hae
 have hfi : (f : Int) < F := by omega
 have hii : (i : Int) < nn := by omega
 obtain ⟨st, hste⟩ := mn (R.steps);rw [hste] at b9
 have hsw : IntKind.i64.wrap (st + 1) = st + 1 := by rw [IntKind.wrap_i64]; omega
 obtain ⟨R1, hR1⟩ := nm ({ R with steps := R.steps + 1 } : RunD);have hV1 := hV.setF (R' := R1) 9 (.int .i64 (st + 1)) (by rw [hR1, hste]; rfl) (by rw [hR1]; exact ⟨rfl, rfl, rfl, rfl, rfl⟩);have hb1 := (Below.refl base w).setCell (p := ⟨X.rp, 9, none⟩) hV.size_.1 (.int .i64 (st + 1));rw [<- hR1] at hop2
 have hgA : gAt X.gs R.top.f = g := by
  unfold gAt;rw [hst.fr, Int.toNat_natCast, List.getD_eq_getElem?_getD, hst.gr]; rfl
 have htop := ok.top hst.ne
 have hkl : R1.top.places.length = g.kinds.length := by rw [hR1, <- hgA]; exact htop.places.1
 have hcl : R1.top.cells.length = g.cells.toNat := by rw [hR1, <- hgA]; exact htop.cells.1
 have hst1 : Stand X.gs R1 f i g x := by rw [hR1]; exact ⟨hst.ne, hst.fr, hst.gr, hst.an, hst.nd⟩
 have ok1 : RunOk X.gs 0 R1 := by rw [hR1]; exact ⟨ok.regs, ok.row, ok.calls, ok.list, ok.tape, ok.events⟩
 have sz1 : Sz N R1 := by rw [hR1]; exact ⟨sz.row, sz.list, sz.waits⟩
 have hend1 : R1.endK = 0 := by rw [hR1]; exact hend
 obtain ⟨H, HV, Hgv, Hgs, HM, HNo, HC, Hb⟩ := hd8 h hV hgv hgs hM hNo hC hb;obtain ⟨HF, Hae, Hm, Hst, Hgs0, HR1, Hop2, HV1⟩ := hd8 hF hae hm hst hgs0 hR1 hop2 hV1;obtain ⟨Hb1, Hst1, Hok1, Hsz1, Hend1, Hnd, Hx0, Hend⟩ := hd8 hb1 hst1 ok1 sz1 hend1 hnd hx0 hend;obtain ⟨Hste, Hok0, Hsz, HgA, Hkl, Hcl, Htop⟩ := hd7 hste ok sz hgA hkl hcl htop;clear htop hcl hkl hgA sz ok hste hend hx0 hnd hend1 sz1 ok1 hst1 hb1 hV1 hop2 hR1 hgs0 hst hm hae hF hb hC hNo hM hgs hgv hV h;go_enter Try.func15, Try.ntmps15;go_upto_region 1 with fail;obtain ⟨w1, hw1⟩ := nm (w.setCell ⟨X.rp, 9, none⟩ (.int .i64 (st + 1)));have hV1 := HV1.out;have hb1 := Hb1.out;rw [<- hw1] at hV1 hb1 ⊢;clear b9 b9f HV1 Hb1;obtain ⟨gr, c, n, vv, s, hv, hT⟩ := hV1.top Hst1.out.ne;have hlen := hT.len;have hrow1 := Hsz1.out.row
 have b3 : w1.cell? ⟨X.rp, 3, none⟩ = some (.slice (some ⟨gr, 0, none⟩) (n + 1) c) := by
  have := hV1.blk.cell 3;rw [this, <- hT.rv]; rfl
 have hn1 : IntKind.i64.wrap (n : Int) = n := by rw [IntKind.wrap_i64]; omega
 have hn2 : (n : Int) < n + 1 := by omega
 obtain ⟨HV1, Hb1, Hw1, HT, Hlen⟩ := hd5 hV1 hb1 hw1 hT hlen;clear hlen hT hw1 hb1 hV1
 go_quiet (fail)
 have hVq := HV1.out.drewN nq;have hbq := below_drewN Hb1.out nq;obtain ⟨wq, hwq⟩ := nm (w1.drewN nq);rw [<- hwq] at hVq hbq ⊢;clear b3;have hTq := hVq.topAt Hst1.out.ne hv HT.out.rv;have hgsq := Hgs.out.below (hbq.mono H.out.le);have hNoq := Hgs.out
 have hCq : NodeC wq X.B (nad.add (i * 12)) x av := HC.out.keep fun p hp => (hbq.mono H.out.le).cell hp
 obtain ⟨GB, hGB⟩ := mn (wq.heap.size)
 have hBq : X.B <= GB := by have := H.out.le; have := hVq.size_.2; omega
 have hadl : (ad.add (f * 8)).block < GB := by have := HM.out.lt; omega
 have hnal : (nad.add (i * 12)).block < GB := by have := HC.out.lt; omega
 have b0 : wq.cell? ⟨X.rp, 0, none⟩ = some (.slice (some ad) F gc) := by
  have := hVq.blk.cell 0;rw [this, <- HF.out, <- Hgv.out]; rfl
 have c6 : wq.cell? ⟨(ad.add (f * 8)).block, (ad.add (f * 8)).off + 6, none⟩ = some (.slice (some nad) nn nc) := ((hbq.mono H.out.le).cell (p := ⟨(ad.add (f * 8)).block, _, none⟩) HM.out.lt).trans HM.out.c6
 have f0 : wq.cell? ⟨gr, n * 9, none⟩ = some (.int .i64 (f : Nat)) := by rw [hTq.f0, Hst1.out.fr]
 have f1 : wq.cell? ⟨gr, n * 9 + 1, none⟩ = some (.int .i64 (i : Nat)) := by rw [hTq.f1, Hst1.out.an]
 have a0 := hCq.c0;rw [hop] at a0;have a9 := hCq.c9;rw [Hae.out] at a9
 have hrpl : X.rp < GB := by rw [<- hGB]; exact hVq.blk.lt
 have hgrl : gr < GB := by rw [<- hGB]; exact hTq.lt
 have hS : ∀ W : World, (∀ p : Addr, p.block < GB -> W.cell? p = wq.cell? p) -> W.cell? ⟨X.rp, 0, none⟩ = some (.slice (some ad) F gc) /\ W.cell? ⟨gr, n * 9, none⟩ = some (.int .i64 (f : Nat)) /\ W.cell? ⟨gr, n * 9 + 1, none⟩ = some (.int .i64 (i : Nat)) /\ W.cell? ⟨(ad.add (f * 8)).block, (ad.add (f * 8)).off + 6, none⟩ = some (.slice (some nad) nn nc) /\ W.cell? (nad.add (i * 12)) = some (.int .u8 1) /\ W.cell? ⟨(nad.add (i * 12)).block, (nad.add (i * 12)).off + 1, none⟩ = some (.int .u8 x.byo) /\ W.cell? ⟨(nad.add (i * 12)).block, (nad.add (i * 12)).off + 2, none⟩ = some (.int .i64 x.d) /\ W.cell? ⟨(nad.add (i * 12)).block, (nad.add (i * 12)).off + 3, none⟩ = some (.int .i64 x.e) /\ W.cell? ⟨(nad.add (i * 12)).block, (nad.add (i * 12)).off + 4, none⟩ = some (.int .i64 x.a) /\ W.cell? ⟨(nad.add (i * 12)).block, (nad.add (i * 12)).off + 5, none⟩ = some (.int .i64 x.b) /\ W.cell? ⟨(nad.add (i * 12)).block, (nad.add (i * 12)).off + 6, none⟩ = some (.int .i64 x.f) /\ W.cell? ⟨(nad.add (i * 12)).block, (nad.add (i * 12)).off + 7, none⟩ = some (.int .i64 x.cell) /\ W.cell? ⟨(nad.add (i * 12)).block, (nad.add (i * 12)).off + 8, none⟩ = some (.int .u64 x.imm) /\ W.cell? ⟨(nad.add (i * 12)).block, (nad.add (i * 12)).off + 9, none⟩ = some (.slice AA m ac) /\ W.cell? ⟨(nad.add (i * 12)).block, (nad.add (i * 12)).off + 10, none⟩ = some (.int .i64 x.next) /\ W.cell? ⟨(nad.add (i * 12)).block, (nad.add (i * 12)).off + 11, none⟩ = some (.int .i64 x.els) := fun W hW => by
  have gn : ∀ j, W.cell? ⟨(nad.add (i * 12)).block, (nad.add (i * 12)).off + j, none⟩ = wq.cell? ⟨(nad.add (i * 12)).block, (nad.add (i * 12)).off + j, none⟩ := fun j => hW _ hnal
  exact ⟨(hW _ hrpl).trans b0, (hW _ hgrl).trans f0, (hW _ hgrl).trans f1, (hW ⟨(ad.add (f * 8)).block, _, none⟩ hadl).trans c6, (hW _ hnal).trans a0, (gn 1).trans hCq.c1, (gn 2).trans hCq.c2, (gn 3).trans hCq.c3, (gn 4).trans hCq.c4, (gn 5).trans hCq.c5, (gn 6).trans hCq.c6, (gn 7).trans hCq.c7, (gn 8).trans hCq.c8, (gn 9).trans a9, (gn 10).trans hCq.c10, (gn 11).trans hCq.c11⟩
 have hSq := hS wq fun _ _ => rfl
 clear b0 c6 f0 f1 a0 a9;obtain ⟨Hwq, HVq, Hbq, HTq, HCq, HS, Hgsq, HNoq⟩ := hd8 hwq hVq hbq hTq hCq hS hgsq hNoq;have Hop := Lib.hid hop;clear hop hNoq hgsq hS hCq hTq hbq hVq hwq;go_upto_region 2 with fail
 refine wp_region_late (S := fun W => W.cell? ⟨X.rp, 0, none⟩ = some (.slice (some ad) F gc) /\ W.cell? ⟨gr, n * 9, none⟩ = some (.int .i64 (f : Nat)) /\ W.cell? ⟨gr, n * 9 + 1, none⟩ = some (.int .i64 (i : Nat)) /\ W.cell? ⟨(ad.add (f * 8)).block, (ad.add (f * 8)).off + 6, none⟩ = some (.slice (some nad) nn nc) /\ W.cell? (nad.add (i * 12)) = some (.int .u8 1) /\ W.cell? ⟨(nad.add (i * 12)).block, (nad.add (i * 12)).off + 1, none⟩ = some (.int .u8 x.byo) /\ W.cell? ⟨(nad.add (i * 12)).block, (nad.add (i * 12)).off + 2, none⟩ = some (.int .i64 x.d) /\ W.cell? ⟨(nad.add (i * 12)).block, (nad.add (i * 12)).off + 3, none⟩ = some (.int .i64 x.e) /\ W.cell? ⟨(nad.add (i * 12)).block, (nad.add (i * 12)).off + 4, none⟩ = some (.int .i64 x.a) /\ W.cell? ⟨(nad.add (i * 12)).block, (nad.add (i * 12)).off + 5, none⟩ = some (.int .i64 x.b) /\ W.cell? ⟨(nad.add (i * 12)).block, (nad.add (i * 12)).off + 6, none⟩ = some (.int .i64 x.f) /\ W.cell? ⟨(nad.add (i * 12)).block, (nad.add (i * 12)).off + 7, none⟩ = some (.int .i64 x.cell) /\ W.cell? ⟨(nad.add (i * 12)).block, (nad.add (i * 12)).off + 8, none⟩ = some (.int .u64 x.imm) /\ W.cell? ⟨(nad.add (i * 12)).block, (nad.add (i * 12)).off + 9, none⟩ = some (.slice AA m ac) /\ W.cell? ⟨(nad.add (i * 12)).block, (nad.add (i * 12)).off + 10, none⟩ = some (.int .i64 x.next) /\ W.cell? ⟨(nad.add (i * 12)).block, (nad.add (i * 12)).off + 11, none⟩ = some (.int .i64 x.els))
  #[false, false, false, false, false, false, false, false, false, false, false, false, false, false, false, false, false, false, false, true] (by kernel_rfl) hSq (fun hHeld => ?_)
 refine wpAnyL_tk 0 ?_;refine wpAnyL_tk 1 ?_;refine wpAnyL_tk 2 ?_;refine wpAnyL_tk 3 ?_;refine wpAnyL_tk 4 ?_;refine wpAnyL_tk 5 ?_;refine wpAnyL_tk 6 ?_;refine wpAnyL_tk 7 ?_;refine wpAnyL_tk 8 ?_;refine wpAnyL_tk 9 ?_;refine wpAnyL_tk 10 ?_;refine wpAnyL_tk 11 ?_;refine wpAnyL_tk 12 ?_;refine wpAnyL_tk 13 ?_;refine wpAnyL_tk 14 ?_;refine wpAnyL_tk 15 ?_;refine wpAnyL_tk 16 ?_;refine wpAnyL_tk 17 ?_;refine wpAnyL_rd 18 (fun K hK => ?_);go_simp;refine hK.out _ _ (HS.out _ fun p hp => World.cell?_alloc_lt _ _ p (by rw [hGB]; exact hp)) (fun hHeld2 => ?_);clear hK K hHeld;refine lay ?_;refine wpAnyL_ls 19 (fun K hK => ?_);go_simp;refine hK.out _ _ ?_;clear hK K;refine lay ?_;refine wpAnyL_done (by kernel_rfl) ?_ _;have hV2 := (HVq.out.box 52 #[.int .u8 1, .int .u8 x.byo, .int .i64 x.d, .int .i64 x.e, .int .i64 x.a, .int .i64 x.b, .int .i64 x.f, .int .i64 x.cell, .int .u64 x.imm, .slice AA m ac, .int .i64 x.next, .int .i64 x.els]).drew;have hb2 := (Hbq.out.alloc HVq.out.size_.2 (.cells #[.int .u8 1, .int .u8 x.byo, .int .i64 x.d, .int .i64 x.e, .int .i64 x.a, .int .i64 x.b, .int .i64 x.f, .int .i64 x.cell, .int .u64 x.imm, .slice AA m ac, .int .i64 x.next, .int .i64 x.els] 52)).drew;obtain ⟨W2, hW2⟩ := nm ((wq.alloc (.cells #[.int .u8 1, .int .u8 x.byo, .int .i64 x.d, .int .i64 x.e, .int .i64 x.a, .int .i64 x.b, .int .i64 x.f, .int .i64 x.cell, .int .u64 x.imm, .slice AA m ac, .int .i64 x.next, .int .i64 x.els] 52)).drew);rw [<- hW2] at hV2 hb2 ⊢;rw [hGB] at hV2;obtain ⟨rest1, hrest1⟩ := nm (It.blk GB 52 #[.int .u8 1, .int .u8 x.byo, .int .i64 x.d, .int .i64 x.e, .int .i64 x.a, .int .i64 x.b, .int .i64 x.f, .int .i64 x.cell, .int .u64 x.imm, .slice AA m ac, .int .i64 x.next, .int .i64 x.els] :: rest);rw [<- hrest1] at hV2
 have h2 : RunAt W2 base X R1 rest1 := ⟨H.out.le, H.out.gs.below (hb2.mono H.out.le), _, hV2⟩
 have hGm : It.blk GB 52 #[.int .u8 1, .int .u8 x.byo, .int .i64 x.d, .int .i64 x.e, .int .i64 x.a, .int .i64 x.b, .int .i64 x.f, .int .i64 x.cell, .int .u64 x.imm, .slice AA m ac, .int .i64 x.next, .int .i64 x.els] ∈ rest1 := by rw [hrest1]; exact List.mem_cons_self
 have hrd : ∀ (W : World) (Q : RunD), RunAt W base X Q rest1 -> RunAt W base X Q rest := fun W Q hQ => by
  rw [hrest1] at hQ;exact hQ.drop
 have hNB2 : Blk W2 GB 52 #[.int .u8 1, .int .u8 x.byo, .int .i64 x.d, .int .i64 x.e, .int .i64 x.a, .int .i64 x.b, .int .i64 x.f, .int .i64 x.cell, .int .u64 x.imm, .slice AA m ac, .int .i64 x.next, .int .i64 x.els] := (h2.mem hGm).2;have hT2 := hV2.topAt Hst1.out.ne hv HT.out.rv;have k0 := bc hNB2 0;have k2 := bc hNB2 2;have k8 := bc hNB2 8;have k10 := bc hNB2 10;clear hHeld2 hSq;obtain ⟨HV2, Hb2, HW2, Hrest1, H2, HGm, Hrd, HNB2⟩ := hd8 hV2 hb2 hW2 hrest1 h2 hGm hrd hNB2;have HT2 := Lib.hid hT2;clear hT2 hNB2 hrd hGm h2 hrest1 hW2 hb2 hV2;have hset := set_any H2.out Hst1.out.ne (p := x.d) (by have := Hnd.out.d (by have := Hop.out; omega); rw [Hkl.out]; omega) (by have := Hsz1.out.row; omega) x.imm;have Hset := Lib.hid hset;clear hset;go_wp2_with fail;refine Hset.out.mono ?_;rintro e w8 ⟨rfl, h8, hb8'⟩;have hb8 := Hb2.out.trans hb8';obtain ⟨R8, hR8⟩ := mn (R1.set x.d x.imm);rw [hR8] at h8
 have hn8 : R8.row ≠ [] := by rw [<- hR8]; exact set_row _ _ _ Hst1.out.ne
 have hz8r : R8.row.length <= N := by rw [<- hR8, (set_lens Hst1.out.ne _ _).1]; exact Hsz1.out.row
 obtain ⟨H8, Hb8, Hb8', HR8⟩ := hd4 h8 hb8 hb8' hR8;clear hR8 hb8' hb8 h8;obtain ⟨V8, hV8⟩ := H8.out.run;obtain ⟨g8, c8, n8, v8, s8, hv8, hT8⟩ := hV8.top hn8;have hl8 := hT8.len;have hz8 := hz8r
 have z3 : w8.cell? ⟨X.rp, 3, none⟩ = some (.slice (some ⟨g8, 0, none⟩) (n8 + 1) c8) := by
  have := hV8.blk.cell 3;rw [this, <- hT8.rv]; rfl
 have z1 := hT8.f1;have z1f := hT8.fz (n8 * 9 + 1)
 have hn81 : IntKind.i64.wrap (n8 : Int) = n8 := by rw [IntKind.wrap_i64]; omega
 have hn82 : (n8 : Int) < n8 + 1 := by omega
 have hV9 := hV8.setFr hT8 hv8 (x' := { R8.top with at_ := x.next }) (v' := v8) (j := 1) (u := .int .i64 x.next) (by omega) rfl rfl (by obtain ⟨_, v2, _, _, e, _, e2⟩ := hV8.top_eq hn8; rw [hv8] at e; injection e with e _; rw [e]; exact e2);have hb9 := Hb8.out.setCell (p := ⟨g8, n8 * 9 + 1, none⟩) hT8.le (.int .i64 x.next);have h9 := Hrd.out _ _ (show RunAt (w8.setCell ⟨g8, n8 * 9 + 1, none⟩ (.int .i64 x.next)) base X (R8.goOn x.next) rest1 from ⟨H.out.le, H.out.gs.below (hb9.mono H.out.le), _, hV9⟩);obtain ⟨HV8, HT8, Hv8, HV9, Hb9, H9, Hl8⟩ := hd7 hV8 hT8 hv8 hV9 hb9 h9 hl8;clear hl8 h9 hb9 hV9 hv8 hT8 hV8;go_upto_region 65 with fail;refine wp_region_late (S := fun W => W.cell? ⟨X.rp, 3, none⟩ = some (.slice (some ⟨g8, 0, none⟩) (n8 + 1) c8) /\ W.cell? ⟨g8, n8 * 9 + 1, none⟩ = some (.int .i64 R8.top.at_) /\ W.frozen? ⟨g8, n8 * 9 + 1, none⟩ = false) #[false, false, false, false, false, false, false, false, false, false, false, false, false, true] (by kernel_rfl) ⟨z3, z1, z1f⟩ (fun hHeld => ?_);refine wpAnyL_tk 0 ?_;refine wpAnyL_tk 1 ?_;refine wpAnyL_tk 2 ?_;refine wpAnyL_tk 3 ?_;refine wpAnyL_tk 4 ?_;refine wpAnyL_tk 5 ?_;refine wpAnyL_tk 6 ?_;refine wpAnyL_tk 7 ?_;refine wpAnyL_tk 8 ?_;refine wpAnyL_tk 9 ?_;refine wpAnyL_tk 10 ?_;refine wpAnyL_tk 11 ?_;refine wpAnyL_tk 12 ?_;refine wpAnyL_ls 13 (fun K hK => ?_);go_simp;refine hK.out _ _ ?_;clear hK K;refine lay ?_;refine wpAnyL_done (by kernel_rfl) ?_ _;go_wp2_with fail;go_end0
 have hfinal : R.step X.gs = R8.goOn x.next := by
  rw [Hop2.out];unfold stepN;dsimp only;rw [if_pos Hop.out]; rw [HR8.out]
 first
  | exact ⟨rfl, by rw [hfinal]; exact H9.out, Hb9.out⟩
  | exact ⟨rfl, by rw [hfinal]; exact H9.out.drew, Hb9.out.drew⟩
end
end Go.Proofs.Ytncpehhfjkncoaa
namespace Go.Proofs.Ytncpehhfjkncoaa
open Go.RowKit

section
variable {w : World} {base N f i : Nat} {X : RunX} {R : RunD} {rest : List It} {g : GraphD} {x : NodeD}
theorem qstep_2 (hp : StepPre w base X R rest N f i g x) (hop : x.op = 2) :
  Calls Try.prog 15 #[.pointer (some ⟨X.rp, 0, none⟩)] w fun e w' => RunGot base X rest w (.tuple #[]) (R.step X.gs) e w' := by
 have hx0 := hp.st;have hgs0 := hp.h.gs;obtain ⟨hg, h, ok, sz, hN, hst, hgm, hxm, hend, hsteps, hnd⟩ := hp
 have hop2 : R.step X.gs = stepN X.gs { R with steps := R.steps + 1 } x := by rw [step_eq, hst.node]
 obtain ⟨V, hV⟩ := h.run;obtain ⟨GA, gc, hgv, _, _⟩ := h.gs.slice;have hgs := h.gs;rw [hgv] at hgs;obtain ⟨ad, pv, kv, iv, nv, hAd, hfl, hM⟩ := GraphsAt.at_ hgs hst.gr;subst hAd;obtain ⟨NA, nn, nc, css, hne, hrest⟩ := hM.nodes
 have hNo : RowsAt 12 NodeAt w X.B (.slice NA nn nc) g.nodes := ⟨NA, nn, nc, css, rfl, hrest⟩
 subst hne;obtain ⟨nad, av, hNA, hin, hC⟩ := node_at hNo hst.nd;subst hNA;have hb := hV.blk;obtain ⟨F, hF⟩ := mn (X.gs.length);have b9 : w.cell? ⟨X.rp, 9, none⟩ = some (.int .i64 R.steps) := hb.cell 9;have b9f := hb.frozen 9;rw [hF] at hfl;obtain ⟨AA, ac, hae, _⟩ := hC.args.slice;obtain ⟨m, hm⟩ := mn (x.args.length);rw [hm] at hae
 have hfi : (f : Int) < F := by omega
 have hii : (i : Int) < nn := by omega
 obtain ⟨st, hste⟩ := mn (R.steps);rw [hste] at b9
 have hsw : IntKind.i64.wrap (st + 1) = st + 1 := by rw [IntKind.wrap_i64]; omega
 obtain ⟨R1, hR1⟩ := nm ({ R with steps := R.steps + 1 } : RunD);have hV1 := hV.setF (R' := R1) 9 (.int .i64 (st + 1)) (by rw [hR1, hste]; rfl) (by rw [hR1]; exact ⟨rfl, rfl, rfl, rfl, rfl⟩);have hb1 := (Below.refl base w).setCell (p := ⟨X.rp, 9, none⟩) hV.size_.1 (.int .i64 (st + 1));rw [<- hR1] at hop2
 have hgA : gAt X.gs R.top.f = g := by
  unfold gAt;rw [hst.fr, Int.toNat_natCast, List.getD_eq_getElem?_getD, hst.gr]; rfl
 have htop := ok.top hst.ne
 have hkl : R1.top.places.length = g.kinds.length := by rw [hR1, <- hgA]; exact htop.places.1
 have hcl : R1.top.cells.length = g.cells.toNat := by rw [hR1, <- hgA]; exact htop.cells.1
 have hst1 : Stand X.gs R1 f i g x := by rw [hR1]; exact ⟨hst.ne, hst.fr, hst.gr, hst.an, hst.nd⟩
 have ok1 : RunOk X.gs 0 R1 := by rw [hR1]; exact ⟨ok.regs, ok.row, ok.calls, ok.list, ok.tape, ok.events⟩
 have sz1 : Sz N R1 := by rw [hR1]; exact ⟨sz.row, sz.list, sz.waits⟩
 have hend1 : R1.endK = 0 := by rw [hR1]; exact hend
 obtain ⟨H, HV, Hgv, Hgs, HM, HNo, HC, Hb⟩ := hd8 h hV hgv hgs hM hNo hC hb;obtain ⟨HF, Hae, Hm, Hst, Hgs0, HR1, Hop2, HV1⟩ := hd8 hF hae hm hst hgs0 hR1 hop2 hV1;obtain ⟨Hb1, Hst1, Hok1, Hsz1, Hend1, Hnd, Hx0, Hend⟩ := hd8 hb1 hst1 ok1 sz1 hend1 hnd hx0 hend;obtain ⟨Hste, Hok0, Hsz, HgA, Hkl, Hcl, Htop⟩ := hd7 hste ok sz hgA hkl hcl htop;clear htop hcl hkl hgA sz ok hste hend hx0 hnd hend1 sz1 ok1 hst1 hb1 hV1 hop2 hR1 hgs0 hst hm hae hF hb hC hNo hM hgs hgv hV h;go_enter Try.func15, Try.ntmps15;go_upto_region 1 with fail;obtain ⟨w1, hw1⟩ := nm (w.setCell ⟨X.rp, 9, none⟩ (.int .i64 (st + 1)));have hV1 := HV1.out;have hb1 := Hb1.out;rw [<- hw1] at hV1 hb1 ⊢;clear b9 b9f HV1 Hb1;obtain ⟨gr, c, n, vv, s, hv, hT⟩ := hV1.top Hst1.out.ne;have hlen := hT.len;have hrow1 := Hsz1.out.row
 have b3 : w1.cell? ⟨X.rp, 3, none⟩ = some (.slice (some ⟨gr, 0, none⟩) (n + 1) c) := by
  have := hV1.blk.cell 3;rw [this, <- hT.rv]; rfl
 have hn1 : IntKind.i64.wrap (n : Int) = n := by rw [IntKind.wrap_i64]; omega
 have hn2 : (n : Int) < n + 1 := by omega
 obtain ⟨HV1, Hb1, Hw1, HT, Hlen⟩ := hd5 hV1 hb1 hw1 hT hlen;clear hlen hT hw1 hb1 hV1
 go_quiet (fail)
 have hVq := HV1.out.drewN nq;have hbq := below_drewN Hb1.out nq;obtain ⟨wq, hwq⟩ := nm (w1.drewN nq);rw [<- hwq] at hVq hbq ⊢;clear b3;have hTq := hVq.topAt Hst1.out.ne hv HT.out.rv;have hgsq := Hgs.out.below (hbq.mono H.out.le);have hNoq := Hgs.out
 have hCq : NodeC wq X.B (nad.add (i * 12)) x av := HC.out.keep fun p hp => (hbq.mono H.out.le).cell hp
 obtain ⟨GB, hGB⟩ := mn (wq.heap.size)
 have hBq : X.B <= GB := by have := H.out.le; have := hVq.size_.2; omega
 have hadl : (ad.add (f * 8)).block < GB := by have := HM.out.lt; omega
 have hnal : (nad.add (i * 12)).block < GB := by have := HC.out.lt; omega
 have b0 : wq.cell? ⟨X.rp, 0, none⟩ = some (.slice (some ad) F gc) := by
  have := hVq.blk.cell 0;rw [this, <- HF.out, <- Hgv.out]; rfl
 have c6 : wq.cell? ⟨(ad.add (f * 8)).block, (ad.add (f * 8)).off + 6, none⟩ = some (.slice (some nad) nn nc) := ((hbq.mono H.out.le).cell (p := ⟨(ad.add (f * 8)).block, _, none⟩) HM.out.lt).trans HM.out.c6
 have f0 : wq.cell? ⟨gr, n * 9, none⟩ = some (.int .i64 (f : Nat)) := by rw [hTq.f0, Hst1.out.fr]
 have f1 : wq.cell? ⟨gr, n * 9 + 1, none⟩ = some (.int .i64 (i : Nat)) := by rw [hTq.f1, Hst1.out.an]
 have a0 := hCq.c0;rw [hop] at a0;have a9 := hCq.c9;rw [Hae.out] at a9
 have hrpl : X.rp < GB := by rw [<- hGB]; exact hVq.blk.lt
 have hgrl : gr < GB := by rw [<- hGB]; exact hTq.lt
 have hS : ∀ W : World, (∀ p : Addr, p.block < GB -> W.cell? p = wq.cell? p) -> W.cell? ⟨X.rp, 0, none⟩ = some (.slice (some ad) F gc) /\ W.cell? ⟨gr, n * 9, none⟩ = some (.int .i64 (f : Nat)) /\ W.cell? ⟨gr, n * 9 + 1, none⟩ = some (.int .i64 (i : Nat)) /\ W.cell? ⟨(ad.add (f * 8)).block, (ad.add (f * 8)).off + 6, none⟩ = some (.slice (some nad) nn nc) /\ W.cell? (nad.add (i * 12)) = some (.int .u8 2) /\ W.cell? ⟨(nad.add (i * 12)).block, (nad.add (i * 12)).off + 1, none⟩ = some (.int .u8 x.byo) /\ W.cell? ⟨(nad.add (i * 12)).block, (nad.add (i * 12)).off + 2, none⟩ = some (.int .i64 x.d) /\ W.cell? ⟨(nad.add (i * 12)).block, (nad.add (i * 12)).off + 3, none⟩ = some (.int .i64 x.e) /\ W.cell? ⟨(nad.add (i * 12)).block, (nad.add (i * 12)).off + 4, none⟩ = some (.int .i64 x.a) /\ W.cell? ⟨(nad.add (i * 12)).block, (nad.add (i * 12)).off + 5, none⟩ = some (.int .i64 x.b) /\ W.cell? ⟨(nad.add (i * 12)).block, (nad.add (i * 12)).off + 6, none⟩ = some (.int .i64 x.f) /\ W.cell? ⟨(nad.add (i * 12)).block, (nad.add (i * 12)).off + 7, none⟩ = some (.int .i64 x.cell) /\ W.cell? ⟨(nad.add (i * 12)).block, (nad.add (i * 12)).off + 8, none⟩ = some (.int .u64 x.imm) /\ W.cell? ⟨(nad.add (i * 12)).block, (nad.add (i * 12)).off + 9, none⟩ = some (.slice AA m ac) /\ W.cell? ⟨(nad.add (i * 12)).block, (nad.add (i * 12)).off + 10, none⟩ = some (.int .i64 x.next) /\ W.cell? ⟨(nad.add (i * 12)).block, (nad.add (i * 12)).off + 11, none⟩ = some (.int .i64 x.els) := fun W hW => by
  have gn : ∀ j, W.cell? ⟨(nad.add (i * 12)).block, (nad.add (i * 12)).off + j, none⟩ = wq.cell? ⟨(nad.add (i * 12)).block, (nad.add (i * 12)).off + j, none⟩ := fun j => hW _ hnal
  exact ⟨(hW _ hrpl).trans b0, (hW _ hgrl).trans f0, (hW _ hgrl).trans f1, (hW ⟨(ad.add (f * 8)).block, _, none⟩ hadl).trans c6, (hW _ hnal).trans a0, (gn 1).trans hCq.c1, (gn 2).trans hCq.c2, (gn 3).trans hCq.c3, (gn 4).trans hCq.c4, (gn 5).trans hCq.c5, (gn 6).trans hCq.c6, (gn 7).trans hCq.c7, (gn 8).trans hCq.c8, (gn 9).trans a9, (gn 10).trans hCq.c10, (gn 11).trans hCq.c11⟩
 have hSq := hS wq fun _ _ => rfl
 clear b0 c6 f0 f1 a0 a9;obtain ⟨Hwq, HVq, Hbq, HTq, HCq, HS, Hgsq, HNoq⟩ := hd8 hwq hVq hbq hTq hCq hS hgsq hNoq;have Hop := Lib.hid hop;clear hop hNoq hgsq hS hCq hTq hbq hVq hwq;go_upto_region 2 with fail
 refine wp_region_late (S := fun W => W.cell? ⟨X.rp, 0, none⟩ = some (.slice (some ad) F gc) /\ W.cell? ⟨gr, n * 9, none⟩ = some (.int .i64 (f : Nat)) /\ W.cell? ⟨gr, n * 9 + 1, none⟩ = some (.int .i64 (i : Nat)) /\ W.cell? ⟨(ad.add (f * 8)).block, (ad.add (f * 8)).off + 6, none⟩ = some (.slice (some nad) nn nc) /\ W.cell? (nad.add (i * 12)) = some (.int .u8 2) /\ W.cell? ⟨(nad.add (i * 12)).block, (nad.add (i * 12)).off + 1, none⟩ = some (.int .u8 x.byo) /\ W.cell? ⟨(nad.add (i * 12)).block, (nad.add (i * 12)).off + 2, none⟩ = some (.int .i64 x.d) /\ W.cell? ⟨(nad.add (i * 12)).block, (nad.add (i * 12)).off + 3, none⟩ = some (.int .i64 x.e) /\ W.cell? ⟨(nad.add (i * 12)).block, (nad.add (i * 12)).off + 4, none⟩ = some (.int .i64 x.a) /\ W.cell? ⟨(nad.add (i * 12)).block, (nad.add (i * 12)).off + 5, none⟩ = some (.int .i64 x.b) /\ W.cell? ⟨(nad.add (i * 12)).block, (nad.add (i * 12)).off + 6, none⟩ = some (.int .i64 x.f) /\ W.cell? ⟨(nad.add (i * 12)).block, (nad.add (i * 12)).off + 7, none⟩ = some (.int .i64 x.cell) /\ W.cell? ⟨(nad.add (i * 12)).block, (nad.add (i * 12)).off + 8, none⟩ = some (.int .u64 x.imm) /\ W.cell? ⟨(nad.add (i * 12)).block, (nad.add (i * 12)).off + 9, none⟩ = some (.slice AA m ac) /\ W.cell? ⟨(nad.add (i * 12)).block, (nad.add (i * 12)).off + 10, none⟩ = some (.int .i64 x.next) /\ W.cell? ⟨(nad.add (i * 12)).block, (nad.add (i * 12)).off + 11, none⟩ = some (.int .i64 x.els))
  #[false, false, false, false, false, false, false, false, false, false, false, false, false, false, false, false, false, false, false, true] (by kernel_rfl) hSq (fun hHeld => ?_)
 refine wpAnyL_tk 0 ?_;refine wpAnyL_tk 1 ?_;refine wpAnyL_tk 2 ?_;refine wpAnyL_tk 3 ?_;refine wpAnyL_tk 4 ?_;refine wpAnyL_tk 5 ?_;refine wpAnyL_tk 6 ?_;refine wpAnyL_tk 7 ?_;refine wpAnyL_tk 8 ?_;refine wpAnyL_tk 9 ?_;refine wpAnyL_tk 10 ?_;refine wpAnyL_tk 11 ?_;refine wpAnyL_tk 12 ?_;refine wpAnyL_tk 13 ?_;refine wpAnyL_tk 14 ?_;refine wpAnyL_tk 15 ?_;refine wpAnyL_tk 16 ?_;refine wpAnyL_tk 17 ?_;refine wpAnyL_rd 18 (fun K hK => ?_);go_simp;refine hK.out _ _ (HS.out _ fun p hp => World.cell?_alloc_lt _ _ p (by rw [hGB]; exact hp)) (fun hHeld2 => ?_);clear hK K hHeld;refine lay ?_;refine wpAnyL_ls 19 (fun K hK => ?_);go_simp;refine hK.out _ _ ?_;clear hK K;refine lay ?_;refine wpAnyL_done (by kernel_rfl) ?_ _;have hV2 := (HVq.out.box 52 #[.int .u8 2, .int .u8 x.byo, .int .i64 x.d, .int .i64 x.e, .int .i64 x.a, .int .i64 x.b, .int .i64 x.f, .int .i64 x.cell, .int .u64 x.imm, .slice AA m ac, .int .i64 x.next, .int .i64 x.els]).drew;have hb2 := (Hbq.out.alloc HVq.out.size_.2 (.cells #[.int .u8 2, .int .u8 x.byo, .int .i64 x.d, .int .i64 x.e, .int .i64 x.a, .int .i64 x.b, .int .i64 x.f, .int .i64 x.cell, .int .u64 x.imm, .slice AA m ac, .int .i64 x.next, .int .i64 x.els] 52)).drew;obtain ⟨W2, hW2⟩ := nm ((wq.alloc (.cells #[.int .u8 2, .int .u8 x.byo, .int .i64 x.d, .int .i64 x.e, .int .i64 x.a, .int .i64 x.b, .int .i64 x.f, .int .i64 x.cell, .int .u64 x.imm, .slice AA m ac, .int .i64 x.next, .int .i64 x.els] 52)).drew);rw [<- hW2] at hV2 hb2 ⊢;rw [hGB] at hV2;obtain ⟨rest1, hrest1⟩ := nm (It.blk GB 52 #[.int .u8 2, .int .u8 x.byo, .int .i64 x.d, .int .i64 x.e, .int .i64 x.a, .int .i64 x.b, .int .i64 x.f, .int .i64 x.cell, .int .u64 x.imm, .slice AA m ac, .int .i64 x.next, .int .i64 x.els] :: rest);rw [<- hrest1] at hV2
 have h2 : RunAt W2 base X R1 rest1 := ⟨H.out.le, H.out.gs.below (hb2.mono H.out.le), _, hV2⟩
 have hGm : It.blk GB 52 #[.int .u8 2, .int .u8 x.byo, .int .i64 x.d, .int .i64 x.e, .int .i64 x.a, .int .i64 x.b, .int .i64 x.f, .int .i64 x.cell, .int .u64 x.imm, .slice AA m ac, .int .i64 x.next, .int .i64 x.els] ∈ rest1 := by rw [hrest1]; exact List.mem_cons_self
 have hrd : ∀ (W : World) (Q : RunD), RunAt W base X Q rest1 -> RunAt W base X Q rest := fun W Q hQ => by
  rw [hrest1] at hQ;exact hQ.drop
 have hNB2 : Blk W2 GB 52 #[.int .u8 2, .int .u8 x.byo, .int .i64 x.d, .int .i64 x.e, .int .i64 x.a, .int .i64 x.b, .int .i64 x.f, .int .i64 x.cell, .int .u64 x.imm, .slice AA m ac, .int .i64 x.next, .int .i64 x.els] := (h2.mem hGm).2;have hT2 := hV2.topAt Hst1.out.ne hv HT.out.rv;have k0 := bc hNB2 0;have k2 := bc hNB2 2;have k4 := bc hNB2 4;have k10 := bc hNB2 10;clear hHeld2 hSq;obtain ⟨HV2, Hb2, HW2, Hrest1, H2, HGm, Hrd, HNB2⟩ := hd8 hV2 hb2 hW2 hrest1 h2 hGm hrd hNB2;have HT2 := Lib.hid hT2;clear hT2 hNB2 hrd hGm h2 hrest1 hW2 hb2 hV2;go_upto_region 9 with fail;refine wp_region_late (S := fun W => W.cell? ⟨GB, 2, none⟩ = some (.int .i64 x.d) /\ W.cell? ⟨GB, 4, none⟩ = some (.int .i64 x.a)) #[false, false, false, false, false, false, false, true] (by kernel_rfl) ⟨k2, k4⟩ (fun hHeld => ?_);refine wpAnyL_tk 0 ?_;refine wpAnyL_tk 1 ?_;refine wpAnyL_tk 2 ?_;refine wpAnyL_tk 3 ?_;refine wpAnyL_tk 4 ?_;refine wpAnyL_tk 5 ?_;refine wpAnyL_rd 6 (fun K hK => ?_);go_simp;refine Calls.mono (get_any (base := base) (X := X) (R := R1) (rest := rest1) ?hh3 Hst1.out.ne (p := x.a) (Hnd.out.a (by have := Hop.out; omega)).1 (.inr (by have := Hnd.out.a (by have := Hop.out; omega); rw [Hkl.out]; omega)) (by have := Hsz1.out.row; omega)) ?mm3
 case hh3 => first | exact H2.out | exact H2.out.drew
 rintro e w3 ⟨rfl, q3, hw3⟩
 have h3 : RunAt w3 base X R1 rest1 := by rw [hw3]; first | exact H2.out.drewN q3 | exact H2.out.drew.drewN q3
 have hb3 : Below base w w3 := by rw [hw3]; first | exact below_drewN Hb2.out q3 | exact below_drewN Hb2.out.drew q3
 have hN3 : Blk w3 GB 52 #[.int .u8 2, .int .u8 x.byo, .int .i64 x.d, .int .i64 x.e, .int .i64 x.a, .int .i64 x.b, .int .i64 x.f, .int .i64 x.cell, .int .u64 x.imm, .slice AA m ac, .int .i64 x.next, .int .i64 x.els] := (h3.mem HGm.out).2;have j32 := bc hN3 2;have j34 := bc hN3 4;refine hK.out _ _ ⟨j32, j34⟩ (fun hHeld3 => ?_);clear hK K;obtain ⟨H3, Hb3, HN3, Hw3⟩ := hd4 h3 hb3 hN3 hw3;clear hw3 hN3 hb3 h3;refine lay ?_;refine wpAnyL_ls 7 (fun K hK => ?_);go_simp;refine Calls.mono (set_any (base := base) (X := X) (R := R1) (rest := rest1) ?hh8 Hst1.out.ne (p := x.d) (by have := Hnd.out.d (by have := Hop.out; omega); rw [Hkl.out]; omega) (by have := Hsz1.out.row; omega) (R1.get x.a)) ?mm8
 case hh8 => first | exact H3.out | exact H3.out.drew
 rintro e w8 ⟨rfl, h8, hb8'⟩
 have hb8 : Below base w w8 := by first | exact Hb3.out.trans hb8' | exact Hb3.out.drew.trans hb8'
 obtain ⟨R8, hR8⟩ := mn (R1.set x.d (R1.get x.a));rw [hR8] at h8
 have hn8 : R8.row ≠ [] := by rw [<- hR8]; exact set_row _ _ _ Hst1.out.ne
 have hz8r : R8.row.length <= N := by rw [<- hR8, (set_lens Hst1.out.ne _ _).1]; exact Hsz1.out.row
 obtain ⟨H8, Hb8, Hb8', HR8⟩ := hd4 h8 hb8 hb8' hR8;clear hR8 hb8' hb8 h8;refine hK.out _ _ ?_;clear hK K;refine lay ?_;refine wpAnyL_done (by kernel_rfl) ?_ _;obtain ⟨V8, hV8⟩ := H8.out.run;obtain ⟨g8, c8, n8, v8, s8, hv8, hT8⟩ := hV8.top hn8;have hl8 := hT8.len;have hz8 := hz8r
 have z3 : w8.cell? ⟨X.rp, 3, none⟩ = some (.slice (some ⟨g8, 0, none⟩) (n8 + 1) c8) := by
  have := hV8.blk.cell 3;rw [this, <- hT8.rv]; rfl
 have z1 := hT8.f1;have z1f := hT8.fz (n8 * 9 + 1)
 have hn81 : IntKind.i64.wrap (n8 : Int) = n8 := by rw [IntKind.wrap_i64]; omega
 have hn82 : (n8 : Int) < n8 + 1 := by omega
 have hV9 := hV8.setFr hT8 hv8 (x' := { R8.top with at_ := x.next }) (v' := v8) (j := 1) (u := .int .i64 x.next) (by omega) rfl rfl (by obtain ⟨_, v2, _, _, e, _, e2⟩ := hV8.top_eq hn8; rw [hv8] at e; injection e with e _; rw [e]; exact e2);have hb9 := Hb8.out.setCell (p := ⟨g8, n8 * 9 + 1, none⟩) hT8.le (.int .i64 x.next);have h9 := Hrd.out _ _ (show RunAt (w8.setCell ⟨g8, n8 * 9 + 1, none⟩ (.int .i64 x.next)) base X (R8.goOn x.next) rest1 from ⟨H.out.le, H.out.gs.below (hb9.mono H.out.le), _, hV9⟩);obtain ⟨HV8, HT8, Hv8, HV9, Hb9, H9, Hl8⟩ := hd7 hV8 hT8 hv8 hV9 hb9 h9 hl8;clear hl8 h9 hb9 hV9 hv8 hT8 hV8;go_upto_region 65 with fail;refine wp_region_late (S := fun W => W.cell? ⟨X.rp, 3, none⟩ = some (.slice (some ⟨g8, 0, none⟩) (n8 + 1) c8) /\ W.cell? ⟨g8, n8 * 9 + 1, none⟩ = some (.int .i64 R8.top.at_) /\ W.frozen? ⟨g8, n8 * 9 + 1, none⟩ = false) #[false, false, false, false, false, false, false, false, false, false, false, false, false, true] (by kernel_rfl) ⟨z3, z1, z1f⟩ (fun hHeld => ?_);refine wpAnyL_tk 0 ?_;refine wpAnyL_tk 1 ?_;refine wpAnyL_tk 2 ?_;refine wpAnyL_tk 3 ?_;refine wpAnyL_tk 4 ?_;refine wpAnyL_tk 5 ?_;refine wpAnyL_tk 6 ?_;refine wpAnyL_tk 7 ?_;refine wpAnyL_tk 8 ?_;refine wpAnyL_tk 9 ?_;refine wpAnyL_tk 10 ?_;refine wpAnyL_tk 11 ?_;refine wpAnyL_tk 12 ?_;refine wpAnyL_ls 13 (fun K hK => ?_);go_simp;refine hK.out _ _ ?_;clear hK K;refine lay ?_;refine wpAnyL_done (by kernel_rfl) ?_ _;go_wp2_with fail;go_end0
 have hfinal : R.step X.gs = R8.goOn x.next := by
  rw [Hop2.out];unfold stepN;dsimp only;rw [if_neg (by rw [Hop.out]; omega)]; rw [if_pos Hop.out]; rw [HR8.out]
 first
  | exact ⟨rfl, by rw [hfinal]; exact H9.out, Hb9.out⟩
  | exact ⟨rfl, by rw [hfinal]; exact H9.out.drew, Hb9.out.drew⟩
end
end Go.Proofs.Ytncpehhfjkncoaa
