/- Walk of one node of the document's run: operation 5. Conditions: the run lies in memory, it is right. Walk of one node of the document's run: operation 6. Conditions: the run lies in memory, it is right. What a word names, in one form. Conditions: the run lies in memory. -/
import Derived.Test.YtncpehhfjkncoaaPlAA
import Derived.Test.YtncpehhfjkncoaaPlAX
set_option linter.unusedVariables false
set_option linter.unusedSimpArgs false
set_option maxRecDepth 100000
set_option maxHeartbeats 16000000
namespace Go.Proofs.Ytncpehhfjkncoaa
open Go.RowKit

section
variable {w : World} {base N f i : Nat} {X : RunX} {R : RunD} {rest : List It} {g : GraphD} {x : NodeD}
theorem qstep_5 (hp : StepPre w base X R rest N f i g x) (hop : x.op = 5) :
  Calls Try.prog 15 #[.pointer (some ⟨X.rp, 0, none⟩)] w fun e w' => RunGot base X rest w (.tuple #[]) (R.step X.gs) e w' := by
 have hx0 := hp.st;have hgs0 := hp.h.gs;obtain ⟨hg, h, ok, sz, hN, hst, hgm, hxm, hend, hsteps, hnd⟩ := hp
 have hop2 : R.step X.gs = stepN X.gs { R with steps := R.steps + 1 } x := by rw [step_eq, hst.node]
 obtain ⟨V, hV⟩ := h.run;obtain ⟨GA, gc, hgv, _, _⟩ := h.gs.slice;have hgs := h.gs;rw [hgv] at hgs;obtain ⟨ad, pv, kv, iv, nv, hAd, hfl, hM⟩ := GraphsAt.at_ hgs hst.gr;subst hAd;obtain ⟨NA, nn, nc, css, hne, hrest⟩ := hM.nodes
 have hNo : RowsAt 12 NodeAt w X.B (.slice NA nn nc) g.nodes := ⟨NA, nn, nc, css, rfl, hrest⟩
 subst hne;obtain ⟨nad, av, hNA, hin, hC⟩ := node_at hNo hst.nd;subst hNA;have hb := hV.blk;obtain ⟨F, hF⟩ := mn (X.gs.length);have b9 : w.cell? ⟨X.rp, 9, none⟩ = some (.int .i64 R.steps) := hb.cell 9;have b9f := hb.frozen 9;rw [hF] at hfl;obtain ⟨AA, ac, hae, _⟩ := hC.args.slice;obtain ⟨m, hm⟩ := mn (x.args.length);rw [hm] at hae
 have hfi : (f : Int) < F := by omega
 have hii : (i : Int) < nn := by omega
 obtain ⟨st, hste⟩ := mn (R.steps);rw [hste] at b9
 have hsw : IntKind.i64.wrap (st + 1) = st + 1 := by rw [IntKind.wrap_i64]; omega
 obtain ⟨R1, hR1⟩ := nm ({ R with steps := R.steps + 1 } : RunD);have hV1 := hV.setF (R' := R1) 9 (.int .i64 (st + 1)) (by rw [hR1, hste]; rfl) (by rw [hR1]; exact ⟨rfl, rfl, rfl, rfl, rfl⟩);have hb1 := (Below.refl base w).setCell (p := ⟨X.rp, 9, none⟩) hV.size_.1 (.int .i64 (st + 1));rw [<- hR1] at hop2
 have hgA : gAt X.gs R.top.f = g := by
  unfold gAt;rw [hst.fr, Int.toNat_natCast, List.getD_eq_getElem?_getD, hst.gr]; rfl
 have htop := ok.top hst.ne
 have hkl : R1.top.places.length = g.kinds.length := by rw [hR1, <- hgA]; exact htop.places.1
 have hcl : R1.top.cells.length = g.cells.toNat := by rw [hR1, <- hgA]; exact htop.cells.1
 have hst1 : Stand X.gs R1 f i g x := by rw [hR1]; exact ⟨hst.ne, hst.fr, hst.gr, hst.an, hst.nd⟩
 have ok1 : RunOk X.gs 0 R1 := by rw [hR1]; exact ⟨ok.regs, ok.row, ok.calls, ok.list, ok.tape, ok.events⟩
 have sz1 : Sz N R1 := by rw [hR1]; exact ⟨sz.row, sz.list, sz.waits⟩
 have hend1 : R1.endK = 0 := by rw [hR1]; exact hend
 obtain ⟨H, HV, Hgv, Hgs, HM, HNo, HC, Hb⟩ := hd8 h hV hgv hgs hM hNo hC hb;obtain ⟨HF, Hae, Hm, Hst, Hgs0, HR1, Hop2, HV1⟩ := hd8 hF hae hm hst hgs0 hR1 hop2 hV1;obtain ⟨Hb1, Hst1, Hok1, Hsz1, Hend1, Hnd, Hx0, Hend⟩ := hd8 hb1 hst1 ok1 sz1 hend1 hnd hx0 hend;obtain ⟨Hste, Hok0, Hsz, HgA, Hkl, Hcl, Htop⟩ := hd7 hste ok sz hgA hkl hcl htop;clear htop hcl hkl hgA sz ok hste hend hx0 hnd hend1 sz1 ok1 hst1 hb1 hV1 hop2 hR1 hgs0 hst hm hae hF hb hC hNo hM hgs hgv hV h;go_enter Try.func15, Try.ntmps15;go_upto_region 1 with fail;obtain ⟨w1, hw1⟩ := nm (w.setCell ⟨X.rp, 9, none⟩ (.int .i64 (st + 1)));have hV1 := HV1.out;have hb1 := Hb1.out;rw [<- hw1] at hV1 hb1 ⊢;clear b9 b9f HV1 Hb1;obtain ⟨gr, c, n, vv, s, hv, hT⟩ := hV1.top Hst1.out.ne;have hlen := hT.len;have hrow1 := Hsz1.out.row
 have b3 : w1.cell? ⟨X.rp, 3, none⟩ = some (.slice (some ⟨gr, 0, none⟩) (n + 1) c) := by
  have := hV1.blk.cell 3;rw [this, <- hT.rv]; rfl
 have hn1 : IntKind.i64.wrap (n : Int) = n := by rw [IntKind.wrap_i64]; omega
 have hn2 : (n : Int) < n + 1 := by omega
 obtain ⟨HV1, Hb1, Hw1, HT, Hlen⟩ := hd5 hV1 hb1 hw1 hT hlen;clear hlen hT hw1 hb1 hV1
 go_quiet (fail)
 have hVq := HV1.out.drewN nq;have hbq := below_drewN Hb1.out nq;obtain ⟨wq, hwq⟩ := nm (w1.drewN nq);rw [<- hwq] at hVq hbq ⊢;clear b3;have hTq := hVq.topAt Hst1.out.ne hv HT.out.rv;have hgsq := Hgs.out.below (hbq.mono H.out.le);have hNoq := Hgs.out
 have hCq : NodeC wq X.B (nad.add (i * 12)) x av := HC.out.keep fun p hp => (hbq.mono H.out.le).cell hp
 obtain ⟨GB, hGB⟩ := mn (wq.heap.size)
 have hBq : X.B <= GB := by have := H.out.le; have := hVq.size_.2; omega
 have hadl : (ad.add (f * 8)).block < GB := by have := HM.out.lt; omega
 have hnal : (nad.add (i * 12)).block < GB := by have := HC.out.lt; omega
 have b0 : wq.cell? ⟨X.rp, 0, none⟩ = some (.slice (some ad) F gc) := by
  have := hVq.blk.cell 0;rw [this, <- HF.out, <- Hgv.out]; rfl
 have c6 : wq.cell? ⟨(ad.add (f * 8)).block, (ad.add (f * 8)).off + 6, none⟩ = some (.slice (some nad) nn nc) := ((hbq.mono H.out.le).cell (p := ⟨(ad.add (f * 8)).block, _, none⟩) HM.out.lt).trans HM.out.c6
 have f0 : wq.cell? ⟨gr, n * 9, none⟩ = some (.int .i64 (f : Nat)) := by rw [hTq.f0, Hst1.out.fr]
 have f1 : wq.cell? ⟨gr, n * 9 + 1, none⟩ = some (.int .i64 (i : Nat)) := by rw [hTq.f1, Hst1.out.an]
 have a0 := hCq.c0;rw [hop] at a0;have a9 := hCq.c9;rw [Hae.out] at a9
 have hrpl : X.rp < GB := by rw [<- hGB]; exact hVq.blk.lt
 have hgrl : gr < GB := by rw [<- hGB]; exact hTq.lt
 have hS : ∀ W : World, (∀ p : Addr, p.block < GB -> W.cell? p = wq.cell? p) -> W.cell? ⟨X.rp, 0, none⟩ = some (.slice (some ad) F gc) /\ W.cell? ⟨gr, n * 9, none⟩ = some (.int .i64 (f : Nat)) /\ W.cell? ⟨gr, n * 9 + 1, none⟩ = some (.int .i64 (i : Nat)) /\ W.cell? ⟨(ad.add (f * 8)).block, (ad.add (f * 8)).off + 6, none⟩ = some (.slice (some nad) nn nc) /\ W.cell? (nad.add (i * 12)) = some (.int .u8 5) /\ W.cell? ⟨(nad.add (i * 12)).block, (nad.add (i * 12)).off + 1, none⟩ = some (.int .u8 x.byo) /\ W.cell? ⟨(nad.add (i * 12)).block, (nad.add (i * 12)).off + 2, none⟩ = some (.int .i64 x.d) /\ W.cell? ⟨(nad.add (i * 12)).block, (nad.add (i * 12)).off + 3, none⟩ = some (.int .i64 x.e) /\ W.cell? ⟨(nad.add (i * 12)).block, (nad.add (i * 12)).off + 4, none⟩ = some (.int .i64 x.a) /\ W.cell? ⟨(nad.add (i * 12)).block, (nad.add (i * 12)).off + 5, none⟩ = some (.int .i64 x.b) /\ W.cell? ⟨(nad.add (i * 12)).block, (nad.add (i * 12)).off + 6, none⟩ = some (.int .i64 x.f) /\ W.cell? ⟨(nad.add (i * 12)).block, (nad.add (i * 12)).off + 7, none⟩ = some (.int .i64 x.cell) /\ W.cell? ⟨(nad.add (i * 12)).block, (nad.add (i * 12)).off + 8, none⟩ = some (.int .u64 x.imm) /\ W.cell? ⟨(nad.add (i * 12)).block, (nad.add (i * 12)).off + 9, none⟩ = some (.slice AA m ac) /\ W.cell? ⟨(nad.add (i * 12)).block, (nad.add (i * 12)).off + 10, none⟩ = some (.int .i64 x.next) /\ W.cell? ⟨(nad.add (i * 12)).block, (nad.add (i * 12)).off + 11, none⟩ = some (.int .i64 x.els) := fun W hW => by
  have gn : ∀ j, W.cell? ⟨(nad.add (i * 12)).block, (nad.add (i * 12)).off + j, none⟩ = wq.cell? ⟨(nad.add (i * 12)).block, (nad.add (i * 12)).off + j, none⟩ := fun j => hW _ hnal
  exact ⟨(hW _ hrpl).trans b0, (hW _ hgrl).trans f0, (hW _ hgrl).trans f1, (hW ⟨(ad.add (f * 8)).block, _, none⟩ hadl).trans c6, (hW _ hnal).trans a0, (gn 1).trans hCq.c1, (gn 2).trans hCq.c2, (gn 3).trans hCq.c3, (gn 4).trans hCq.c4, (gn 5).trans hCq.c5, (gn 6).trans hCq.c6, (gn 7).trans hCq.c7, (gn 8).trans hCq.c8, (gn 9).trans a9, (gn 10).trans hCq.c10, (gn 11).trans hCq.c11⟩
 have hSq := hS wq fun _ _ => rfl
 clear b0 c6 f0 f1 a0 a9;obtain ⟨Hwq, HVq, Hbq, HTq, HCq, HS, Hgsq, HNoq⟩ := hd8 hwq hVq hbq hTq hCq hS hgsq hNoq;have Hop := Lib.hid hop;clear hop hNoq hgsq hS hCq hTq hbq hVq hwq;go_upto_region 2 with fail
 refine wp_region_late (S := fun W => W.cell? ⟨X.rp, 0, none⟩ = some (.slice (some ad) F gc) /\ W.cell? ⟨gr, n * 9, none⟩ = some (.int .i64 (f : Nat)) /\ W.cell? ⟨gr, n * 9 + 1, none⟩ = some (.int .i64 (i : Nat)) /\ W.cell? ⟨(ad.add (f * 8)).block, (ad.add (f * 8)).off + 6, none⟩ = some (.slice (some nad) nn nc) /\ W.cell? (nad.add (i * 12)) = some (.int .u8 5) /\ W.cell? ⟨(nad.add (i * 12)).block, (nad.add (i * 12)).off + 1, none⟩ = some (.int .u8 x.byo) /\ W.cell? ⟨(nad.add (i * 12)).block, (nad.add (i * 12)).off + 2, none⟩ = some (.int .i64 x.d) /\ W.cell? ⟨(nad.add (i * 12)).block, (nad.add (i * 12)).off + 3, none⟩ = some (.int .i64 x.e) /\ W.cell? ⟨(nad.add (i * 12)).block, (nad.add (i * 12)).off + 4, none⟩ = some (.int .i64 x.a) /\ W.cell? ⟨(nad.add (i * 12)).block, (nad.add (i * 12)).off + 5, none⟩ = some (.int .i64 x.b) /\ W.cell? ⟨(nad.add (i * 12)).block, (nad.add (i * 12)).off + 6, none⟩ = some (.int .i64 x.f) /\ W.cell? ⟨(nad.add (i * 12)).block, (nad.add (i * 12)).off + 7, none⟩ = some (.int .i64 x.cell) /\ W.cell? ⟨(nad.add (i * 12)).block, (nad.add (i * 12)).off + 8, none⟩ = some (.int .u64 x.imm) /\ W.cell? ⟨(nad.add (i * 12)).block, (nad.add (i * 12)).off + 9, none⟩ = some (.slice AA m ac) /\ W.cell? ⟨(nad.add (i * 12)).block, (nad.add (i * 12)).off + 10, none⟩ = some (.int .i64 x.next) /\ W.cell? ⟨(nad.add (i * 12)).block, (nad.add (i * 12)).off + 11, none⟩ = some (.int .i64 x.els))
  #[false, false, false, false, false, false, false, false, false, false, false, false, false, false, false, false, false, false, false, true] (by kernel_rfl) hSq (fun hHeld => ?_)
 refine wpAnyL_tk 0 ?_;refine wpAnyL_tk 1 ?_;refine wpAnyL_tk 2 ?_;refine wpAnyL_tk 3 ?_;refine wpAnyL_tk 4 ?_;refine wpAnyL_tk 5 ?_;refine wpAnyL_tk 6 ?_;refine wpAnyL_tk 7 ?_;refine wpAnyL_tk 8 ?_;refine wpAnyL_tk 9 ?_;refine wpAnyL_tk 10 ?_;refine wpAnyL_tk 11 ?_;refine wpAnyL_tk 12 ?_;refine wpAnyL_tk 13 ?_;refine wpAnyL_tk 14 ?_;refine wpAnyL_tk 15 ?_;refine wpAnyL_tk 16 ?_;refine wpAnyL_tk 17 ?_;refine wpAnyL_rd 18 (fun K hK => ?_);go_simp;refine hK.out _ _ (HS.out _ fun p hp => World.cell?_alloc_lt _ _ p (by rw [hGB]; exact hp)) (fun hHeld2 => ?_);clear hK K hHeld;refine lay ?_;refine wpAnyL_ls 19 (fun K hK => ?_);go_simp;refine hK.out _ _ ?_;clear hK K;refine lay ?_;refine wpAnyL_done (by kernel_rfl) ?_ _;have hV2 := (HVq.out.box 52 #[.int .u8 5, .int .u8 x.byo, .int .i64 x.d, .int .i64 x.e, .int .i64 x.a, .int .i64 x.b, .int .i64 x.f, .int .i64 x.cell, .int .u64 x.imm, .slice AA m ac, .int .i64 x.next, .int .i64 x.els]).drew;have hb2 := (Hbq.out.alloc HVq.out.size_.2 (.cells #[.int .u8 5, .int .u8 x.byo, .int .i64 x.d, .int .i64 x.e, .int .i64 x.a, .int .i64 x.b, .int .i64 x.f, .int .i64 x.cell, .int .u64 x.imm, .slice AA m ac, .int .i64 x.next, .int .i64 x.els] 52)).drew;obtain ⟨W2, hW2⟩ := nm ((wq.alloc (.cells #[.int .u8 5, .int .u8 x.byo, .int .i64 x.d, .int .i64 x.e, .int .i64 x.a, .int .i64 x.b, .int .i64 x.f, .int .i64 x.cell, .int .u64 x.imm, .slice AA m ac, .int .i64 x.next, .int .i64 x.els] 52)).drew);rw [<- hW2] at hV2 hb2 ⊢;rw [hGB] at hV2;obtain ⟨rest1, hrest1⟩ := nm (It.blk GB 52 #[.int .u8 5, .int .u8 x.byo, .int .i64 x.d, .int .i64 x.e, .int .i64 x.a, .int .i64 x.b, .int .i64 x.f, .int .i64 x.cell, .int .u64 x.imm, .slice AA m ac, .int .i64 x.next, .int .i64 x.els] :: rest);rw [<- hrest1] at hV2
 have h2 : RunAt W2 base X R1 rest1 := ⟨H.out.le, H.out.gs.below (hb2.mono H.out.le), _, hV2⟩
 have hGm : It.blk GB 52 #[.int .u8 5, .int .u8 x.byo, .int .i64 x.d, .int .i64 x.e, .int .i64 x.a, .int .i64 x.b, .int .i64 x.f, .int .i64 x.cell, .int .u64 x.imm, .slice AA m ac, .int .i64 x.next, .int .i64 x.els] ∈ rest1 := by rw [hrest1]; exact List.mem_cons_self
 have hrd : ∀ (W : World) (Q : RunD), RunAt W base X Q rest1 -> RunAt W base X Q rest := fun W Q hQ => by
  rw [hrest1] at hQ;exact hQ.drop
 have hNB2 : Blk W2 GB 52 #[.int .u8 5, .int .u8 x.byo, .int .i64 x.d, .int .i64 x.e, .int .i64 x.a, .int .i64 x.b, .int .i64 x.f, .int .i64 x.cell, .int .u64 x.imm, .slice AA m ac, .int .i64 x.next, .int .i64 x.els] := (h2.mem hGm).2;have hT2 := hV2.topAt Hst1.out.ne hv HT.out.rv;have k0 := bc hNB2 0;have k4 := bc hNB2 4;have k7 := bc hNB2 7;have k10 := bc hNB2 10;clear hHeld2 hSq;obtain ⟨HV2, Hb2, HW2, Hrest1, H2, HGm, Hrd, HNB2⟩ := hd8 hV2 hb2 hW2 hrest1 h2 hGm hrd hNB2;have HT2 := Lib.hid hT2;clear hT2 hNB2 hrd hGm h2 hrest1 hW2 hb2 hV2;have hcv := HT2.out.cv;obtain ⟨CA, cc, hcve, _⟩ := own_any hcv;have hce := Hnd.out.cell (by have := Hop.out; omega)
 obtain ⟨kc, hkc⟩ : ∃ kc : Nat, x.cell = kc := ⟨x.cell.toNat, by omega⟩
 obtain ⟨CN, hCN⟩ := mn (R1.top.cells.length)
 have hkcl : kc < CN := by rw [<- hCN, Hcl.out]; omega
 have hkci : (kc : Int) < CN := by omega
 have f4 := HT2.out.f4;rw [hCN] at hcve hcv;rw [hcve] at f4 hcv;rw [hkc] at k7;obtain ⟨_, cq, hCA, _, _, hcl2⟩ := own_row hcv (by omega);subst hCA;have hkv := hcl2 kc _ (u64s_get R1.top.cells kc (by rw [hCN]; exact hkcl));rw [addr_zero] at hkv;obtain ⟨cval, hcval⟩ := mn (R1.top.cells.getD kc 0);rw [hcval] at hkv;obtain ⟨Hcv, Hcve, Hce, Hkc, HCN, Hcl2, Hcval⟩ := hd7 hcv hcve hce hkc hCN hcl2 hcval;clear hcval hcl2 hCN hkc hce hcve hcv;go_upto_region 18 with fail;have hkf : W2.frozen? ⟨cq, kc, none⟩ = false := World.ownsRow.frozenAt Hcv.out kc;refine wp_region_late (S := fun W => W.cell? ⟨GB, 4, none⟩ = some (.int .i64 x.a) /\ W.cell? ⟨GB, 7, none⟩ = some (.int .i64 (kc : Nat)) /\ W.cell? ⟨gr, n * 9 + 4, none⟩ = some (.slice (some ⟨cq, 0, none⟩) CN cc) /\ W.cell? ⟨cq, kc, none⟩ = some (.int .u64 cval) /\ W.frozen? ⟨cq, kc, none⟩ = false) #[false, false, false, false, false, false, false, false, false, false, false, true] (by kernel_rfl) ⟨k4, k7, f4, hkv, hkf⟩ (fun hHeld => ?_);refine wpAnyL_tk 0 ?_;refine wpAnyL_tk 1 ?_;refine wpAnyL_tk 2 ?_;refine wpAnyL_tk 3 ?_;refine wpAnyL_tk 4 ?_;refine wpAnyL_tk 5 ?_;refine wpAnyL_tk 6 ?_;refine wpAnyL_tk 7 ?_;refine wpAnyL_tk 8 ?_;refine wpAnyL_rd 9 (fun K hK => ?_);go_simp;refine Calls.mono (get_any (base := base) (X := X) (R := R1) (rest := rest1) ?hh3 Hst1.out.ne (p := x.a) (Hnd.out.a (by have := Hop.out; omega)).1 (.inr (by have := Hnd.out.a (by have := Hop.out; omega); rw [Hkl.out]; omega)) (by have := Hsz1.out.row; omega)) ?mm3
 case hh3 => first | exact H2.out | exact H2.out.drew
 rintro e w3 ⟨rfl, q3, hw3⟩
 have h3 : RunAt w3 base X R1 rest1 := by rw [hw3]; first | exact H2.out.drewN q3 | exact H2.out.drew.drewN q3
 have hb3 : Below base w w3 := by rw [hw3]; first | exact below_drewN Hb2.out q3 | exact below_drewN Hb2.out.drew q3
 have hN3 : Blk w3 GB 52 #[.int .u8 5, .int .u8 x.byo, .int .i64 x.d, .int .i64 x.e, .int .i64 x.a, .int .i64 x.b, .int .i64 x.f, .int .i64 x.cell, .int .u64 x.imm, .slice AA m ac, .int .i64 x.next, .int .i64 x.els] := (h3.mem HGm.out).2;have j34 := bc hN3 4;have j37 := bc hN3 7;rw [Hkc.out] at j37
 have hV3 : RunIn w3 base X R1 V rest1 := by rw [hw3]; first | exact HV2.out.drewN q3 | exact HV2.out.drew.drewN q3
 have f43 : w3.cell? ⟨gr, n * 9 + 4, none⟩ = some (.slice (some ⟨cq, 0, none⟩) CN cc) := by rw [hw3]; exact f4
 have hkv3 : w3.cell? ⟨cq, kc, none⟩ = some (.int .u64 cval) := by rw [hw3]; exact hkv
 have hkf3 : w3.frozen? ⟨cq, kc, none⟩ = false := by rw [hw3]; exact hkf
 refine hK.out _ _ ⟨j34, j37, f43, hkv3, hkf3⟩ (fun hHeld3 => ?_);clear hK K;obtain ⟨H3, Hb3, HN3, Hw3⟩ := hd4 h3 hb3 hN3 hw3;clear hw3 hN3 hb3 h3;refine lay ?_;obtain ⟨gv, hgv2⟩ := mn (R1.get x.a);rw [hgv2];obtain ⟨_, _, _, hr3, _⟩ := hV3.top_eq Hst1.out.ne;obtain ⟨g4, c4, v4, hrv4, hcv4, _, hown4, _, hset4⟩ := hV3.frame (i := 0) (x := R1.top) (by rw [hr3]; rfl)
 have hg4 : gr = g4 := by rw [HT2.out.rv] at hrv4; injection hrv4 with i1; injection i1 with i1; injection i1 with i1
 subst hg4;rw [Hlen.out] at hcv4
 replace hcv4 : w3.cell? ⟨gr, n * 9 + 4, none⟩ = some v4.cv := by simpa using hcv4
 have hcq4 : v4.cv = .slice (some ⟨cq, 0, none⟩) CN cc := by rw [f43] at hcv4; injection hcv4 with e; exact e.symm
 have hV8 := hset4 kc gv cq cc (by rw [HCN.out]; exact hkcl) (by rw [HCN.out]; exact hcq4);rw [setCell_top Hst1.out.ne] at hV8;obtain ⟨R8, hR8⟩ := mn (R1.setTop { R1.top with cells := R1.top.cells.set kc gv });rw [hR8] at hV8
 have hn8 : R8.row ≠ [] := by rw [<- hR8]; exact (setTop_row _).1
 have hz8r : R8.row.length <= N := by
  rw [<- hR8];show R1.row.tail.length + 1 <= N;rw [List.length_tail];have := List.length_pos_iff.mpr Hst1.out.ne
  omega
 have hle4 := (own_le (show w3.ownsRow base 34 1 (.slice (some ⟨cq, 0, none⟩) CN cc) _ _ from by rw [<- hcq4]; exact hown4)).1;have hb8 := Hb3.out.setCell (p := ⟨cq, kc, none⟩) hle4 (.int .u64 gv);obtain ⟨w8, hw8⟩ := nm (w3.setCell ⟨cq, kc, none⟩ (.int .u64 gv));rw [<- hw8] at hV8 hb8
 have h8 : RunAt w8 base X R8 rest1 := ⟨H.out.le, H.out.gs.below (hb8.mono H.out.le), _, hV8⟩
 obtain ⟨HV3, Hr3, Hrv4, Hcv4, Hown4, Hset4, Hcq4, HV8⟩ := hd8 hV3 hr3 hrv4 hcv4 hown4 hset4 hcq4 hV8;obtain ⟨HR8, Hb8, H8, Hgv2⟩ := hd4 hR8 hb8 h8 hgv2;clear hgv2 h8 hb8 hR8 hV8 hcq4 hset4 hown4 hcv4 hrv4 hr3 hV3;refine wpAnyL_tk 10 ?_;refine wpAnyL_ls 11 (fun K hK => ?_);go_simp;refine hK.out _ _ ?_;clear hK K;refine lay ?_;refine wpAnyL_done (by kernel_rfl) ?_ _
 try rw [<- hw8]
 have Hw8 := Lib.hid hw8;clear hw8;clear k0 k4 k7 k10 f4 hkv hkf j34 j37 f43 hkv3 hkf3 hHeld hHeld3;obtain ⟨V8, hV8⟩ := H8.out.run;obtain ⟨g8, c8, n8, v8, s8, hv8, hT8⟩ := hV8.top hn8;have hl8 := hT8.len;have hz8 := hz8r
 have z3 : w8.cell? ⟨X.rp, 3, none⟩ = some (.slice (some ⟨g8, 0, none⟩) (n8 + 1) c8) := by
  have := hV8.blk.cell 3;rw [this, <- hT8.rv]; rfl
 have z1 := hT8.f1;have z1f := hT8.fz (n8 * 9 + 1)
 have hn81 : IntKind.i64.wrap (n8 : Int) = n8 := by rw [IntKind.wrap_i64]; omega
 have hn82 : (n8 : Int) < n8 + 1 := by omega
 have hV9 := hV8.setFr hT8 hv8 (x' := { R8.top with at_ := x.next }) (v' := v8) (j := 1) (u := .int .i64 x.next) (by omega) rfl rfl (by obtain ⟨_, v2, _, _, e, _, e2⟩ := hV8.top_eq hn8; rw [hv8] at e; injection e with e _; rw [e]; exact e2);have hb9 := Hb8.out.setCell (p := ⟨g8, n8 * 9 + 1, none⟩) hT8.le (.int .i64 x.next);have h9 := Hrd.out _ _ (show RunAt (w8.setCell ⟨g8, n8 * 9 + 1, none⟩ (.int .i64 x.next)) base X (R8.goOn x.next) rest1 from ⟨H.out.le, H.out.gs.below (hb9.mono H.out.le), _, hV9⟩);obtain ⟨HV8, HT8, Hv8, HV9, Hb9, H9, Hl8⟩ := hd7 hV8 hT8 hv8 hV9 hb9 h9 hl8;clear hl8 h9 hb9 hV9 hv8 hT8 hV8;go_upto_region 65 with fail;refine wp_region_late (S := fun W => W.cell? ⟨X.rp, 3, none⟩ = some (.slice (some ⟨g8, 0, none⟩) (n8 + 1) c8) /\ W.cell? ⟨g8, n8 * 9 + 1, none⟩ = some (.int .i64 R8.top.at_) /\ W.frozen? ⟨g8, n8 * 9 + 1, none⟩ = false) #[false, false, false, false, false, false, false, false, false, false, false, false, false, true] (by kernel_rfl) ⟨z3, z1, z1f⟩ (fun hHeld => ?_);refine wpAnyL_tk 0 ?_;refine wpAnyL_tk 1 ?_;refine wpAnyL_tk 2 ?_;refine wpAnyL_tk 3 ?_;refine wpAnyL_tk 4 ?_;refine wpAnyL_tk 5 ?_;refine wpAnyL_tk 6 ?_;refine wpAnyL_tk 7 ?_;refine wpAnyL_tk 8 ?_;refine wpAnyL_tk 9 ?_;refine wpAnyL_tk 10 ?_;refine wpAnyL_tk 11 ?_;refine wpAnyL_tk 12 ?_;refine wpAnyL_ls 13 (fun K hK => ?_);go_simp;refine hK.out _ _ ?_;clear hK K;refine lay ?_;refine wpAnyL_done (by kernel_rfl) ?_ _;go_wp2_with fail;go_end0
 have hfinal : R.step X.gs = R8.goOn x.next := by
  rw [Hop2.out];unfold stepN;dsimp only;rw [if_neg (by rw [Hop.out]; omega)]; rw [if_neg (by rw [Hop.out]; omega)]; rw [if_neg (by rw [Hop.out]; omega)]; rw [if_neg (by rw [Hop.out]; omega)]; rw [if_pos Hop.out]; rw [Hkc.out, Int.toNat_natCast, Hgv2.out, HR8.out]
 first
  | exact ⟨rfl, by rw [hfinal]; exact H9.out, Hb9.out⟩
  | exact ⟨rfl, by rw [hfinal]; exact H9.out.drew, Hb9.out.drew⟩
end
end Go.Proofs.Ytncpehhfjkncoaa
namespace Go.Proofs.Ytncpehhfjkncoaa
open Go.RowKit

section
variable {w : World} {base N f i : Nat} {X : RunX} {R : RunD} {rest : List It} {g : GraphD} {x : NodeD}
theorem qstep_6 (hp : StepPre w base X R rest N f i g x) (hop : x.op = 6) :
  Calls Try.prog 15 #[.pointer (some ⟨X.rp, 0, none⟩)] w fun e w' => RunGot base X rest w (.tuple #[]) (R.step X.gs) e w' := by
 have hx0 := hp.st;have hgs0 := hp.h.gs;obtain ⟨hg, h, ok, sz, hN, hst, hgm, hxm, hend, hsteps, hnd⟩ := hp
 have hop2 : R.step X.gs = stepN X.gs { R with steps := R.steps + 1 } x := by rw [step_eq, hst.node]
 obtain ⟨V, hV⟩ := h.run;obtain ⟨GA, gc, hgv, _, _⟩ := h.gs.slice;have hgs := h.gs;rw [hgv] at hgs;obtain ⟨ad, pv, kv, iv, nv, hAd, hfl, hM⟩ := GraphsAt.at_ hgs hst.gr;subst hAd;obtain ⟨NA, nn, nc, css, hne, hrest⟩ := hM.nodes
 have hNo : RowsAt 12 NodeAt w X.B (.slice NA nn nc) g.nodes := ⟨NA, nn, nc, css, rfl, hrest⟩
 subst hne;obtain ⟨nad, av, hNA, hin, hC⟩ := node_at hNo hst.nd;subst hNA;have hb := hV.blk;obtain ⟨F, hF⟩ := mn (X.gs.length);have b9 : w.cell? ⟨X.rp, 9, none⟩ = some (.int .i64 R.steps) := hb.cell 9;have b9f := hb.frozen 9;rw [hF] at hfl;obtain ⟨AA, ac, hae, _⟩ := hC.args.slice;obtain ⟨m, hm⟩ := mn (x.args.length);rw [hm] at hae
 have hfi : (f : Int) < F := by omega
 have hii : (i : Int) < nn := by omega
 obtain ⟨st, hste⟩ := mn (R.steps);rw [hste] at b9
 have hsw : IntKind.i64.wrap (st + 1) = st + 1 := by rw [IntKind.wrap_i64]; omega
 obtain ⟨R1, hR1⟩ := nm ({ R with steps := R.steps + 1 } : RunD);have hV1 := hV.setF (R' := R1) 9 (.int .i64 (st + 1)) (by rw [hR1, hste]; rfl) (by rw [hR1]; exact ⟨rfl, rfl, rfl, rfl, rfl⟩);have hb1 := (Below.refl base w).setCell (p := ⟨X.rp, 9, none⟩) hV.size_.1 (.int .i64 (st + 1));rw [<- hR1] at hop2
 have hgA : gAt X.gs R.top.f = g := by
  unfold gAt;rw [hst.fr, Int.toNat_natCast, List.getD_eq_getElem?_getD, hst.gr]; rfl
 have htop := ok.top hst.ne
 have hkl : R1.top.places.length = g.kinds.length := by rw [hR1, <- hgA]; exact htop.places.1
 have hcl : R1.top.cells.length = g.cells.toNat := by rw [hR1, <- hgA]; exact htop.cells.1
 have hst1 : Stand X.gs R1 f i g x := by rw [hR1]; exact ⟨hst.ne, hst.fr, hst.gr, hst.an, hst.nd⟩
 have ok1 : RunOk X.gs 0 R1 := by rw [hR1]; exact ⟨ok.regs, ok.row, ok.calls, ok.list, ok.tape, ok.events⟩
 have sz1 : Sz N R1 := by rw [hR1]; exact ⟨sz.row, sz.list, sz.waits⟩
 have hend1 : R1.endK = 0 := by rw [hR1]; exact hend
 obtain ⟨H, HV, Hgv, Hgs, HM, HNo, HC, Hb⟩ := hd8 h hV hgv hgs hM hNo hC hb;obtain ⟨HF, Hae, Hm, Hst, Hgs0, HR1, Hop2, HV1⟩ := hd8 hF hae hm hst hgs0 hR1 hop2 hV1;obtain ⟨Hb1, Hst1, Hok1, Hsz1, Hend1, Hnd, Hx0, Hend⟩ := hd8 hb1 hst1 ok1 sz1 hend1 hnd hx0 hend;obtain ⟨Hste, Hok0, Hsz, HgA, Hkl, Hcl, Htop⟩ := hd7 hste ok sz hgA hkl hcl htop;clear htop hcl hkl hgA sz ok hste hend hx0 hnd hend1 sz1 ok1 hst1 hb1 hV1 hop2 hR1 hgs0 hst hm hae hF hb hC hNo hM hgs hgv hV h;go_enter Try.func15, Try.ntmps15;go_upto_region 1 with fail;obtain ⟨w1, hw1⟩ := nm (w.setCell ⟨X.rp, 9, none⟩ (.int .i64 (st + 1)));have hV1 := HV1.out;have hb1 := Hb1.out;rw [<- hw1] at hV1 hb1 ⊢;clear b9 b9f HV1 Hb1;obtain ⟨gr, c, n, vv, s, hv, hT⟩ := hV1.top Hst1.out.ne;have hlen := hT.len;have hrow1 := Hsz1.out.row
 have b3 : w1.cell? ⟨X.rp, 3, none⟩ = some (.slice (some ⟨gr, 0, none⟩) (n + 1) c) := by
  have := hV1.blk.cell 3;rw [this, <- hT.rv]; rfl
 have hn1 : IntKind.i64.wrap (n : Int) = n := by rw [IntKind.wrap_i64]; omega
 have hn2 : (n : Int) < n + 1 := by omega
 obtain ⟨HV1, Hb1, Hw1, HT, Hlen⟩ := hd5 hV1 hb1 hw1 hT hlen;clear hlen hT hw1 hb1 hV1
 go_quiet (fail)
 have hVq := HV1.out.drewN nq;have hbq := below_drewN Hb1.out nq;obtain ⟨wq, hwq⟩ := nm (w1.drewN nq);rw [<- hwq] at hVq hbq ⊢;clear b3;have hTq := hVq.topAt Hst1.out.ne hv HT.out.rv;have hgsq := Hgs.out.below (hbq.mono H.out.le);have hNoq := Hgs.out
 have hCq : NodeC wq X.B (nad.add (i * 12)) x av := HC.out.keep fun p hp => (hbq.mono H.out.le).cell hp
 obtain ⟨GB, hGB⟩ := mn (wq.heap.size)
 have hBq : X.B <= GB := by have := H.out.le; have := hVq.size_.2; omega
 have hadl : (ad.add (f * 8)).block < GB := by have := HM.out.lt; omega
 have hnal : (nad.add (i * 12)).block < GB := by have := HC.out.lt; omega
 have b0 : wq.cell? ⟨X.rp, 0, none⟩ = some (.slice (some ad) F gc) := by
  have := hVq.blk.cell 0;rw [this, <- HF.out, <- Hgv.out]; rfl
 have c6 : wq.cell? ⟨(ad.add (f * 8)).block, (ad.add (f * 8)).off + 6, none⟩ = some (.slice (some nad) nn nc) := ((hbq.mono H.out.le).cell (p := ⟨(ad.add (f * 8)).block, _, none⟩) HM.out.lt).trans HM.out.c6
 have f0 : wq.cell? ⟨gr, n * 9, none⟩ = some (.int .i64 (f : Nat)) := by rw [hTq.f0, Hst1.out.fr]
 have f1 : wq.cell? ⟨gr, n * 9 + 1, none⟩ = some (.int .i64 (i : Nat)) := by rw [hTq.f1, Hst1.out.an]
 have a0 := hCq.c0;rw [hop] at a0;have a9 := hCq.c9;rw [Hae.out] at a9
 have hrpl : X.rp < GB := by rw [<- hGB]; exact hVq.blk.lt
 have hgrl : gr < GB := by rw [<- hGB]; exact hTq.lt
 have hS : ∀ W : World, (∀ p : Addr, p.block < GB -> W.cell? p = wq.cell? p) -> W.cell? ⟨X.rp, 0, none⟩ = some (.slice (some ad) F gc) /\ W.cell? ⟨gr, n * 9, none⟩ = some (.int .i64 (f : Nat)) /\ W.cell? ⟨gr, n * 9 + 1, none⟩ = some (.int .i64 (i : Nat)) /\ W.cell? ⟨(ad.add (f * 8)).block, (ad.add (f * 8)).off + 6, none⟩ = some (.slice (some nad) nn nc) /\ W.cell? (nad.add (i * 12)) = some (.int .u8 6) /\ W.cell? ⟨(nad.add (i * 12)).block, (nad.add (i * 12)).off + 1, none⟩ = some (.int .u8 x.byo) /\ W.cell? ⟨(nad.add (i * 12)).block, (nad.add (i * 12)).off + 2, none⟩ = some (.int .i64 x.d) /\ W.cell? ⟨(nad.add (i * 12)).block, (nad.add (i * 12)).off + 3, none⟩ = some (.int .i64 x.e) /\ W.cell? ⟨(nad.add (i * 12)).block, (nad.add (i * 12)).off + 4, none⟩ = some (.int .i64 x.a) /\ W.cell? ⟨(nad.add (i * 12)).block, (nad.add (i * 12)).off + 5, none⟩ = some (.int .i64 x.b) /\ W.cell? ⟨(nad.add (i * 12)).block, (nad.add (i * 12)).off + 6, none⟩ = some (.int .i64 x.f) /\ W.cell? ⟨(nad.add (i * 12)).block, (nad.add (i * 12)).off + 7, none⟩ = some (.int .i64 x.cell) /\ W.cell? ⟨(nad.add (i * 12)).block, (nad.add (i * 12)).off + 8, none⟩ = some (.int .u64 x.imm) /\ W.cell? ⟨(nad.add (i * 12)).block, (nad.add (i * 12)).off + 9, none⟩ = some (.slice AA m ac) /\ W.cell? ⟨(nad.add (i * 12)).block, (nad.add (i * 12)).off + 10, none⟩ = some (.int .i64 x.next) /\ W.cell? ⟨(nad.add (i * 12)).block, (nad.add (i * 12)).off + 11, none⟩ = some (.int .i64 x.els) := fun W hW => by
  have gn : ∀ j, W.cell? ⟨(nad.add (i * 12)).block, (nad.add (i * 12)).off + j, none⟩ = wq.cell? ⟨(nad.add (i * 12)).block, (nad.add (i * 12)).off + j, none⟩ := fun j => hW _ hnal
  exact ⟨(hW _ hrpl).trans b0, (hW _ hgrl).trans f0, (hW _ hgrl).trans f1, (hW ⟨(ad.add (f * 8)).block, _, none⟩ hadl).trans c6, (hW _ hnal).trans a0, (gn 1).trans hCq.c1, (gn 2).trans hCq.c2, (gn 3).trans hCq.c3, (gn 4).trans hCq.c4, (gn 5).trans hCq.c5, (gn 6).trans hCq.c6, (gn 7).trans hCq.c7, (gn 8).trans hCq.c8, (gn 9).trans a9, (gn 10).trans hCq.c10, (gn 11).trans hCq.c11⟩
 have hSq := hS wq fun _ _ => rfl
 clear b0 c6 f0 f1 a0 a9;obtain ⟨Hwq, HVq, Hbq, HTq, HCq, HS, Hgsq, HNoq⟩ := hd8 hwq hVq hbq hTq hCq hS hgsq hNoq;have Hop := Lib.hid hop;clear hop hNoq hgsq hS hCq hTq hbq hVq hwq;go_upto_region 2 with fail
 refine wp_region_late (S := fun W => W.cell? ⟨X.rp, 0, none⟩ = some (.slice (some ad) F gc) /\ W.cell? ⟨gr, n * 9, none⟩ = some (.int .i64 (f : Nat)) /\ W.cell? ⟨gr, n * 9 + 1, none⟩ = some (.int .i64 (i : Nat)) /\ W.cell? ⟨(ad.add (f * 8)).block, (ad.add (f * 8)).off + 6, none⟩ = some (.slice (some nad) nn nc) /\ W.cell? (nad.add (i * 12)) = some (.int .u8 6) /\ W.cell? ⟨(nad.add (i * 12)).block, (nad.add (i * 12)).off + 1, none⟩ = some (.int .u8 x.byo) /\ W.cell? ⟨(nad.add (i * 12)).block, (nad.add (i * 12)).off + 2, none⟩ = some (.int .i64 x.d) /\ W.cell? ⟨(nad.add (i * 12)).block, (nad.add (i * 12)).off + 3, none⟩ = some (.int .i64 x.e) /\ W.cell? ⟨(nad.add (i * 12)).block, (nad.add (i * 12)).off + 4, none⟩ = some (.int .i64 x.a) /\ W.cell? ⟨(nad.add (i * 12)).block, (nad.add (i * 12)).off + 5, none⟩ = some (.int .i64 x.b) /\ W.cell? ⟨(nad.add (i * 12)).block, (nad.add (i * 12)).off + 6, none⟩ = some (.int .i64 x.f) /\ W.cell? ⟨(nad.add (i * 12)).block, (nad.add (i * 12)).off + 7, none⟩ = some (.int .i64 x.cell) /\ W.cell? ⟨(nad.add (i * 12)).block, (nad.add (i * 12)).off + 8, none⟩ = some (.int .u64 x.imm) /\ W.cell? ⟨(nad.add (i * 12)).block, (nad.add (i * 12)).off + 9, none⟩ = some (.slice AA m ac) /\ W.cell? ⟨(nad.add (i * 12)).block, (nad.add (i * 12)).off + 10, none⟩ = some (.int .i64 x.next) /\ W.cell? ⟨(nad.add (i * 12)).block, (nad.add (i * 12)).off + 11, none⟩ = some (.int .i64 x.els))
  #[false, false, false, false, false, false, false, false, false, false, false, false, false, false, false, false, false, false, false, true] (by kernel_rfl) hSq (fun hHeld => ?_)
 refine wpAnyL_tk 0 ?_;refine wpAnyL_tk 1 ?_;refine wpAnyL_tk 2 ?_;refine wpAnyL_tk 3 ?_;refine wpAnyL_tk 4 ?_;refine wpAnyL_tk 5 ?_;refine wpAnyL_tk 6 ?_;refine wpAnyL_tk 7 ?_;refine wpAnyL_tk 8 ?_;refine wpAnyL_tk 9 ?_;refine wpAnyL_tk 10 ?_;refine wpAnyL_tk 11 ?_;refine wpAnyL_tk 12 ?_;refine wpAnyL_tk 13 ?_;refine wpAnyL_tk 14 ?_;refine wpAnyL_tk 15 ?_;refine wpAnyL_tk 16 ?_;refine wpAnyL_tk 17 ?_;refine wpAnyL_rd 18 (fun K hK => ?_);go_simp;refine hK.out _ _ (HS.out _ fun p hp => World.cell?_alloc_lt _ _ p (by rw [hGB]; exact hp)) (fun hHeld2 => ?_);clear hK K hHeld;refine lay ?_;refine wpAnyL_ls 19 (fun K hK => ?_);go_simp;refine hK.out _ _ ?_;clear hK K;refine lay ?_;refine wpAnyL_done (by kernel_rfl) ?_ _;have hV2 := (HVq.out.box 52 #[.int .u8 6, .int .u8 x.byo, .int .i64 x.d, .int .i64 x.e, .int .i64 x.a, .int .i64 x.b, .int .i64 x.f, .int .i64 x.cell, .int .u64 x.imm, .slice AA m ac, .int .i64 x.next, .int .i64 x.els]).drew;have hb2 := (Hbq.out.alloc HVq.out.size_.2 (.cells #[.int .u8 6, .int .u8 x.byo, .int .i64 x.d, .int .i64 x.e, .int .i64 x.a, .int .i64 x.b, .int .i64 x.f, .int .i64 x.cell, .int .u64 x.imm, .slice AA m ac, .int .i64 x.next, .int .i64 x.els] 52)).drew;obtain ⟨W2, hW2⟩ := nm ((wq.alloc (.cells #[.int .u8 6, .int .u8 x.byo, .int .i64 x.d, .int .i64 x.e, .int .i64 x.a, .int .i64 x.b, .int .i64 x.f, .int .i64 x.cell, .int .u64 x.imm, .slice AA m ac, .int .i64 x.next, .int .i64 x.els] 52)).drew);rw [<- hW2] at hV2 hb2 ⊢;rw [hGB] at hV2;obtain ⟨rest1, hrest1⟩ := nm (It.blk GB 52 #[.int .u8 6, .int .u8 x.byo, .int .i64 x.d, .int .i64 x.e, .int .i64 x.a, .int .i64 x.b, .int .i64 x.f, .int .i64 x.cell, .int .u64 x.imm, .slice AA m ac, .int .i64 x.next, .int .i64 x.els] :: rest);rw [<- hrest1] at hV2
 have h2 : RunAt W2 base X R1 rest1 := ⟨H.out.le, H.out.gs.below (hb2.mono H.out.le), _, hV2⟩
 have hGm : It.blk GB 52 #[.int .u8 6, .int .u8 x.byo, .int .i64 x.d, .int .i64 x.e, .int .i64 x.a, .int .i64 x.b, .int .i64 x.f, .int .i64 x.cell, .int .u64 x.imm, .slice AA m ac, .int .i64 x.next, .int .i64 x.els] ∈ rest1 := by rw [hrest1]; exact List.mem_cons_self
 have hrd : ∀ (W : World) (Q : RunD), RunAt W base X Q rest1 -> RunAt W base X Q rest := fun W Q hQ => by
  rw [hrest1] at hQ;exact hQ.drop
 have hNB2 : Blk W2 GB 52 #[.int .u8 6, .int .u8 x.byo, .int .i64 x.d, .int .i64 x.e, .int .i64 x.a, .int .i64 x.b, .int .i64 x.f, .int .i64 x.cell, .int .u64 x.imm, .slice AA m ac, .int .i64 x.next, .int .i64 x.els] := (h2.mem hGm).2;have hT2 := hV2.topAt Hst1.out.ne hv HT.out.rv;have k0 := bc hNB2 0;have k2 := bc hNB2 2;have k7 := bc hNB2 7;have k10 := bc hNB2 10;clear hHeld2 hSq;obtain ⟨HV2, Hb2, HW2, Hrest1, H2, HGm, Hrd, HNB2⟩ := hd8 hV2 hb2 hW2 hrest1 h2 hGm hrd hNB2;have HT2 := Lib.hid hT2;clear hT2 hNB2 hrd hGm h2 hrest1 hW2 hb2 hV2;have hce := Hnd.out.cell (by have := Hop.out; omega)
 obtain ⟨kc, hkc⟩ : ∃ kc : Nat, x.cell = kc := ⟨x.cell.toNat, by omega⟩
 have hg64 : g.cells <= 64 := ((hg.push f g _ Hst1.out.gr rfl).c).2;rw [hkc] at k7
 have b3 : W2.cell? ⟨X.rp, 3, none⟩ = some (.slice (some ⟨gr, 0, none⟩) (n + 1) c) := by
  have := HV2.out.blk.cell 3;rw [this, <- HT2.out.rv]; rfl
 have hnN : n + 1 <= N := by have := Hlen.out; omega
 have hu1 : IntKind.u64.wrap (n : Int) = n := by rw [IntKind.wrap_u64]; omega
 have hu2 : IntKind.u64.wrap (kc : Int) = kc := by rw [IntKind.wrap_u64]; omega
 have hu3 : IntKind.u64.wrap ((n : Int) * 65536) = (n : Int) * 65536 := by rw [IntKind.wrap_u64]; omega
 have hu4 : IntKind.u64.wrap (4611686018427387904 + (n : Int) * 65536) = 4611686018427387904 + (n : Int) * 65536 := by rw [IntKind.wrap_u64]; omega
 have hu5 : IntKind.u64.wrap (4611686018427387904 + (n : Int) * 65536 + kc) = 4611686018427387904 + (n : Int) * 65536 + kc := by rw [IntKind.wrap_u64]; omega
 obtain ⟨Hce, Hkc, Hg64⟩ := hd3 hce hkc hg64;clear hg64 hkc hce;go_upto_region 20 with fail;refine wp_region_late (S := fun W => W.cell? ⟨GB, 2, none⟩ = some (.int .i64 x.d) /\ W.cell? ⟨GB, 7, none⟩ = some (.int .i64 (kc : Nat)) /\ W.cell? ⟨X.rp, 3, none⟩ = some (.slice (some ⟨gr, 0, none⟩) (n + 1) c)) #[false, false, false, false, false, false, false, false, false, false, false, false, false, false, false, false, true] (by kernel_rfl) ⟨k2, k7, b3⟩ (fun hHeld => ?_);refine wpAnyL_tk 0 ?_;refine wpAnyL_tk 1 ?_;refine wpAnyL_tk 2 ?_;refine wpAnyL_tk 3 ?_;refine wpAnyL_tk 4 ?_;refine wpAnyL_tk 5 ?_;refine wpAnyL_tk 6 ?_;refine wpAnyL_tk 7 ?_;refine wpAnyL_tk 8 ?_;refine wpAnyL_tk 9 ?_;refine wpAnyL_tk 10 ?_;refine wpAnyL_tk 11 ?_;refine wpAnyL_tk 12 ?_;refine wpAnyL_tk 13 ?_;refine wpAnyL_tk 14 ?_;refine wpAnyL_tk 15 ?_;refine wpAnyL_ls 16 (fun K hK => ?_);go_simp;refine Calls.mono (set_any (base := base) (X := X) (R := R1) (rest := rest1) ?hh Hst1.out.ne (p := x.d) (by have := Hnd.out.d (by have := Hop.out; omega); rw [Hkl.out]; omega) (by have := Hsz1.out.row; omega) (4611686018427387904 + (n : Int) * 65536 + kc)) ?mm
 case hh => first | exact H2.out | exact H2.out.drew
 rintro e w8 ⟨rfl, h8, hb8'⟩
 have hb8 : Below base w w8 := by first | exact Hb2.out.trans hb8' | exact Hb2.out.drew.trans hb8'
 obtain ⟨R8, hR8⟩ := mn (R1.set x.d (4611686018427387904 + (n : Int) * 65536 + kc));rw [hR8] at h8
 have hn8 : R8.row ≠ [] := by rw [<- hR8]; exact set_row _ _ _ Hst1.out.ne
 have hz8r : R8.row.length <= N := by rw [<- hR8, (set_lens Hst1.out.ne _ _).1]; exact Hsz1.out.row
 obtain ⟨H8, Hb8, Hb8', HR8⟩ := hd4 h8 hb8 hb8' hR8;clear hR8 hb8' hb8 h8;refine hK.out _ _ ?_;clear hK K;refine lay ?_;refine wpAnyL_done (by kernel_rfl) ?_ _;obtain ⟨V8, hV8⟩ := H8.out.run;obtain ⟨g8, c8, n8, v8, s8, hv8, hT8⟩ := hV8.top hn8;have hl8 := hT8.len;have hz8 := hz8r
 have z3 : w8.cell? ⟨X.rp, 3, none⟩ = some (.slice (some ⟨g8, 0, none⟩) (n8 + 1) c8) := by
  have := hV8.blk.cell 3;rw [this, <- hT8.rv]; rfl
 have z1 := hT8.f1;have z1f := hT8.fz (n8 * 9 + 1)
 have hn81 : IntKind.i64.wrap (n8 : Int) = n8 := by rw [IntKind.wrap_i64]; omega
 have hn82 : (n8 : Int) < n8 + 1 := by omega
 have hV9 := hV8.setFr hT8 hv8 (x' := { R8.top with at_ := x.next }) (v' := v8) (j := 1) (u := .int .i64 x.next) (by omega) rfl rfl (by obtain ⟨_, v2, _, _, e, _, e2⟩ := hV8.top_eq hn8; rw [hv8] at e; injection e with e _; rw [e]; exact e2);have hb9 := Hb8.out.setCell (p := ⟨g8, n8 * 9 + 1, none⟩) hT8.le (.int .i64 x.next);have h9 := Hrd.out _ _ (show RunAt (w8.setCell ⟨g8, n8 * 9 + 1, none⟩ (.int .i64 x.next)) base X (R8.goOn x.next) rest1 from ⟨H.out.le, H.out.gs.below (hb9.mono H.out.le), _, hV9⟩);obtain ⟨HV8, HT8, Hv8, HV9, Hb9, H9, Hl8⟩ := hd7 hV8 hT8 hv8 hV9 hb9 h9 hl8;clear hl8 h9 hb9 hV9 hv8 hT8 hV8;go_upto_region 65 with fail;refine wp_region_late (S := fun W => W.cell? ⟨X.rp, 3, none⟩ = some (.slice (some ⟨g8, 0, none⟩) (n8 + 1) c8) /\ W.cell? ⟨g8, n8 * 9 + 1, none⟩ = some (.int .i64 R8.top.at_) /\ W.frozen? ⟨g8, n8 * 9 + 1, none⟩ = false) #[false, false, false, false, false, false, false, false, false, false, false, false, false, true] (by kernel_rfl) ⟨z3, z1, z1f⟩ (fun hHeld => ?_);refine wpAnyL_tk 0 ?_;refine wpAnyL_tk 1 ?_;refine wpAnyL_tk 2 ?_;refine wpAnyL_tk 3 ?_;refine wpAnyL_tk 4 ?_;refine wpAnyL_tk 5 ?_;refine wpAnyL_tk 6 ?_;refine wpAnyL_tk 7 ?_;refine wpAnyL_tk 8 ?_;refine wpAnyL_tk 9 ?_;refine wpAnyL_tk 10 ?_;refine wpAnyL_tk 11 ?_;refine wpAnyL_tk 12 ?_;refine wpAnyL_ls 13 (fun K hK => ?_);go_simp;refine hK.out _ _ ?_;clear hK K;refine lay ?_;refine wpAnyL_done (by kernel_rfl) ?_ _;go_wp2_with fail;go_end0
 have hfinal : R.step X.gs = R8.goOn x.next := by
  rw [Hop2.out];unfold stepN;dsimp only;rw [if_neg (by rw [Hop.out]; omega)]; rw [if_neg (by rw [Hop.out]; omega)]; rw [if_neg (by rw [Hop.out]; omega)]; rw [if_neg (by rw [Hop.out]; omega)]; rw [if_neg (by rw [Hop.out]; omega)]; rw [if_pos Hop.out]; rw [<- HR8.out, Hkc.out, Hlen.out]; congr 2; push_cast; omega
 first
  | exact ⟨rfl, by rw [hfinal]; exact H9.out, Hb9.out⟩
  | exact ⟨rfl, by rw [hfinal]; exact H9.out.drew, Hb9.out.drew⟩
end
end Go.Proofs.Ytncpehhfjkncoaa
namespace Go.Proofs.Ytncpehhfjkncoaa
open Go.RowKit

/-- what a word names, in one form -/
theorem point_any {w : World} {base : Nat} {X : RunX} {R : RunD} {rest : List It} (h : RunAt w base X R rest) (hn : R.row.length <= 1000000) {p : Int} (hp : U64 p) :
  Calls Try.prog 29 #[.pointer (some ⟨X.rp, 0, none⟩), .int .u64 p] w fun e w' => w = w' /\
   match R.point p with
   | none => e = .returned (.tuple #[.int .i64 (-1), .int .i64 0])
   | some (i, c) => ∃ F : Nat, i = R.row.length - 1 - F /\ F < R.row.length /\ c < (R.row.getD i frZ).cells.length /\ e = .returned (.tuple #[.int .i64 (F : Nat), .int .i64 (c : Nat)]) := by
 unfold RunD.point
 by_cases hr : p < 4611686018427387904 ∨ 4611967493404098560 <= p
 ·rw [if_pos hr];refine (point_out h hr).mono ?_;rintro e w' ⟨rfl, rfl⟩;exact ⟨rfl, rfl⟩
 ·rw [if_neg hr];dsimp only;obtain ⟨F, hF⟩ := mn (((p - 4611686018427387904) / 65536).toNat);obtain ⟨C, hC⟩ := mn ((p % 65536).toNat);rw [hF, hC]
  have hp2 : p = 4611686018427387904 + 65536 * F + C := by omega
  have hC2 : C < 65536 := by omega
  have hF2 : F < 4294967296 := by omega
  by_cases h1 : R.row.length <= F
  ·rw [if_pos h1];refine (point_in h (by omega) F C hp2 hC2 hF2 false ⟨nofun, fun h2 => by omega⟩).mono ?_;rintro e w' ⟨rfl, rfl⟩;exact ⟨rfl, rfl⟩
  ·rw [if_neg h1]
   by_cases h2 : (R.row.getD (R.row.length - 1 - F) frZ).cells.length <= C
   ·rw [if_pos h2];refine (point_in h (by omega) F C hp2 hC2 hF2 false ⟨nofun, fun h3 => by omega⟩).mono ?_;rintro e w' ⟨rfl, rfl⟩;exact ⟨rfl, rfl⟩
   ·rw [if_neg h2];refine (point_in h (by omega) F C hp2 hC2 hF2 true ⟨fun _ => ⟨by omega, by omega⟩, fun _ => rfl⟩).mono ?_;rintro e w' ⟨rfl, rfl⟩;exact ⟨rfl, F, rfl, by omega, by omega, rfl⟩
end Go.Proofs.Ytncpehhfjkncoaa
