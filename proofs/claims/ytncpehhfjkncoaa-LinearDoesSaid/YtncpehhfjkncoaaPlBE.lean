/- Walk of one node of the document's run: operation 12. Conditions: the run lies in memory, it is right. What is told, in memory; the kinds of things a node appends. Conditions: the run lies in memory. A node's numbers once more: what lay there before lies there still. Conditions: the run lies in memory, the places are there. What a node that defers asks besides. Conditions: the run lies in memory. -/
import Derived.Test.YtncpehhfjkncoaaPlAA
import Derived.Test.YtncpehhfjkncoaaPlAX
import Derived.Test.YtncpehhfjkncoaaPlAG
set_option linter.unusedVariables false
set_option linter.unusedSimpArgs false
set_option maxRecDepth 100000
set_option maxHeartbeats 16000000
namespace Go.Proofs.Ytncpehhfjkncoaa
open Go.RowKit

section
variable {w : World} {base N f i : Nat} {X : RunX} {R : RunD} {rest : List It} {g : GraphD} {x : NodeD}
theorem qstep_12 (hp : StepPre w base X R rest N f i g x) (hop : x.op = 12) :
  Calls Try.prog 15 #[.pointer (some ⟨X.rp, 0, none⟩)] w fun e w' => RunGot base X rest w (.tuple #[]) (R.step X.gs) e w' := by
 have hx0 := hp.st;have hgs0 := hp.h.gs;obtain ⟨hg, h, ok, sz, hN, hst, hgm, hxm, hend, hsteps, hnd⟩ := hp
 have hop2 : R.step X.gs = stepN X.gs { R with steps := R.steps + 1 } x := by rw [step_eq, hst.node]
 obtain ⟨V, hV⟩ := h.run;obtain ⟨GA, gc, hgv, _, _⟩ := h.gs.slice;have hgs := h.gs;rw [hgv] at hgs;obtain ⟨ad, pv, kv, iv, nv, hAd, hfl, hM⟩ := GraphsAt.at_ hgs hst.gr;subst hAd;obtain ⟨NA, nn, nc, css, hne, hrest⟩ := hM.nodes
 have hNo : RowsAt 12 NodeAt w X.B (.slice NA nn nc) g.nodes := ⟨NA, nn, nc, css, rfl, hrest⟩
 subst hne;obtain ⟨nad, av, hNA, hin, hC⟩ := node_at hNo hst.nd;subst hNA;have hb := hV.blk;obtain ⟨F, hF⟩ := mn (X.gs.length);have b9 : w.cell? ⟨X.rp, 9, none⟩ = some (.int .i64 R.steps) := hb.cell 9;have b9f := hb.frozen 9;rw [hF] at hfl;obtain ⟨AA, ac, hae, _⟩ := hC.args.slice;obtain ⟨m, hm⟩ := mn (x.args.length);rw [hm] at hae
 have hfi : (f : Int) < F := by omega
 have hii : (i : Int) < nn := by omega
 obtain ⟨st, hste⟩ := mn (R.steps);rw [hste] at b9
 have hsw : IntKind.i64.wrap (st + 1) = st + 1 := by rw [IntKind.wrap_i64]; omega
 obtain ⟨R1, hR1⟩ := nm ({ R with steps := R.steps + 1 } : RunD);have hV1 := hV.setF (R' := R1) 9 (.int .i64 (st + 1)) (by rw [hR1, hste]; rfl) (by rw [hR1]; exact ⟨rfl, rfl, rfl, rfl, rfl⟩);have hb1 := (Below.refl base w).setCell (p := ⟨X.rp, 9, none⟩) hV.size_.1 (.int .i64 (st + 1));rw [<- hR1] at hop2
 have hgA : gAt X.gs R.top.f = g := by
  unfold gAt;rw [hst.fr, Int.toNat_natCast, List.getD_eq_getElem?_getD, hst.gr]; rfl
 have htop := ok.top hst.ne
 have hkl : R1.top.places.length = g.kinds.length := by rw [hR1, <- hgA]; exact htop.places.1
 have hcl : R1.top.cells.length = g.cells.toNat := by rw [hR1, <- hgA]; exact htop.cells.1
 have hst1 : Stand X.gs R1 f i g x := by rw [hR1]; exact ⟨hst.ne, hst.fr, hst.gr, hst.an, hst.nd⟩
 have ok1 : RunOk X.gs 0 R1 := by rw [hR1]; exact ⟨ok.regs, ok.row, ok.calls, ok.list, ok.tape, ok.events⟩
 have sz1 : Sz N R1 := by rw [hR1]; exact ⟨sz.row, sz.list, sz.waits⟩
 have hend1 : R1.endK = 0 := by rw [hR1]; exact hend
 obtain ⟨H, HV, Hgv, Hgs, HM, HNo, HC, Hb⟩ := hd8 h hV hgv hgs hM hNo hC hb;obtain ⟨HF, Hae, Hm, Hst, Hgs0, HR1, Hop2, HV1⟩ := hd8 hF hae hm hst hgs0 hR1 hop2 hV1;obtain ⟨Hb1, Hst1, Hok1, Hsz1, Hend1, Hnd, Hx0, Hend⟩ := hd8 hb1 hst1 ok1 sz1 hend1 hnd hx0 hend;obtain ⟨Hste, Hok0, Hsz, HgA, Hkl, Hcl, Htop⟩ := hd7 hste ok sz hgA hkl hcl htop;clear htop hcl hkl hgA sz ok hste hend hx0 hnd hend1 sz1 ok1 hst1 hb1 hV1 hop2 hR1 hgs0 hst hm hae hF hb hC hNo hM hgs hgv hV h;go_enter Try.func15, Try.ntmps15;go_upto_region 1 with fail;obtain ⟨w1, hw1⟩ := nm (w.setCell ⟨X.rp, 9, none⟩ (.int .i64 (st + 1)));have hV1 := HV1.out;have hb1 := Hb1.out;rw [<- hw1] at hV1 hb1 ⊢;clear b9 b9f HV1 Hb1;obtain ⟨gr, c, n, vv, s, hv, hT⟩ := hV1.top Hst1.out.ne;have hlen := hT.len;have hrow1 := Hsz1.out.row
 have b3 : w1.cell? ⟨X.rp, 3, none⟩ = some (.slice (some ⟨gr, 0, none⟩) (n + 1) c) := by
  have := hV1.blk.cell 3;rw [this, <- hT.rv]; rfl
 have hn1 : IntKind.i64.wrap (n : Int) = n := by rw [IntKind.wrap_i64]; omega
 have hn2 : (n : Int) < n + 1 := by omega
 obtain ⟨HV1, Hb1, Hw1, HT, Hlen⟩ := hd5 hV1 hb1 hw1 hT hlen;clear hlen hT hw1 hb1 hV1
 go_quiet (fail)
 have hVq := HV1.out.drewN nq;have hbq := below_drewN Hb1.out nq;obtain ⟨wq, hwq⟩ := nm (w1.drewN nq);rw [<- hwq] at hVq hbq ⊢;clear b3;have hTq := hVq.topAt Hst1.out.ne hv HT.out.rv;have hgsq := Hgs.out.below (hbq.mono H.out.le);have hNoq := Hgs.out
 have hCq : NodeC wq X.B (nad.add (i * 12)) x av := HC.out.keep fun p hp => (hbq.mono H.out.le).cell hp
 obtain ⟨GB, hGB⟩ := mn (wq.heap.size)
 have hBq : X.B <= GB := by have := H.out.le; have := hVq.size_.2; omega
 have hadl : (ad.add (f * 8)).block < GB := by have := HM.out.lt; omega
 have hnal : (nad.add (i * 12)).block < GB := by have := HC.out.lt; omega
 have b0 : wq.cell? ⟨X.rp, 0, none⟩ = some (.slice (some ad) F gc) := by
  have := hVq.blk.cell 0;rw [this, <- HF.out, <- Hgv.out]; rfl
 have c6 : wq.cell? ⟨(ad.add (f * 8)).block, (ad.add (f * 8)).off + 6, none⟩ = some (.slice (some nad) nn nc) := ((hbq.mono H.out.le).cell (p := ⟨(ad.add (f * 8)).block, _, none⟩) HM.out.lt).trans HM.out.c6
 have f0 : wq.cell? ⟨gr, n * 9, none⟩ = some (.int .i64 (f : Nat)) := by rw [hTq.f0, Hst1.out.fr]
 have f1 : wq.cell? ⟨gr, n * 9 + 1, none⟩ = some (.int .i64 (i : Nat)) := by rw [hTq.f1, Hst1.out.an]
 have a0 := hCq.c0;rw [hop] at a0;have a9 := hCq.c9;rw [Hae.out] at a9
 have hrpl : X.rp < GB := by rw [<- hGB]; exact hVq.blk.lt
 have hgrl : gr < GB := by rw [<- hGB]; exact hTq.lt
 have hS : ∀ W : World, (∀ p : Addr, p.block < GB -> W.cell? p = wq.cell? p) -> W.cell? ⟨X.rp, 0, none⟩ = some (.slice (some ad) F gc) /\ W.cell? ⟨gr, n * 9, none⟩ = some (.int .i64 (f : Nat)) /\ W.cell? ⟨gr, n * 9 + 1, none⟩ = some (.int .i64 (i : Nat)) /\ W.cell? ⟨(ad.add (f * 8)).block, (ad.add (f * 8)).off + 6, none⟩ = some (.slice (some nad) nn nc) /\ W.cell? (nad.add (i * 12)) = some (.int .u8 12) /\ W.cell? ⟨(nad.add (i * 12)).block, (nad.add (i * 12)).off + 1, none⟩ = some (.int .u8 x.byo) /\ W.cell? ⟨(nad.add (i * 12)).block, (nad.add (i * 12)).off + 2, none⟩ = some (.int .i64 x.d) /\ W.cell? ⟨(nad.add (i * 12)).block, (nad.add (i * 12)).off + 3, none⟩ = some (.int .i64 x.e) /\ W.cell? ⟨(nad.add (i * 12)).block, (nad.add (i * 12)).off + 4, none⟩ = some (.int .i64 x.a) /\ W.cell? ⟨(nad.add (i * 12)).block, (nad.add (i * 12)).off + 5, none⟩ = some (.int .i64 x.b) /\ W.cell? ⟨(nad.add (i * 12)).block, (nad.add (i * 12)).off + 6, none⟩ = some (.int .i64 x.f) /\ W.cell? ⟨(nad.add (i * 12)).block, (nad.add (i * 12)).off + 7, none⟩ = some (.int .i64 x.cell) /\ W.cell? ⟨(nad.add (i * 12)).block, (nad.add (i * 12)).off + 8, none⟩ = some (.int .u64 x.imm) /\ W.cell? ⟨(nad.add (i * 12)).block, (nad.add (i * 12)).off + 9, none⟩ = some (.slice AA m ac) /\ W.cell? ⟨(nad.add (i * 12)).block, (nad.add (i * 12)).off + 10, none⟩ = some (.int .i64 x.next) /\ W.cell? ⟨(nad.add (i * 12)).block, (nad.add (i * 12)).off + 11, none⟩ = some (.int .i64 x.els) := fun W hW => by
  have gn : ∀ j, W.cell? ⟨(nad.add (i * 12)).block, (nad.add (i * 12)).off + j, none⟩ = wq.cell? ⟨(nad.add (i * 12)).block, (nad.add (i * 12)).off + j, none⟩ := fun j => hW _ hnal
  exact ⟨(hW _ hrpl).trans b0, (hW _ hgrl).trans f0, (hW _ hgrl).trans f1, (hW ⟨(ad.add (f * 8)).block, _, none⟩ hadl).trans c6, (hW _ hnal).trans a0, (gn 1).trans hCq.c1, (gn 2).trans hCq.c2, (gn 3).trans hCq.c3, (gn 4).trans hCq.c4, (gn 5).trans hCq.c5, (gn 6).trans hCq.c6, (gn 7).trans hCq.c7, (gn 8).trans hCq.c8, (gn 9).trans a9, (gn 10).trans hCq.c10, (gn 11).trans hCq.c11⟩
 have hSq := hS wq fun _ _ => rfl
 clear b0 c6 f0 f1 a0 a9;obtain ⟨Hwq, HVq, Hbq, HTq, HCq, HS, Hgsq, HNoq⟩ := hd8 hwq hVq hbq hTq hCq hS hgsq hNoq;have Hop := Lib.hid hop;clear hop hNoq hgsq hS hCq hTq hbq hVq hwq;go_upto_region 2 with fail
 refine wp_region_late (S := fun W => W.cell? ⟨X.rp, 0, none⟩ = some (.slice (some ad) F gc) /\ W.cell? ⟨gr, n * 9, none⟩ = some (.int .i64 (f : Nat)) /\ W.cell? ⟨gr, n * 9 + 1, none⟩ = some (.int .i64 (i : Nat)) /\ W.cell? ⟨(ad.add (f * 8)).block, (ad.add (f * 8)).off + 6, none⟩ = some (.slice (some nad) nn nc) /\ W.cell? (nad.add (i * 12)) = some (.int .u8 12) /\ W.cell? ⟨(nad.add (i * 12)).block, (nad.add (i * 12)).off + 1, none⟩ = some (.int .u8 x.byo) /\ W.cell? ⟨(nad.add (i * 12)).block, (nad.add (i * 12)).off + 2, none⟩ = some (.int .i64 x.d) /\ W.cell? ⟨(nad.add (i * 12)).block, (nad.add (i * 12)).off + 3, none⟩ = some (.int .i64 x.e) /\ W.cell? ⟨(nad.add (i * 12)).block, (nad.add (i * 12)).off + 4, none⟩ = some (.int .i64 x.a) /\ W.cell? ⟨(nad.add (i * 12)).block, (nad.add (i * 12)).off + 5, none⟩ = some (.int .i64 x.b) /\ W.cell? ⟨(nad.add (i * 12)).block, (nad.add (i * 12)).off + 6, none⟩ = some (.int .i64 x.f) /\ W.cell? ⟨(nad.add (i * 12)).block, (nad.add (i * 12)).off + 7, none⟩ = some (.int .i64 x.cell) /\ W.cell? ⟨(nad.add (i * 12)).block, (nad.add (i * 12)).off + 8, none⟩ = some (.int .u64 x.imm) /\ W.cell? ⟨(nad.add (i * 12)).block, (nad.add (i * 12)).off + 9, none⟩ = some (.slice AA m ac) /\ W.cell? ⟨(nad.add (i * 12)).block, (nad.add (i * 12)).off + 10, none⟩ = some (.int .i64 x.next) /\ W.cell? ⟨(nad.add (i * 12)).block, (nad.add (i * 12)).off + 11, none⟩ = some (.int .i64 x.els))
  #[false, false, false, false, false, false, false, false, false, false, false, false, false, false, false, false, false, false, false, true] (by kernel_rfl) hSq (fun hHeld => ?_)
 refine wpAnyL_tk 0 ?_;refine wpAnyL_tk 1 ?_;refine wpAnyL_tk 2 ?_;refine wpAnyL_tk 3 ?_;refine wpAnyL_tk 4 ?_;refine wpAnyL_tk 5 ?_;refine wpAnyL_tk 6 ?_;refine wpAnyL_tk 7 ?_;refine wpAnyL_tk 8 ?_;refine wpAnyL_tk 9 ?_;refine wpAnyL_tk 10 ?_;refine wpAnyL_tk 11 ?_;refine wpAnyL_tk 12 ?_;refine wpAnyL_tk 13 ?_;refine wpAnyL_tk 14 ?_;refine wpAnyL_tk 15 ?_;refine wpAnyL_tk 16 ?_;refine wpAnyL_tk 17 ?_;refine wpAnyL_rd 18 (fun K hK => ?_);go_simp;refine hK.out _ _ (HS.out _ fun p hp => World.cell?_alloc_lt _ _ p (by rw [hGB]; exact hp)) (fun hHeld2 => ?_);clear hK K hHeld;refine lay ?_;refine wpAnyL_ls 19 (fun K hK => ?_);go_simp;refine hK.out _ _ ?_;clear hK K;refine lay ?_;refine wpAnyL_done (by kernel_rfl) ?_ _;have hV2 := (HVq.out.box 52 #[.int .u8 12, .int .u8 x.byo, .int .i64 x.d, .int .i64 x.e, .int .i64 x.a, .int .i64 x.b, .int .i64 x.f, .int .i64 x.cell, .int .u64 x.imm, .slice AA m ac, .int .i64 x.next, .int .i64 x.els]).drew;have hb2 := (Hbq.out.alloc HVq.out.size_.2 (.cells #[.int .u8 12, .int .u8 x.byo, .int .i64 x.d, .int .i64 x.e, .int .i64 x.a, .int .i64 x.b, .int .i64 x.f, .int .i64 x.cell, .int .u64 x.imm, .slice AA m ac, .int .i64 x.next, .int .i64 x.els] 52)).drew;obtain ⟨W2, hW2⟩ := nm ((wq.alloc (.cells #[.int .u8 12, .int .u8 x.byo, .int .i64 x.d, .int .i64 x.e, .int .i64 x.a, .int .i64 x.b, .int .i64 x.f, .int .i64 x.cell, .int .u64 x.imm, .slice AA m ac, .int .i64 x.next, .int .i64 x.els] 52)).drew);rw [<- hW2] at hV2 hb2 ⊢;rw [hGB] at hV2;obtain ⟨rest1, hrest1⟩ := nm (It.blk GB 52 #[.int .u8 12, .int .u8 x.byo, .int .i64 x.d, .int .i64 x.e, .int .i64 x.a, .int .i64 x.b, .int .i64 x.f, .int .i64 x.cell, .int .u64 x.imm, .slice AA m ac, .int .i64 x.next, .int .i64 x.els] :: rest);rw [<- hrest1] at hV2
 have h2 : RunAt W2 base X R1 rest1 := ⟨H.out.le, H.out.gs.below (hb2.mono H.out.le), _, hV2⟩
 have hGm : It.blk GB 52 #[.int .u8 12, .int .u8 x.byo, .int .i64 x.d, .int .i64 x.e, .int .i64 x.a, .int .i64 x.b, .int .i64 x.f, .int .i64 x.cell, .int .u64 x.imm, .slice AA m ac, .int .i64 x.next, .int .i64 x.els] ∈ rest1 := by rw [hrest1]; exact List.mem_cons_self
 have hrd : ∀ (W : World) (Q : RunD), RunAt W base X Q rest1 -> RunAt W base X Q rest := fun W Q hQ => by
  rw [hrest1] at hQ;exact hQ.drop
 have hNB2 : Blk W2 GB 52 #[.int .u8 12, .int .u8 x.byo, .int .i64 x.d, .int .i64 x.e, .int .i64 x.a, .int .i64 x.b, .int .i64 x.f, .int .i64 x.cell, .int .u64 x.imm, .slice AA m ac, .int .i64 x.next, .int .i64 x.els] := (h2.mem hGm).2;have hT2 := hV2.topAt Hst1.out.ne hv HT.out.rv;have k0 := bc hNB2 0;have k4 := bc hNB2 4;have k10 := bc hNB2 10;clear hHeld2 hSq;obtain ⟨HV2, Hb2, HW2, Hrest1, H2, HGm, Hrd, HNB2⟩ := hd8 hV2 hb2 hW2 hrest1 h2 hGm hrd hNB2;have HT2 := Lib.hid hT2;clear hT2 hNB2 hrd hGm h2 hrest1 hW2 hb2 hV2
 by_cases ha0 : 0 <= x.a
 ·have har : x.a < (g.kinds.length : Int) := by
   rcases Hnd.out.ret (by rw [Hop.out]) with h1 | h1
   ·omega
   ·exact h1.2.2
  have hget := get_any H2.out Hst1.out.ne (p := x.a) ha0 (.inr (by rw [Hkl.out]; exact har)) (by have := Hsz1.out.row; omega);obtain ⟨gv, hgv2⟩ := mn (R1.get x.a)
  have hgu : U64 gv := by rw [<- hgv2]; exact Hok1.out.get x.a
  rw [hgv2] at hget;obtain ⟨Hget, Hgu⟩ := hd2 hget hgu;clear hgu hget;go_wp2_with fail;refine Hget.out.mono ?_;rintro e w3 ⟨rfl, q3, hw3⟩
  have hV3 : RunIn w3 base X R1 V rest1 := by rw [hw3]; exact HV2.out.drewN q3
  have hb3 : Below base w w3 := by rw [hw3]; exact below_drewN Hb2.out q3
  have hT3 := hV3.topAt Hst1.out.ne hv HT.out.rv;have f7 := hT3.f7;have f7f := hT3.fz (n * 9 + 7)
  have hav : vv.av.length = R1.top.waits.length := by obtain ⟨_, v2, _, _, e, _, e2⟩ := hV3.top_eq Hst1.out.ne; rw [hv] at e; injection e with e _; rw [e]; exact e2
  have hV4 := hV3.setFr hT3 hv (x' := { R1.top with ret := gv }) (v' := vv) (j := 7) (u := .int .u64 gv) (by omega) rfl rfl hav;have hb4 := hb3.setCell (p := ⟨gr, n * 9 + 7, none⟩) hT3.le (.int .u64 gv);obtain ⟨w4, hw4⟩ := nm (w3.setCell ⟨gr, n * 9 + 7, none⟩ (.int .u64 gv));rw [<- hw4] at hV4 hb4;have hT4 := hV4.topAt (setTop_row _).1 rfl HT.out.rv;have f6 := hT4.f6;have f6f := hT4.fz (n * 9 + 6);have hV5 := hV4.setFr hT4 rfl (x' := { R1.top with ret := gv, ends := true }) (v' := vv) (j := 6) (u := .bool true) (by omega) rfl rfl hav;have hb5 := hb4.setCell (p := ⟨gr, n * 9 + 6, none⟩) hT4.le (.bool true);obtain ⟨w5, hw5⟩ := nm (w4.setCell ⟨gr, n * 9 + 6, none⟩ (.bool true));rw [<- hw5] at hV5 hb5
  have h5 : RunAt w5 base X (R1.setTop { R1.top with ret := gv, ends := true }) rest1 := ⟨H.out.le, H.out.gs.below (hb5.mono H.out.le), _, hV5⟩
  obtain ⟨R5, hR5⟩ := mn (R1.setTop { R1.top with ret := gv, ends := true });rw [hR5] at h5
  have hR5l : R5.row.length = R1.row.length := by
   rw [<- hR5];show R1.row.tail.length + 1 = _;rw [List.length_tail];have := List.length_pos_iff.mpr Hst1.out.ne
   omega
  have hst5 := settle_any hg h5 (by rw [<- hR5]; exact Hok1.out.setTop Hst1.out.ne { Hok1.out.top Hst1.out.ne with ret := Hgu.out } rfl) (by rw [<- hR5]; exact (setTop_row _).1) (by rw [<- hR5]; exact setTop_sz Hsz1.out Hst1.out.ne (Nat.le_refl _)) (by omega) (by rw [<- hR5]; exact Hend1.out)
  have hfinal : R.step X.gs = R5.settle X.gs R5.row.length := by
   rw [Hop2.out];unfold stepN;dsimp only;rw [if_neg (by rw [Hop.out]; omega)]; rw [if_neg (by rw [Hop.out]; omega)]; rw [if_neg (by rw [Hop.out]; omega)]; rw [if_neg (by rw [Hop.out]; omega)]; rw [if_neg (by rw [Hop.out]; omega)]; rw [if_neg (by rw [Hop.out]; omega)]; rw [if_neg (by rw [Hop.out]; omega)]; rw [if_neg (by rw [Hop.out]; omega)]; rw [if_neg (by rw [Hop.out]; omega)]; rw [if_neg (by rw [Hop.out]; omega)]; rw [if_neg (by rw [Hop.out]; omega)]; rw [if_pos Hop.out];rw [if_pos ha0, hgv2, hR5, hR5l]
  rw [<- hfinal] at hst5;clear hw3 k0 k4 k10;obtain ⟨HV3, Hb3, HT3, Hav, HV4, Hb4, HT4, HV5⟩ := hd8 hV3 hb3 hT3 hav hV4 hb4 hT4 hV5;obtain ⟨Hb5, H5, HR5, HR5l, Hst5, Hfinal, Hgv2⟩ := hd7 hb5 h5 hR5 hR5l hst5 hfinal hgv2;clear hgv2 hfinal hst5 hR5l hR5 h5 hb5 hV5 hT4 hb4 hV4 hav hT3 hb3 hV3;go_upto_region 39 with fail;rw [<- hw4];have Hw4 := Lib.hid hw4;clear hw4;clear f7 f7f;go_upto_region 40 with fail;rw [<- hw5];have Hw5 := Lib.hid hw5;clear hw5;clear f6 f6f;go_wp2_with fail;refine Hst5.out.mono ?_;rintro e w6 ⟨rfl, h6, hb6⟩;have h7 := Hrd.out _ _ h6;have hb7 := Hb5.out.trans hb6;obtain ⟨H6, Hb6, H7, Hb7⟩ := hd4 h6 hb6 h7 hb7;clear hb7 h7 hb6 h6;go_wp2_with fail;go_end0;exact ⟨rfl, H7.out, Hb7.out⟩
 ·have hT3 := HV2.out.topAt Hst1.out.ne hv HT.out.rv;have f6 := hT3.f6;have f6f := hT3.fz (n * 9 + 6)
  have hav : vv.av.length = R1.top.waits.length := by obtain ⟨_, v2, _, _, e, _, e2⟩ := HV2.out.top_eq Hst1.out.ne; rw [hv] at e; injection e with e _; rw [e]; exact e2
  have hV5 := HV2.out.setFr hT3 hv (x' := { R1.top with ends := true }) (v' := vv) (j := 6) (u := .bool true) (by omega) rfl rfl hav;have hb5 := Hb2.out.setCell (p := ⟨gr, n * 9 + 6, none⟩) hT3.le (.bool true);obtain ⟨w5, hw5⟩ := nm (W2.setCell ⟨gr, n * 9 + 6, none⟩ (.bool true));rw [<- hw5] at hV5 hb5
  have h5 : RunAt w5 base X (R1.setTop { R1.top with ends := true }) rest1 := ⟨H.out.le, H.out.gs.below (hb5.mono H.out.le), _, hV5⟩
  obtain ⟨R5, hR5⟩ := mn (R1.setTop { R1.top with ends := true });rw [hR5] at h5
  have hR5l : R5.row.length = R1.row.length := by
   rw [<- hR5];show R1.row.tail.length + 1 = _;rw [List.length_tail];have := List.length_pos_iff.mpr Hst1.out.ne
   omega
  have hst5 := settle_any hg h5 (by rw [<- hR5]; exact Hok1.out.setTop Hst1.out.ne { Hok1.out.top Hst1.out.ne with } rfl) (by rw [<- hR5]; exact (setTop_row _).1) (by rw [<- hR5]; exact setTop_sz Hsz1.out Hst1.out.ne (Nat.le_refl _)) (by omega) (by rw [<- hR5]; exact Hend1.out)
  have hfinal : R.step X.gs = R5.settle X.gs R5.row.length := by
   rw [Hop2.out];unfold stepN;dsimp only;rw [if_neg (by rw [Hop.out]; omega)]; rw [if_neg (by rw [Hop.out]; omega)]; rw [if_neg (by rw [Hop.out]; omega)]; rw [if_neg (by rw [Hop.out]; omega)]; rw [if_neg (by rw [Hop.out]; omega)]; rw [if_neg (by rw [Hop.out]; omega)]; rw [if_neg (by rw [Hop.out]; omega)]; rw [if_neg (by rw [Hop.out]; omega)]; rw [if_neg (by rw [Hop.out]; omega)]; rw [if_neg (by rw [Hop.out]; omega)]; rw [if_neg (by rw [Hop.out]; omega)]; rw [if_pos Hop.out];rw [if_neg ha0, hR5, hR5l]
  rw [<- hfinal] at hst5;obtain ⟨HT3, Hav, HV5, Hb5, H5, HR5, HR5l, Hst5⟩ := hd8 hT3 hav hV5 hb5 h5 hR5 hR5l hst5;have Hfinal := Lib.hid hfinal;clear hfinal hst5 hR5l hR5 h5 hb5 hV5 hav hT3;go_upto_region 40 with fail;rw [<- hw5];have Hw5 := Lib.hid hw5;clear hw5;clear f6 f6f k0 k4 k10;go_wp2_with fail;refine Hst5.out.mono ?_;rintro e w6 ⟨rfl, h6, hb6⟩;have h7 := Hrd.out _ _ h6;have hb7 := Hb5.out.trans hb6;obtain ⟨H6, Hb6, H7, Hb7⟩ := hd4 h6 hb6 h7 hb7;clear hb7 h7 hb6 h6;go_wp2_with fail;go_end0;exact ⟨rfl, H7.out, Hb7.out⟩
end
end Go.Proofs.Ytncpehhfjkncoaa
namespace Go.Proofs.Ytncpehhfjkncoaa
open Go.RowKit

theorem infoEvent : (Try.prog.info? 62).map (fun i => (i.zero, i.size, i.bytes)) = some (some (.agg #[.int .i64 0, .int .u64 0]), 2, 16) := by kernel_rfl
theorem infoDefd : (Try.prog.info? 93).map (fun i => (i.zero, i.size, i.bytes)) = some (some (.agg #[.int .i64 0, .slice none 0 0]), 2, 32) := by kernel_rfl
section
variable {w : World} {base : Nat} {X : RunX} {R : RunD} {V : RunV} {rest : List It}
theorem RunIn.any_ne (h : RunIn w base X R V rest) (j : Nat) {v : Value} {e : TypeId} {size n : Nat} {xs : List Value} (hj : (runIts X V R ++ rest)[j]? = some (.row v e size n xs)) (hj0 : 0 < j) (hl : j < (runIts X V R).length) : some X.rp ≠ v.ownBlock /\ ∀ x ∈ rest, ∀ b, x.block = some b -> some b ≠ v.ownBlock := by
 refine ⟨h.its.ne_row (i := 0) (j := j) rfl hj (by omega), fun x hx b hb e => ?_⟩;obtain ⟨k, hk⟩ := List.getElem?_of_mem hx
 have h2 : (runIts X V R ++ rest)[(runIts X V R).length + k]? = some x := by rw [List.getElem?_append_right (by omega), Nat.add_sub_cancel_left]; exact hk
 exact h.its.apart ((runIts X V R).length + k) j x _ (by omega) h2 hj b hb e.symm
theorem RunIn.ev_ne (h : RunIn w base X R V rest) : some X.rp ≠ V.ev.ownBlock /\ ∀ x ∈ rest, ∀ b, x.block = some b -> some b ≠ V.ev.ownBlock := h.any_ne 5 rfl (by omega) (by unfold runIts; simp only [List.length_cons]; omega)
theorem ev_app (l : List (Int × Int)) (p : Int × Int) : evCells (l ++ [p]) = evCells l ++ [.int .i64 p.1, .int .u64 p.2] := by
 unfold evCells;rw [List.flatMap_append]; rfl
end
end Go.Proofs.Ytncpehhfjkncoaa
namespace Go.Proofs.Ytncpehhfjkncoaa
open Go.RowKit

section
variable {w : World} {base : Nat} {X : RunX} {R : RunD} {rest : List It}
theorem RunAt.below {w' : World} (h : RunAt w base X R rest) (hb : Below w.heap.size w w') : RunAt w' base X R rest := by
 obtain ⟨V, hV⟩ := h.run;exact ⟨h.le, h.gs.below (hb.mono (by have := h.le; have := h.size; omega)), V, hV.below hb⟩
theorem qargs2_any (h : RunAt w base X R rest) (hne : R.row ≠ []) (hn : R.row.length <= 1048576) {x : NodeD} {av : Value} (hav : NumsAt .i64 w X.B av x.args) (hp : ∀ p ∈ x.args, 0 <= p /\ (p < 16 ∨ p < R.top.places.length)) (hl : x.args.length <= 1024) :
  Calls Try.prog 30 #[.pointer (some ⟨X.rp, 0, none⟩), .agg (ncells x av).toArray] w fun e w' => ∃ v, e = .returned v /\ w'.ownsRow w.heap.size 34 1 v (R.args x).length (u64s (R.args x)) /\ Below w.heap.size w w' := by
 obtain ⟨op, byo, d, e_, a, b, f, cell, imm, args, next, els⟩ := x;simp only at hav hp hl;obtain ⟨iU, hiU, uz0, uz1, uz2⟩ := info_parts infoU64;obtain ⟨NA, nc, rfl, _, _, hAr⟩ := hav.slice;obtain ⟨m, hm⟩ := mn (args.length);obtain ⟨l, hL⟩ := mn (args.map R.get);have hRL : R.args ⟨op, byo, d, e_, a, b, f, cell, imm, args, next, els⟩ = l := hL
 have hll : l.length = m := by rw [<- hL, List.length_map, hm]
 rw [hRL, hll];simp only [ncells, hm];rw [hm] at hl;have h1 := h.box 52 #[.int .u8 op, .int .u8 byo, .int .i64 d, .int .i64 e_, .int .i64 a, .int .i64 b, .int .i64 f, .int .i64 cell, .int .u64 imm, .slice NA m nc, .int .i64 next, .int .i64 els];have hb1 := (Below.refl w.heap.size w).alloc (Nat.le_refl _) (.cells #[.int .u8 op, .int .u8 byo, .int .i64 d, .int .i64 e_, .int .i64 a, .int .i64 b, .int .i64 f, .int .i64 cell, .int .u64 imm, .slice NA m nc, .int .i64 next, .int .i64 els] 52);obtain ⟨H, Hav, HAr, Hm, HL, HRL, Hll, H1⟩ := hd8 h hav hAr hm hL hRL hll h1;obtain ⟨Hb1, Hp⟩ := hd2 hb1 hp;clear hp hb1 h1 hll hRL hL hm hAr hav h;go_enter Try.func30, Try.ntmps30;go_upto_region 1 with fail;obtain ⟨w1, hw1⟩ := nm (w.alloc (.cells #[.int .u8 op, .int .u8 byo, .int .i64 d, .int .i64 e_, .int .i64 a, .int .i64 b, .int .i64 f, .int .i64 cell, .int .u64 imm, .slice NA m nc, .int .i64 next, .int .i64 els] 52));obtain ⟨G, hG⟩ := mn (w.heap.size);have h1 := H1.out;have hb1 := Hb1.out;rw [<- hw1] at h1 hb1 ⊢;rw [hG] at h1 ⊢;clear H1 Hb1;have hNB : Blk w1 G 52 _ := (RunAt.first h1).2;have k9 := bc hNB 9;have h2 := World.ownsRow_nil w1 w.heap.size 34 1;obtain ⟨H1, Hb1, HNB, Hw1, H2⟩ := hd5 h1 hb1 hNB hw1 h2;clear h2 hw1 hNB hb1 h1;go_upto_region 3 with fail;clear k9
 go_loopg [5, 11] m (fun gk ov iv wr => ∃ k : Nat, k + gk = m /\ iv = .int .i64 k /\ (∃ OA oc, ov = .slice OA k oc) /\ Hid (wr.ownsRow w.heap.size 34 1 ov k (u64s (l.take k))) /\ Hid (Below w.heap.size w wr))
 case atStart => exact ⟨0, by omega, rfl, ⟨none, 0, rfl⟩, H2, Hb1⟩
 case round =>
  obtain ⟨k, hk, rfl, ⟨OA, oc, rfl⟩, hRk, hbk⟩ := hrel
  by_cases hkm : k < m
  ·have hki : (k : Int) < m := by omega
   obtain ⟨pad, rfl, _, hpc⟩ := ints_at (HAr.out.below (hbk.out.mono (by have := H.out.le; have := H.out.size; omega))) (k := k) (by rw [Hm.out]; exact hkm);obtain ⟨p, hpe⟩ := mn (args.getD k 0)
   have hka : k < args.length := by rw [Hm.out]; exact hkm
   have hpm : p ∈ args := by
    rw [<- hpe, List.getD_eq_getElem?_getD, List.getElem?_eq_getElem hka];exact List.getElem_mem _
   rw [hpe] at hpc;obtain ⟨hp0, hp1⟩ := Hp.out p hpm;have hget := get_any (H.out.below hbk.out) hne hp0 hp1 hn
   have htk : l.take (k + 1) = l.take k ++ [R.get p] := by
    rw [<- HL.out, List.take_add_one, List.getElem?_map, List.getElem?_eq_getElem hka, Option.map_some, Option.toList_some]
    congr 2
    rw [<- hpe, List.getD_eq_getElem?_getD, List.getElem?_eq_getElem hka]; rfl
   obtain ⟨gv, hgv⟩ := mn (R.get p);rw [hgv] at hget htk;obtain ⟨Hget, Htk, Hgv, Hpe, Hpm⟩ := hd5 hget htk hgv hpe hpm;clear hpm hpe hgv htk hget;go_wp2_with fail;refine Hget.out.mono ?_;rintro e w3 ⟨rfl, q3, hw3⟩;have h3 : (wr.drewN q3).ownsRow w.heap.size 34 1 (.slice OA k oc) k (u64s (l.take k)) := hRk.out;have hb3 := below_drewN hbk.out q3;rw [<- hw3] at h3 hb3;clear hw3 hpc;have h4 := h3.alloc (.cells #[.int .u64 gv] 34);have hb4 := hb3.alloc hb3.size (.cells #[.int .u64 gv] 34);obtain ⟨H3, Hb3, H4, Hb4⟩ := hd4 h3 hb3 h4 hb4;clear hb4 h4 hb3 h3
   go_wp2_with (first
    | (at_builtin
       refine wpList_append_any _ rfl (.tmp 15) (.tmp 19) _ rfl w.heap.size 34 iU _ 1 8 Try.underlying25 hiU uz0 uz1 uz2 rfl (by omega) (.slice OA k oc) k (u64s (l.take k)) rfl H4.out (w3.heap.size + 1) (some ⟨w3.heap.size, 0, none⟩) 1 1 [.int .u64 gv] rfl (Reads.newS _ rfl _ _ _ _ _ rfl rfl) ?c1 ?c2 ?c3 ?c4 ?_
       case c1 => intro u hu; rw [List.mem_singleton] at hu; subst hu; rfl
       case c2 => simp only [maxLen]; omega
       case c3 => omega
       case c4 => have := Hb4.out.size; omega
       intro v5 w5 hown5 hg5 hat5;obtain ⟨A5, c5, rfl, _⟩ := own_any hown5;have hb5 := Hb4.out.grown hg5 (by have := Hb4.out.size; omega) (fun b e => (World.ownsRow.lt H4.out b e).1);have h5 := hown5;obtain ⟨H5, Hb5⟩ := hd2 h5 hb5;clear hb5 h5
       clear hown5 hg5 hat5))
   go_roundg (gk - 1)
   case measure => omega
   case rel =>
    refine ⟨k + 1, by omega, by simp [show wrap64 ((k : Int) + 1) = k + 1 by unfold wrap64; omega], ⟨_, _, rfl⟩, Lib.hid ?_, Hb5⟩;have := H5.out;rw [show u64s (l.take k) ++ [Value.int .u64 gv] = u64s (l.take (k + 1)) by rw [Htk.out]; unfold u64s; rw [List.map_append]; rfl] at this;exact this
  ·obtain rfl : k = m := by omega
   have hki : ¬ (k : Int) < k := by omega
   have hfin : wr.ownsRow w.heap.size 34 1 (.slice OA k oc) k (u64s l) := by
    have := hRk.out;rw [List.take_of_length_le (by rw [Hll.out]; exact Nat.le_refl _)] at this;exact this
   have Hfin := Lib.hid hfin;clear hfin;go_wp2_with fail;go_ret;exact ⟨_, rfl, by rw [<- hG]; exact Hfin.out, by rw [<- hG]; exact hbk.out⟩
end
end Go.Proofs.Ytncpehhfjkncoaa
namespace Go.Proofs.Ytncpehhfjkncoaa
open Go.RowKit
section
variable {w : World} {base : Nat} {X : RunX} {R : RunD} {V : RunV} {rest : List It}
theorem RunIn.wv_at (h : RunIn w base X R V rest) (hne : R.row ≠ []) {v : FrV} {s : List FrV} (hv : V.fv = v :: s) : (runIts X V R ++ rest)[8]? = some (.row v.wv 93 2 R.top.waits.length (waitCells R.top.waits v.av)) /\ 8 < (runIts X V R).length := by
 obtain ⟨r, v', s', hr, hv', _, _⟩ := h.top_eq hne;rw [hv] at hv';injection hv' with e1 e2;subst e1 e2;unfold runIts;rw [hr, hv];exact ⟨rfl, by unfold rowIts frIts; simp only [List.length_cons, List.length_append]; omega⟩
theorem RunIn.wv_ne (h : RunIn w base X R V rest) (hne : R.row ≠ []) {g c n : Nat} {v : FrV} {s : List FrV} (hT : TopM w base R V g c n v) (hv : V.fv = v :: s) : some X.rp ≠ v.wv.ownBlock /\ some g ≠ v.wv.ownBlock /\ ∀ x ∈ rest, ∀ b, x.block = some b -> some b ≠ v.wv.ownBlock := by
 obtain ⟨h8, h8l⟩ := h.wv_at hne hv;obtain ⟨h1, h2⟩ := h.any_ne 8 h8 (by omega) h8l;refine ⟨h1, fun e => ?_, h2⟩;refine h.its.apart 2 8 (.row V.rv 82 9 R.row.length (rowCells R.row V.fv)) _ (by omega) rfl h8 g ?_ e.symm;show V.rv.ownBlock = some g;rw [hT.rv]; rfl
theorem setTop_wait (hne : R.row ≠ []) (x : FrD) : (R.setTop x).waiting + R.top.waits.length = R.waiting + x.waits.length := by
 unfold RunD.setTop RunD.top RunD.waiting
 rcases hr : R.row with _ | ⟨y, r⟩
 ·exact absurd hr hne
 ·simp only [List.map_cons, List.sum_cons, List.headD_cons, List.tail_cons]
  omega
end
end Go.Proofs.Ytncpehhfjkncoaa
