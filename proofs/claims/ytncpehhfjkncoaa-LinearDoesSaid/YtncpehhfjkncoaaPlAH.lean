/- Walk of the run's going on behind a call. Conditions: the run lies in memory, the frame stands at a call. Walk of through: what is behind jumps. Conditions: the liner and its graph lie in memory, jumps lead to nodes, at most 4096 nodes. -/
import Derived.Test.YtncpehhfjkncoaaPlAA
import Derived.Test.YtncpehhfjkncoaaPlAG
import Derived.Test.YtncpehhfjkncoaaPlAC
import Derived.Deep.LoopGhost
import Derived.WalkKit
import Derived.WalkMore
set_option linter.unusedVariables false
set_option linter.unusedSimpArgs false
set_option maxRecDepth 100000
set_option maxHeartbeats 16000000
namespace Go.Proofs.Ytncpehhfjkncoaa
open Go.RowKit

/-- a node's cells where it lies -/
structure NodeC (w : World) (B : Nat) (na : Addr) (x : NodeD) (av : Value) : Prop where
 lt : na.block < B
 c0 : w.cell? na = some (.int .u8 x.op)
 c1 : w.cell? ⟨na.block, na.off + 1, none⟩ = some (.int .u8 x.byo)
 c2 : w.cell? ⟨na.block, na.off + 2, none⟩ = some (.int .i64 x.d)
 c3 : w.cell? ⟨na.block, na.off + 3, none⟩ = some (.int .i64 x.e)
 c4 : w.cell? ⟨na.block, na.off + 4, none⟩ = some (.int .i64 x.a)
 c5 : w.cell? ⟨na.block, na.off + 5, none⟩ = some (.int .i64 x.b)
 c6 : w.cell? ⟨na.block, na.off + 6, none⟩ = some (.int .i64 x.f)
 c7 : w.cell? ⟨na.block, na.off + 7, none⟩ = some (.int .i64 x.cell)
 c8 : w.cell? ⟨na.block, na.off + 8, none⟩ = some (.int .u64 x.imm)
 c9 : w.cell? ⟨na.block, na.off + 9, none⟩ = some av
 c10 : w.cell? ⟨na.block, na.off + 10, none⟩ = some (.int .i64 x.next)
 c11 : w.cell? ⟨na.block, na.off + 11, none⟩ = some (.int .i64 x.els)
 args : NumsAt .i64 w B av x.args
theorem node_at {w : World} {B : Nat} {A : Option Addr} {n c : Nat} {ns : List NodeD} (h : RowsAt 12 NodeAt w B (.slice A n c) ns) {k : Nat} {x : NodeD} (hk : ns[k]? = some x) :
  ∃ ad av, A = some ad /\ k < n /\ NodeC w B (ad.add (k * 12)) x av := by
 obtain ⟨ad, cs, e, hlt, hkn, hsz, hR, h0, hj⟩ := RowsAt.at_ h hk;obtain ⟨av, rfl, h1⟩ := hR;exact ⟨ad, av, e, hkn, ⟨by rw [block_add]; exact hlt, h0 _ rfl, hj 1 _ (by omega) rfl, hj 2 _ (by omega) rfl, hj 3 _ (by omega) rfl, hj 4 _ (by omega) rfl, hj 5 _ (by omega) rfl, hj 6 _ (by omega) rfl, hj 7 _ (by omega) rfl, hj 8 _ (by omega) rfl, hj 9 _ (by omega) rfl, hj 10 _ (by omega) rfl, hj 11 _ (by omega) rfl, h1⟩⟩
/-- where the last frame stands -/
structure Stand (gs : List GraphD) (R : RunD) (f i : Nat) (g : GraphD) (x : NodeD) : Prop where
 ne : R.row ≠ []
 fr : R.top.f = (f : Int)
 gr : gs[f]? = some g
 an : R.top.at_ = (i : Int)
 nd : g.nodes[i]? = some x
theorem Stand.node {gs : List GraphD} {R : RunD} {f i : Nat} {g : GraphD} {x : NodeD} (h : Stand gs R f i g x) : nodeAt gs R.top = x := by
 unfold nodeAt gAt;rw [h.fr, h.an, Int.toNat_natCast, Int.toNat_natCast, List.getD_eq_getElem?_getD, List.getD_eq_getElem?_getD, h.gr];show (g.nodes[i]?).getD _ = _;rw [h.nd]; rfl
/-- the registers behind a call, so far -/
def regsK (old kept : List Int) (k : Nat) : List Int := (List.range 16).map fun i => if i < k then (if 6 <= i /\ i <= 11 then kept.getD i 0 else 6510615555426900570) else old.getD i 0
theorem regsK_zero {old : List Int} (h : old.length = 16) (kept : List Int) : regsK old kept 0 = old := by
 unfold regsK
 refine List.ext_getElem (by simp [h]) fun i h1 h2 => ?_
 simp [List.getD_eq_getElem?_getD, List.getElem?_eq_getElem h2]
theorem regsK_all (old kept : List Int) : regsK old kept 16 = backRegs kept := by
 unfold regsK backRegs
 refine List.map_congr_left fun i hi => ?_
 rw [if_pos (List.mem_range.mp hi)]
theorem regsK_succ (old kept : List Int) (k : Nat) (hk : k < 16) : (regsK old kept k).set k (if 6 <= k /\ k <= 11 then kept.getD k 0 else 6510615555426900570) = regsK old kept (k + 1) := by
 unfold regsK
 refine List.ext_getElem (by simp) fun i h1 h2 => ?_
 rw [List.getElem_set];simp only [List.getElem_map, List.getElem_range]
 by_cases h : k = i
 ·subst h;rw [if_pos rfl, if_pos (show k < k + 1 by omega)]
 ·rw [if_neg h]
  by_cases h3 : i < k
  ·rw [if_pos h3, if_pos (show i < k + 1 by omega)]
  ·rw [if_neg h3, if_neg (show ¬ i < k + 1 by omega)]
section
variable {w : World} {base : Nat} {X : RunX} {R : RunD} {rest : List It}
theorem back_any (h : RunAt w base X R rest) (hn : R.row.length <= 1048576) {f i f2 : Nat} {g g2 : GraphD} {x : NodeD} (hs : Stand X.gs R f i g x) (hkl : R.top.kept.length = 16) (hf2 : x.f = (f2 : Int)) (hg2 : X.gs[f2]? = some g2) (v : Int) :
  Calls Try.prog 49 #[.pointer (some ⟨X.rp, 0, none⟩), .int .u64 v] w fun e w' => RunGot base X rest w (.tuple #[]) (R.back X.gs v) e w' := by
 obtain ⟨V, hV⟩ := h.run;obtain ⟨GA, gc, hgv, _, _⟩ := h.gs.slice;have hgs := h.gs;rw [hgv] at hgs;obtain ⟨ad, pv, kv, iv, nv, hAd, hfl, hM⟩ := GraphsAt.at_ hgs hs.gr;subst hAd;obtain ⟨NA, nn, nc, css, hne, hrest⟩ := hM.nodes
 have hNo : RowsAt 12 NodeAt w X.B (.slice NA nn nc) g.nodes := ⟨NA, nn, nc, css, rfl, hrest⟩
 subst hne;obtain ⟨nad, av, hNA, hin, hC⟩ := node_at hNo hs.nd;subst hNA;have hb := hV.blk;obtain ⟨F, hF⟩ := mn (X.gs.length);have b0 : w.cell? ⟨X.rp, 0, none⟩ = some X.gv := hb.cell 0;rw [hgv, hF] at b0;rw [hF] at hfl;obtain ⟨gr, c, n, vv, s, hv, hT⟩ := hV.top hs.ne;have hlen := hT.len;have b3 : w.cell? ⟨X.rp, 3, none⟩ = some V.rv := hb.cell 3;rw [hT.rv] at b3;have f0 := hT.f0;have f1 := hT.f1;rw [hs.fr] at f0;rw [hs.an] at f1;have c6 := hM.c6
 obtain ⟨a0, a1, a2, a3, a4, a5, a6, a7, a8, a9, a10, a11⟩ : _ /\ _ /\ _ /\ _ /\ _ /\ _ /\ _ /\ _ /\ _ /\ _ /\ _ /\ _ := ⟨hC.c0, hC.c1, hC.c2, hC.c3, hC.c4, hC.c5, hC.c6, hC.c7, hC.c8, hC.c9, hC.c10, hC.c11⟩
 obtain ⟨AA, ac, hae, _⟩ := hC.args.slice;rw [hae] at a9
 have hfi : (f : Int) < F := by omega
 have hii : (i : Int) < nn := by omega
 have hn1 : IntKind.i64.wrap (n : Int) = n := by rw [IntKind.wrap_i64]; omega
 have hn2 : (n : Int) < n + 1 := by omega
 obtain ⟨H, HV, Hgv, Hgs, HM, HNo, HC, Hb⟩ := hd8 h hV hgv hgs hM hNo hC hb;obtain ⟨HF, HT, Hlen, Hae, Hs, Hf2⟩ := hd6 hF hT hlen hae hs hf2;clear hf2 hs hae hlen hT hF hb hC hNo hM hgs hgv hV h;go_enter Try.func49, Try.ntmps49;go_upto_region 0 with fail
 go_quiet (fail)
 obtain ⟨wq, hwq⟩ := nm (w.drewN nq)
 have hk : ∀ p, wq.cell? p = w.cell? p := fun p => by rw [hwq]; rfl
 have hq := H.out.drewN nq;have hVq := HV.out.drewN nq;have hbq := below_drewN (Below.refl base w) nq;rw [<- hwq] at hq hVq hbq ⊢;have hTq := hVq.topAt Hs.out.ne hv HT.out.rv
 have hCq : NodeC wq X.B (nad.add (i * 12)) x av := ⟨HC.out.lt, (hk _).trans a0, (hk _).trans a1, (hk _).trans a2, (hk _).trans a3, (hk _).trans a4, (hk _).trans a5, (hk _).trans a6, (hk _).trans a7, (hk _).trans a8, (hk _).trans (a9.trans (by rw [Hae.out])), (hk _).trans a10, (hk _).trans a11, HC.out.args.keep fun p _ => hk p⟩
 obtain ⟨m, hm⟩ := mn (x.args.length);rw [hm] at a9;obtain ⟨GB, hGB⟩ := mn (wq.heap.size)
 have hadl : ad.block < w.heap.size := by have := HM.out.lt; rw [block_add] at this; have := H.out.le; have := H.out.size; omega
 have hnal : nad.block < w.heap.size := by have := HC.out.lt; rw [block_add] at this; have := H.out.le; have := H.out.size; omega
 have hszq : wq.heap.size = w.heap.size := by rw [hwq]; rfl
 have hS : ∀ W : World, (∀ p : Addr, p.block < GB -> W.cell? p = wq.cell? p) -> W.cell? ⟨X.rp, 0, none⟩ = some (.slice (some ad) F gc) /\ W.cell? ⟨gr, n * 9, none⟩ = some (.int .i64 (f : Nat)) /\ W.cell? ⟨gr, n * 9 + 1, none⟩ = some (.int .i64 (i : Nat)) /\ W.cell? ⟨(ad.add (f * 8)).block, (ad.add (f * 8)).off + 6, none⟩ = some (.slice (some nad) nn nc) /\
   W.cell? (nad.add (i * 12)) = some (.int .u8 x.op) /\ W.cell? ⟨(nad.add (i * 12)).block, (nad.add (i * 12)).off + 1, none⟩ = some (.int .u8 x.byo) /\ W.cell? ⟨(nad.add (i * 12)).block, (nad.add (i * 12)).off + 2, none⟩ = some (.int .i64 x.d) /\ W.cell? ⟨(nad.add (i * 12)).block, (nad.add (i * 12)).off + 3, none⟩ = some (.int .i64 x.e) /\ W.cell? ⟨(nad.add (i * 12)).block, (nad.add (i * 12)).off + 4, none⟩ = some (.int .i64 x.a) /\ W.cell? ⟨(nad.add (i * 12)).block, (nad.add (i * 12)).off + 5, none⟩ = some (.int .i64 x.b) /\
   W.cell? ⟨(nad.add (i * 12)).block, (nad.add (i * 12)).off + 6, none⟩ = some (.int .i64 x.f) /\ W.cell? ⟨(nad.add (i * 12)).block, (nad.add (i * 12)).off + 7, none⟩ = some (.int .i64 x.cell) /\ W.cell? ⟨(nad.add (i * 12)).block, (nad.add (i * 12)).off + 8, none⟩ = some (.int .u64 x.imm) /\ W.cell? ⟨(nad.add (i * 12)).block, (nad.add (i * 12)).off + 9, none⟩ = some (.slice AA m ac) /\ W.cell? ⟨(nad.add (i * 12)).block, (nad.add (i * 12)).off + 10, none⟩ = some (.int .i64 x.next) /\ W.cell? ⟨(nad.add (i * 12)).block, (nad.add (i * 12)).off + 11, none⟩ = some (.int .i64 x.els) := fun W hW => by
  have g0 : ∀ p : Addr, p.block < w.heap.size -> W.cell? p = w.cell? p := fun p hp => (hW p (by rw [<- hGB, hszq]; exact hp)).trans (hk p)
  have gn : ∀ j, W.cell? ⟨(nad.add (i * 12)).block, (nad.add (i * 12)).off + j, none⟩ = w.cell? ⟨(nad.add (i * 12)).block, (nad.add (i * 12)).off + j, none⟩ := fun j => g0 _ (by show (nad.add (i * 12)).block < _; rw [block_add]; exact hnal)
  exact ⟨(g0 _ HV.out.blk.lt).trans b0, (g0 _ HT.out.lt).trans f0, (g0 _ HT.out.lt).trans f1, (g0 _ (by show (ad.add (f * 8)).block < _; rw [block_add]; exact hadl)).trans c6, (g0 _ (by rw [block_add]; exact hnal)).trans a0, (gn 1).trans a1, (gn 2).trans a2, (gn 3).trans a3, (gn 4).trans a4, (gn 5).trans a5, (gn 6).trans a6, (gn 7).trans a7, (gn 8).trans a8, (gn 9).trans a9, (gn 10).trans a10, (gn 11).trans a11⟩
 have hSq := hS wq fun _ _ => rfl
 clear b0 b3 f0 f1 c6 a0 a1 a2 a3 a4 a5 a6 a7 a8 a9 a10 a11;obtain ⟨Hwq, Hk, Hq, HVq, Hbq, HTq, HCq, Hm⟩ := hd8 hwq hk hq hVq hbq hTq hCq hm;obtain ⟨Hszq, HS⟩ := hd2 hszq hS;clear hS hszq hm hCq hTq hbq hVq hq hk hwq;go_upto_region 1 with fail
 refine wp_region_late (S := fun W => W.cell? ⟨X.rp, 0, none⟩ = some (.slice (some ad) F gc) /\ W.cell? ⟨gr, n * 9, none⟩ = some (.int .i64 (f : Nat)) /\ W.cell? ⟨gr, n * 9 + 1, none⟩ = some (.int .i64 (i : Nat)) /\ W.cell? ⟨(ad.add (f * 8)).block, (ad.add (f * 8)).off + 6, none⟩ = some (.slice (some nad) nn nc) /\
   W.cell? (nad.add (i * 12)) = some (.int .u8 x.op) /\ W.cell? ⟨(nad.add (i * 12)).block, (nad.add (i * 12)).off + 1, none⟩ = some (.int .u8 x.byo) /\ W.cell? ⟨(nad.add (i * 12)).block, (nad.add (i * 12)).off + 2, none⟩ = some (.int .i64 x.d) /\ W.cell? ⟨(nad.add (i * 12)).block, (nad.add (i * 12)).off + 3, none⟩ = some (.int .i64 x.e) /\ W.cell? ⟨(nad.add (i * 12)).block, (nad.add (i * 12)).off + 4, none⟩ = some (.int .i64 x.a) /\ W.cell? ⟨(nad.add (i * 12)).block, (nad.add (i * 12)).off + 5, none⟩ = some (.int .i64 x.b) /\
   W.cell? ⟨(nad.add (i * 12)).block, (nad.add (i * 12)).off + 6, none⟩ = some (.int .i64 x.f) /\ W.cell? ⟨(nad.add (i * 12)).block, (nad.add (i * 12)).off + 7, none⟩ = some (.int .i64 x.cell) /\ W.cell? ⟨(nad.add (i * 12)).block, (nad.add (i * 12)).off + 8, none⟩ = some (.int .u64 x.imm) /\ W.cell? ⟨(nad.add (i * 12)).block, (nad.add (i * 12)).off + 9, none⟩ = some (.slice AA m ac) /\ W.cell? ⟨(nad.add (i * 12)).block, (nad.add (i * 12)).off + 10, none⟩ = some (.int .i64 x.next) /\ W.cell? ⟨(nad.add (i * 12)).block, (nad.add (i * 12)).off + 11, none⟩ = some (.int .i64 x.els))
  #[false, false, false, false, false, false, false, false, false, false, false, false, false, false, false, false, false, false, false, true] (by kernel_rfl) hSq (fun hHeld => ?_)
 refine wpAnyL_tk 0 ?_;refine wpAnyL_tk 1 ?_;refine wpAnyL_tk 2 ?_;refine wpAnyL_tk 3 ?_;refine wpAnyL_tk 4 ?_;refine wpAnyL_tk 5 ?_;refine wpAnyL_tk 6 ?_;refine wpAnyL_tk 7 ?_;refine wpAnyL_tk 8 ?_;refine wpAnyL_tk 9 ?_;refine wpAnyL_tk 10 ?_;refine wpAnyL_tk 11 ?_;refine wpAnyL_tk 12 ?_;refine wpAnyL_tk 13 ?_;refine wpAnyL_tk 14 ?_;refine wpAnyL_tk 15 ?_;refine wpAnyL_tk 16 ?_;refine wpAnyL_tk 17 ?_;refine wpAnyL_rd 18 (fun K hK => ?_);go_simp;refine hK.out _ _ (HS.out _ fun p hp => World.cell?_alloc_lt _ _ p (by rw [hGB]; exact hp)) (fun hHeld2 => ?_);clear hK K hHeld;refine lay ?_;refine wpAnyL_ls 19 (fun K hK => ?_);go_simp;refine hK.out _ _ ?_;clear hK K;refine lay ?_;refine wpAnyL_done (by kernel_rfl) ?_ _;have hV1 := (HVq.out.box 52 #[.int .u8 x.op, .int .u8 x.byo, .int .i64 x.d, .int .i64 x.e, .int .i64 x.a, .int .i64 x.b, .int .i64 x.f, .int .i64 x.cell, .int .u64 x.imm, .slice AA m ac, .int .i64 x.next, .int .i64 x.els]).drew;have hb1 := (Hbq.out.alloc HVq.out.size_.2 (.cells #[.int .u8 x.op, .int .u8 x.byo, .int .i64 x.d, .int .i64 x.e, .int .i64 x.a, .int .i64 x.b, .int .i64 x.f, .int .i64 x.cell, .int .u64 x.imm, .slice AA m ac, .int .i64 x.next, .int .i64 x.els] 52)).drew;obtain ⟨W1, hW1⟩ := nm ((wq.alloc (.cells #[.int .u8 x.op, .int .u8 x.byo, .int .i64 x.d, .int .i64 x.e, .int .i64 x.a, .int .i64 x.b, .int .i64 x.f, .int .i64 x.cell, .int .u64 x.imm, .slice AA m ac, .int .i64 x.next, .int .i64 x.els] 52)).drew);rw [<- hW1] at hV1 hb1 ⊢;rw [hGB] at hV1;obtain ⟨rest1, hrest1⟩ := nm (It.blk GB 52 #[.int .u8 x.op, .int .u8 x.byo, .int .i64 x.d, .int .i64 x.e, .int .i64 x.a, .int .i64 x.b, .int .i64 x.f, .int .i64 x.cell, .int .u64 x.imm, .slice AA m ac, .int .i64 x.next, .int .i64 x.els] :: rest);have hNB1 : Blk W1 GB 52 #[.int .u8 x.op, .int .u8 x.byo, .int .i64 x.d, .int .i64 x.e, .int .i64 x.a, .int .i64 x.b, .int .i64 x.f, .int .i64 x.cell, .int .u64 x.imm, .slice AA m ac, .int .i64 x.next, .int .i64 x.els] := (hV1.its.each (.blk GB 52 #[.int .u8 x.op, .int .u8 x.byo, .int .i64 x.d, .int .i64 x.e, .int .i64 x.a, .int .i64 x.b, .int .i64 x.f, .int .i64 x.cell, .int .u64 x.imm, .slice AA m ac, .int .i64 x.next, .int .i64 x.els]) (List.mem_append_right _ List.mem_cons_self)).2;have k10 := bc hNB1 10;rw [<- hrest1] at hV1;have hT1 := hV1.topAt Hs.out.ne hv HT.out.rv;have f1 := hT1.f1;have f1f := hT1.fz (n * 9 + 1);obtain ⟨R2, hR2⟩ := mn (R.setTop { R.top with at_ := x.next });obtain ⟨V2, hV2e⟩ := mn (({ V with fv := vv :: s } : RunV));have hV2 := hV1.setFr hT1 hv (x' := { R.top with at_ := x.next }) (v' := vv) (j := 1) (u := .int .i64 x.next) (by omega) rfl rfl (by obtain ⟨_, v2, _, _, e, _, e2⟩ := hV1.top_eq Hs.out.ne; rw [hv] at e; injection e with e _; subst e; exact e2);rw [hR2, hV2e] at hV2;have hb2 := hb1.setCell (p := ⟨gr, n * 9 + 1, none⟩) hT1.le (.int .i64 x.next);clear hHeld2 hSq;obtain ⟨HV1, Hb1, HW1, Hrest1, HNB1, HT1, HR2, HV2e⟩ := hd8 hV1 hb1 hW1 hrest1 hNB1 hT1 hR2 hV2e;obtain ⟨HV2, Hb2, Hv, HGB⟩ := hd4 hV2 hb2 hv hGB;clear hGB hv hb2 hV2 hV2e hR2 hT1 hNB1 hrest1 hW1 hb1 hV1;go_upto_region 3 with fail;obtain ⟨W2, hW2⟩ := nm (W1.setCell ⟨gr, n * 9 + 1, none⟩ (.int .i64 x.next));have hV2 := HV2.out;have hb2 := Hb2.out;rw [<- hW2] at hV2 hb2 ⊢;clear f1 f1f k10 HV2 Hb2;have c1 : W2.cell? ⟨X.rp, 1, none⟩ = some (.bool true) := hV2.blk.cell 1;have c2 : W2.cell? ⟨X.rp, 2, none⟩ = some (.slice (some ⟨V2.rg, 0, none⟩) 16 16) := hV2.blk.cell 2;obtain ⟨rg, hrg⟩ := mn (V2.rg);rw [hrg] at c2
 have hrl : R2.regs.length = 16 := by have := hV2.regs.1; rwa [len_u64s] at this
 have hR2ne : R2.row ≠ [] := by rw [<- HR2.out]; exact (setTop_row _).1
 have hR2kept : R2.top.kept = R.top.kept := by rw [<- HR2.out, (setTop_row _).2]
 have hR2len : R2.row.length = n + 1 := by
  rw [<- HR2.out];show R.row.tail.length + 1 = _;rw [List.length_tail, Hlen.out]; rfl
 have hv2 : V2.fv = vv :: s := by rw [<- HV2e.out]
 have hrv2 : V2.rv = .slice (some ⟨gr, 0, none⟩) (n + 1) c := by rw [<- HV2e.out]; exact HT.out.rv
 have hV20 : RunIn W2 base X { R2 with regs := regsK R2.regs R.top.kept 0 } V2 rest1 := by rw [regsK_zero hrl]; exact hV2
 have hkv := (hV2.topAt hR2ne hv2 hrv2).kv;rw [hR2kept, hkl] at hkv;obtain ⟨KA, kc, hkve, _⟩ := own_any hkv;rw [hkve] at hkv;obtain ⟨_, kq, rfl, _, _, _⟩ := own_row hkv (by omega);obtain ⟨HW2, HV2, Hb2, Hrg, Hrl, HR2ne, HR2kept, HR2len⟩ := hd8 hW2 hV2 hb2 hrg hrl hR2ne hR2kept hR2len;obtain ⟨Hv2, Hrv2, HV20, Hkv, Hkve⟩ := hd5 hv2 hrv2 hV20 hkv hkve;clear hkve hkv hV20 hrv2 hv2 hR2len hR2kept hR2ne hrl hrg hb2 hV2 hW2;go_upto_region 6 with fail;clear c1 c2
 go_loopg [56] 16 (fun gk iv wr => ∃ k : Nat, k + gk = 16 /\ iv = .int .i64 k /\ Hid (RunIn wr base X { R2 with regs := regsK R2.regs R.top.kept k } V2 rest1) /\ Hid (Below base w wr))
 case atStart => exact ⟨0, by omega, rfl, HV20, Hb2⟩
 case round =>
  obtain ⟨k, hk, rfl, hVk, hbk⟩ := hrel
  by_cases hk16 : k < 16
  ·have hki : (k : Int) < 16 := by omega
   have e2 : wr.cell? ⟨X.rp, 2, none⟩ = some (.slice (some ⟨rg, 0, none⟩) 16 16) := by
    have := hVk.out.blk.cell 2;rw [this, <- Hrg.out]; rfl
   obtain ⟨z, hz⟩ : ∃ z, wr.cell? ⟨rg, k, none⟩ = some z := by
    have := World.ownsRow.cellAt hVk.out.regs k (by omega);rw [u64s_get _ _ (by unfold regsK; simpa using hk16), Hrg.out] at this;exact ⟨_, this⟩
   have hzf : wr.frozen? ⟨rg, k, none⟩ = false := by
    have := World.ownsRow.frozenAt hVk.out.regs k
    rwa [Hrg.out] at this
   have hVa := hVk.out.setReg (k := k) 6510615555426900570 hk16;rw [Hrg.out] at hVa;have hba := hbk.out.setCell (p := ⟨rg, k, none⟩) (by have := (own_le hVk.out.regs).1; rwa [Hrg.out] at this) (.int .u64 6510615555426900570);have hstep := regsK_succ R2.regs R.top.kept k hk16;obtain ⟨HVa, Hba, Hstep⟩ := hd3 hVa hba hstep;clear hstep hba hVa;go_upto_region 9 with fail;obtain ⟨wa, hwa⟩ := nm (wr.setCell ⟨rg, k, none⟩ (.int .u64 6510615555426900570));have hVa := HVa.out;have hba := Hba.out;rw [<- hwa] at hVa hba ⊢;clear e2 hz hzf HVa Hba;obtain ⟨HVa, Hba, Hwa⟩ := hd3 hVa hba hwa;clear hwa hba hVa
   by_cases h6 : 6 <= k
   ·have h6i : (6 : Int) <= k := by omega
    by_cases h11 : k <= 11
    ·have h11i : (k : Int) <= 11 := by omega
     have e2 : wa.cell? ⟨X.rp, 2, none⟩ = some (.slice (some ⟨rg, 0, none⟩) 16 16) := by
      have := HVa.out.blk.cell 2;rw [this, <- Hrg.out]; rfl
     have hTa := HVa.out.topAt HR2ne.out Hv2.out Hrv2.out;have e8 := hTa.f8;rw [Hkve.out] at e8
     have hka : wa.ownsRow base 34 1 (.slice (some ⟨kq, 0, none⟩) 16 kc) 16 (u64s R.top.kept) := by
      have := hTa.kv;rw [Hkve.out] at this;have e : ({ R2 with regs := (regsK R2.regs R.top.kept k).set k 6510615555426900570 } : RunD).top.kept = R.top.kept := HR2kept.out;rw [e, hkl] at this;exact this
     have ek := World.ownsRow.cellAt hka k (by omega);rw [u64s_get _ _ (by omega)] at ek;obtain ⟨kk, hkk⟩ := mn (R.top.kept.getD k 0);rw [hkk] at ek
     obtain ⟨z, hz⟩ : ∃ z, wa.cell? ⟨rg, k, none⟩ = some z := by
      have := World.ownsRow.cellAt HVa.out.regs k (by omega);rw [u64s_get _ _ (by show k < ((regsK _ _ _).set _ _).length; rw [List.length_set]; unfold regsK; simpa using hk16), Hrg.out] at this;exact ⟨_, this⟩
     have hzf : wa.frozen? ⟨rg, k, none⟩ = false := by
      have := World.ownsRow.frozenAt HVa.out.regs k
      rwa [Hrg.out] at this
     have hVb := HVa.out.setReg (k := k) kk hk16
     have hse : ({ ({ R2 with regs := (regsK R2.regs R.top.kept k).set k 6510615555426900570 } : RunD) with regs := ((regsK R2.regs R.top.kept k).set k 6510615555426900570).set k kk } : RunD) = { R2 with regs := regsK R2.regs R.top.kept (k + 1) } := by
      rw [List.set_set, <- Hstep.out, if_pos ⟨h6, h11⟩, hkk]
     rw [Hrg.out] at hVb
     replace hVb : RunIn (wa.setCell ⟨rg, k, none⟩ (.int .u64 kk)) base X { R2 with regs := regsK R2.regs R.top.kept (k + 1) } V2 rest1 := by rw [<- hse]; exact hVb
     have hbb := Hba.out.setCell (p := ⟨rg, k, none⟩) (by have := (own_le HVa.out.regs).1; rwa [Hrg.out] at this) (.int .u64 kk);clear hse;obtain ⟨HTa, Hka, Hkk, HVb, Hbb⟩ := hd5 hTa hka hkk hVb hbb;clear hbb hVb hkk hka hTa;go_upto_region 10 with fail;refine wp_region_late (S := fun W => W.cell? ⟨X.rp, 2, none⟩ = some (.slice (some ⟨rg, 0, none⟩) 16 16) /\ W.cell? ⟨gr, n * 9 + 8, none⟩ = some (.slice (some ⟨kq, 0, none⟩) 16 kc) /\ W.cell? ⟨kq, k, none⟩ = some (.int .u64 kk) /\ W.cell? ⟨rg, k, none⟩ = some z /\ W.frozen? ⟨rg, k, none⟩ = false) #[false, false, false, false, false, false, false, false, false, false, false, false, false, true] (by kernel_rfl) ⟨e2, e8, ek, hz, hzf⟩ (fun hHeld => ?_);refine wpAnyL_tk 0 ?_;refine wpAnyL_tk 1 ?_;refine wpAnyL_tk 2 ?_;refine wpAnyL_tk 3 ?_;refine wpAnyL_tk 4 ?_;refine wpAnyL_tk 5 ?_;refine wpAnyL_tk 6 ?_;refine wpAnyL_tk 7 ?_;refine wpAnyL_tk 8 ?_;refine wpAnyL_tk 9 ?_;refine wpAnyL_tk 10 ?_;refine wpAnyL_tk 11 ?_;refine wpAnyL_tk 12 ?_;refine wpAnyL_ls 13 (fun K hK => ?_);go_simp;refine hK.out _ _ ?_;clear hK K;refine lay ?_;refine wpAnyL_done (by kernel_rfl) ?_ _;clear e2 e8 ek hz hzf hHeld;go_wp2_with fail
     go_roundg (gk - 1)
     case measure => omega
     case rel => exact ⟨k + 1, by omega, by simp [show wrap64 ((k : Int) + 1) = k + 1 by unfold wrap64; omega], Lib.hid HVb.out.drew, Lib.hid Hbb.out.drew⟩
    ·have h11i : ¬ (k : Int) <= 11 := by omega
     have hVb : RunIn wa base X { R2 with regs := regsK R2.regs R.top.kept (k + 1) } V2 rest1 := by
      rw [<- Hstep.out, if_neg (by omega)]; exact HVa.out
     have HVb := Lib.hid hVb;clear hVb;go_wp2_with fail
     go_roundg (gk - 1)
     case measure => omega
     case rel => exact ⟨k + 1, by omega, by simp [show wrap64 ((k : Int) + 1) = k + 1 by unfold wrap64; omega], HVb, Hba⟩
   ·have h6i : ¬ (6 : Int) <= k := by omega
    have hVb : RunIn wa base X { R2 with regs := regsK R2.regs R.top.kept (k + 1) } V2 rest1 := by
     rw [<- Hstep.out, if_neg (by omega)]; exact HVa.out
    have HVb := Lib.hid hVb;clear hVb;go_wp2_with fail
    go_roundg (gk - 1)
    case measure => omega
    case rel => exact ⟨k + 1, by omega, by simp [show wrap64 ((k : Int) + 1) = k + 1 by unfold wrap64; omega], HVb, Hba⟩
  ·obtain rfl : k = 16 := by omega
   have hVz := hVk.out;rw [regsK_all] at hVz;have d0 : wr.cell? ⟨X.rp, 0, none⟩ = some X.gv := hVz.blk.cell 0;rw [Hgv.out, HF.out] at d0;have hNBz : Blk wr GB 52 #[.int .u8 x.op, .int .u8 x.byo, .int .i64 x.d, .int .i64 x.e, .int .i64 x.a, .int .i64 x.b, .int .i64 x.f, .int .i64 x.cell, .int .u64 x.imm, .slice AA m ac, .int .i64 x.next, .int .i64 x.els] := (hVz.its.each (.blk GB 52 #[.int .u8 x.op, .int .u8 x.byo, .int .i64 x.d, .int .i64 x.e, .int .i64 x.a, .int .i64 x.b, .int .i64 x.f, .int .i64 x.cell, .int .u64 x.imm, .slice AA m ac, .int .i64 x.next, .int .i64 x.els]) (List.mem_append_right _ (by rw [Hrest1.out]; exact List.mem_cons_self))).2;have k6 := bc hNBz 6;rw [Hf2.out] at k6;obtain ⟨ad2, _, _, _, _, had2, hf2l, hM2⟩ := GraphsAt.at_ (Hgs.out.below (hbk.out.mono H.out.le)) hg2;injection had2 with had2;subst had2;rw [HF.out] at hf2l
   have hf2i : (f2 : Int) < F := by omega
   have m4 := hM2.c4
   have hfin : ∀ W, ∀ L : List Int, RunIn W base X { R2 with regs := L } V2 rest1 -> Below base w W -> RunAt W base X { R2 with regs := L } rest := fun W L hW hB => by
    have : RunAt W base X { R2 with regs := L } rest1 := ⟨H.out.le, H.out.gs.below (hB.mono H.out.le), _, hW⟩
    rw [Hrest1.out] at this;exact this.drop
   have hgA : gAt X.gs x.f = g2 := by
    unfold gAt;rw [Hf2.out, Int.toNat_natCast, List.getD_eq_getElem?_getD, hg2]; rfl
   have hRB : R.back X.gs v = { R2 with regs := if g2.result then (backRegs R.top.kept).set 0 v else backRegs R.top.kept } := by
    unfold RunD.back;rw [Hs.out.node, hgA, <- HR2.out]; rfl
   have e2 : wr.cell? ⟨X.rp, 2, none⟩ = some (.slice (some ⟨rg, 0, none⟩) 16 16) := by
    have := hVz.blk.cell 2;rw [this, <- Hrg.out]; rfl
   obtain ⟨z, hz⟩ : ∃ z, wr.cell? ⟨rg, 0, none⟩ = some z := by
    have := World.ownsRow.cellAt hVz.regs 0 (by omega);rw [u64s_get _ _ (by unfold backRegs; simp), Hrg.out] at this;exact ⟨_, this⟩
   have hzf : wr.frozen? ⟨rg, 0, none⟩ = false := by
    have := World.ownsRow.frozenAt hVz.regs 0
    rwa [Hrg.out] at this
   have hki : ¬ ((16 : Nat) : Int) < 16 := by omega
   have hle := (own_le hVz.regs).1;rw [Hrg.out] at hle;obtain ⟨HVz, HNBz, HM2, Hfin, HgA, HRB, Hle⟩ := hd7 hVz hNBz hM2 hfin hgA hRB hle;clear hle hRB hgA hfin hM2 hNBz hVz;go_upto_region 12 with fail
   go_quiet (fail)
   have hVq2 := HVz.out.drewN nq;have hbq2 := below_drewN hbk.out nq;have e2q : (wr.drewN nq).cell? ⟨X.rp, 2, none⟩ = some (.slice (some ⟨rg, 0, none⟩) 16 16) := e2;have hzq : (wr.drewN nq).cell? ⟨rg, 0, none⟩ = some z := hz;have hzfq : (wr.drewN nq).frozen? ⟨rg, 0, none⟩ = false := hzf;obtain ⟨ws, hws⟩ := nm (wr.drewN nq);rw [<- hws] at hVq2 hbq2 e2q hzq hzfq ⊢;clear d0 k6 m4 e2 hz hzf;have hVr := hVq2.setReg (k := 0) v (by omega);rw [Hrg.out] at hVr;have hbr := hbq2.setCell (p := ⟨rg, 0, none⟩) Hle.out (.int .u64 v)
   rcases hres : g2.result with _ | _
   ·have hf1 := Hfin.out ws _ hVq2 hbq2;obtain ⟨HVq2, Hbq2, Hws, HVr, Hbr, Hf1⟩ := hd6 hVq2 hbq2 hws hVr hbr hf1;clear hf1 hbr hVr hws hbq2 hVq2;go_wp2_with fail;go_end0;exact ⟨rfl, by rw [HRB.out, hres]; simpa using Hf1.out, Hbq2.out⟩
   ·have hf1 := Hfin.out _ _ hVr hbr;obtain ⟨HVq2, Hbq2, Hws, HVr, Hbr, Hf1⟩ := hd6 hVq2 hbq2 hws hVr hbr hf1;clear hf1 hbr hVr hws hbq2 hVq2;go_wp2_with fail;go_end0;exact ⟨rfl, by rw [HRB.out, hres]; simpa using Hf1.out, Hbr.out⟩
end
end Go.Proofs.Ytncpehhfjkncoaa
namespace Go.Proofs.Ytncpehhfjkncoaa
open Go.RowKit

theorem RowsAt.slice {α : Type} {size : Nat} {R : World -> Nat -> List Value -> α -> Prop} {w : World} {B : Nat} {v : Value} {l : List α} (h : RowsAt size R w B v l) : ∃ A c, v = .slice A l.length c /\ l.length <= c /\ c <= maxLen := by
 obtain ⟨A, n, c, css, rfl, h2, h3, h4, _⟩ := h;exact ⟨A, c, by rw [h4], by omega, h3⟩
/-- a node's cells that the walks ask for -/
theorem node_cells {w : World} {B c : Nat} {A : Option Addr} {ns : List NodeD} {N : Nat} (h : RowsAt 12 NodeAt w B (.slice A N c) ns) {x : Nat} (hx : x < ns.length) :
  ∃ ad, A = some ad /\ w.cell? (ad.add (x * 12)) = some (.int .u8 (nd ns x).op) /\ w.cell? ⟨(ad.add (x * 12)).block, (ad.add (x * 12)).off + 10, none⟩ = some (.int .i64 (nd ns x).next) := by
 obtain ⟨ad, cs, hA, _, _, _, hNode, n0, nj⟩ := RowsAt.at_ h (nd_get hx);obtain ⟨av, rfl, _⟩ := hNode;exact ⟨ad, hA, n0 _ rfl, nj 10 _ (by omega) rfl⟩
theorem through_any {w : World} {B lp M : Nat} {ga : Addr} {g : GraphD} {pv kv iv nv ov tv : Value} (hL : Blk w lp 72 #[.pointer (some ga), .map (some M), ov, tv]) (hG : GraphM w B ga g pv kv iv nv) (hB : B <= w.heap.size)
  (hh : Hop g.nodes) (hn : g.nodes.length <= 4096) (i : Nat) (hi : i < g.nodes.length) :
  Calls Try.prog 20 #[.pointer (some ⟨lp, 0, none⟩), .int .i64 i] w fun e w' => e = .returned (.int .i64 (thru g.nodes i : Nat)) /\ Below w.heap.size w w' := by
 obtain ⟨r, hr⟩ := mn (thru g.nodes i);rw [hr];obtain ⟨NA, nc, rfl, _, _⟩ := hG.nodes.slice;obtain ⟨ns, hns⟩ := mn (g.nodes);obtain ⟨N, hN⟩ := mn (ns.length);rw [hns] at hh hn hi hr;rw [hN] at hn hi
 have hle : ∀ {k : Nat}, hops ns k i < N := fun {k} => by rw [<- hN]; exact hops_lt hh k (by rw [hN]; exact hi)
 have hLl := hL.lt;have hmm := @run_makeMap Try.prog;have hm0 := IMap.made w;have hb0 : Below w.heap.size w (w.alloc (.map #[] 0)) := (Below.refl _ _).alloc (Nat.le_refl _) _;have hGn := hG.nodes;rw [hns, hN] at hGn;obtain ⟨HL, HG, Hh, Hr, HN, Hm0, Hb0, Hns⟩ := hd8 hL hG hh hr hN hm0 hb0 hns;clear hns hb0 hm0 hN hr hh hG hL;go_enter Try.func20, Try.ntmps20
 try go_wp2_with fail
 go_step3
 go_wp2_with fail
 go_step3
 go_wp2_with fail
 go_loopg [1] N (fun gk iv wr => ∃ (k x : Nat) (f : Nat -> Option Nat), k + gk = N /\ iv = .int .i64 x /\ Hid (hops ns k i = x) /\ Hid (IMap wr w.heap.size k f) /\ Hid (cardF f N = k /\ ∀ v c, f v = some c -> c = 1 /\ ∃ a, a < k /\ v = hops ns a i) /\ Hid (∀ b, b < k -> (nd ns (hops ns b i)).op = 10) /\ Hid (Below w.heap.size w wr))
 case atStart => exact ⟨0, i, _, by omega, rfl, Lib.hid rfl, Hm0, Lib.hid ⟨cardF_none N, nofun⟩, Lib.hid (fun b h => absurd h (by omega)), Hb0⟩
 case round =>
  obtain ⟨k, x, f, hk, rfl, hx, hM, hf, hall, hbq⟩ := hrel;have hLq := HL.out.below hbq.out hLl;have kl0 := bc hLq 0;have hGq := HG.out.below (hbq.out.mono hB);have g6 := hGq.c6;rw [Hns.out, HN.out] at g6
  have hxN : x < N := by rw [<- hx.out]; exact hle
  obtain ⟨nad, hNA, n0, n10⟩ := node_cells (show RowsAt 12 NodeAt wr B (.slice NA N nc) ns by have := hGq.nodes; rwa [Hns.out, HN.out] at this) (x := x) (by rw [HN.out]; exact hxN);subst hNA;have hl := hM.out.look x (by omega)
  have hxI : (x : Int) < N := by omega
  obtain ⟨op, hxo⟩ := mn ((nd ns x).op);obtain ⟨nx, hnx⟩ := mn ((nd ns x).next);rw [hxo] at n0;rw [hnx] at n10
  by_cases h10 : op = 10
  ·subst h10;have hnb := Hh.out _ (nd_mem (by rw [HN.out]; exact hxN)) hxo;rw [hnx, HN.out] at hnb;obtain ⟨y, rfl⟩ := Int.eq_ofNat_of_zero_le hnb.1
   have hy : hop ns x = y := by rw [hop_nop hxo, hnx, Int.toNat_natCast]
   have hsx : hops ns (k + 1) i = y := by rw [hops_succ, hx.out, hy]
   have hyN : y < N := by omega
   rcases hfx : f x with _ | c
   ·have hkN : k < N := by have := cardF_room hfx hxN; rw [hf.out.1] at this; exact this
    have hcard : cardF (upd f x 1) N = k + 1 := by rw [cardF_upd hfx hxN, hf.out.1]
    have hnew : ∀ v c, upd f x 1 v = some c -> c = 1 /\ ∃ a, a < k + 1 /\ v = hops ns a i := by
     intro v c hv
     by_cases hvx : v = x
     ·subst hvx;rw [upd_at] at hv;injection hv with hv;exact ⟨hv.symm, k, by omega, hx.out.symm⟩
     ·rw [upd_ne hvx] at hv;obtain ⟨h1, a, h2, h3⟩ := hf.out.2 v c hv;exact ⟨h1, a, by omega, h3⟩
    have hall2 : ∀ b, b < k + 1 -> (nd ns (hops ns b i)).op = 10 := fun b hb => by
     by_cases hbk : b = k
     ·rw [hbk, hx.out]; exact hxo
     ·exact hall.out b (by omega)
    rw [hfx] at hl;simp only [Option.getD_none, Int.ofNat_eq_natCast, Int.natCast_zero] at hl
    have hgk : 0 < gk := by omega
    have hlz : wr.heap.size >= w.heap.size := hbq.out.size;obtain ⟨HLq, HGq, Hxo, Hnx, Hnb, Hy, Hsx, Hfx⟩ := hd8 hLq hGq hxo hnx hnb hy hsx hfx;obtain ⟨Hcard, Hnew, Hall2, Hk, HLOOK⟩ := hd5 hcard hnew hall2 hk hl;clear hl hk hall2 hnew hcard hfx hsx hy hnb hnx hxo hGq hLq;have hl : (Instr.lookup 70 (.map (some w.heap.size)) (.int .i64 x) false).run Try.prog wr = .ok (.int .i64 0) wr := HLOOK.out
    go_wp2_with (first
     | (at_mapUpdate
        refine wpList_put _ rfl _ _ _ rfl w.heap.size k f rfl hM.out (by unfold maxLen; omega) x 1 (by omega) (by omega) rfl rfl ?_;intro w1 hM1 hg1;have hb1 : Below w.heap.size w w1 := hbq.out.grown hg1 hlz (fun g e => by injection e with e; omega);have hL1 := HL.out.below hb1 hLl;have q0 := Blk.cell hL1 0;simp only [List.getElem?_toArray, List.getElem?_cons_zero, List.getElem?_cons_succ] at q0;have hG1 := HG.out.below (hb1.mono hB);have q6 := hG1.c6;rw [Hns.out, HN.out] at q6;obtain ⟨nad', hNA', q7, q10⟩ := node_cells (show RowsAt 12 NodeAt w1 B (.slice (some nad) N nc) ns by have := hG1.nodes; rwa [Hns.out, HN.out] at this) (x := x) (by rw [HN.out]; exact hxN);injection hNA' with hNA';subst hNA';rw [Hxo.out] at q7;rw [Hnx.out] at q10;have HM1 := Lib.hid hM1;have Hb1 := Lib.hid hb1
        clear hM1 hg1 hb1 hL1 hG1))
    go_roundg (gk - 1)
    case measure => omega
    case rel => exact ⟨k + 1, y, upd f x 1, by have := Hk.out; omega, rfl, Lib.hid Hsx.out, HM1, Lib.hid ⟨Hcard.out, Hnew.out⟩, Lib.hid Hall2.out, Hb1⟩
   ·obtain ⟨rfl, a, hak, hxa⟩ := hf.out.2 x c hfx;rw [hfx] at hl;have hl : (Instr.lookup 70 (.map (some w.heap.size)) (.int .i64 x) false).run Try.prog wr = .ok (.int .i64 1) wr := hl
    have hp : hops ns (k - a) x = x := by
     have h1 := hops_add (ns := ns) a (k - a) i;rw [show a + (k - a) = k by omega, hx.out, <- hxa] at h1;exact h1.symm
    have h1y : hops ns 1 x = y := hy;obtain ⟨HLq, HGq, Hxo, Hnx, Hnb, Hy, Hsx, Hfx⟩ := hd8 hLq hGq hxo hnx hnb hy hsx hfx;obtain ⟨Hk, Hp, H1y, Hxa, Hak⟩ := hd5 hk hp h1y hxa hak;clear hak hxa h1y hp hk hfx hsx hy hnb hnx hxo hGq hLq;go_wp2_with fail
    go_loopg [6, 7] (k - a - 1) (fun gk2 lv jv wr2 => ∃ m l z : Nat, wr2 = wr /\ Hid (1 <= m) /\ Hid (m + gk2 = k - a) /\ lv = .int .i64 l /\ jv = .int .i64 z /\ Hid (l = minK ns x m) /\ Hid (z = hops ns m x))
    case atStart => exact ⟨1, x, y, rfl, Lib.hid (by omega), Lib.hid (by have := Hak.out; omega), rfl, rfl, Lib.hid (by simp [minK, hops]), Lib.hid H1y.out.symm⟩
    case round =>
     obtain ⟨m, l, z, rfl, hm1, hmk, rfl, rfl, hlm, hzm⟩ := hrel
     by_cases hzx : z = x
     ·subst hzx
      have hfin : r = l := by
       rw [<- Hr.out, thru_ring (k := k) (p := m) hm1.out (by rw [HN.out]; have := Hk.out; omega) (by rw [HN.out]; have := Hk.out; have := hmk.out; omega) (by rw [hx.out]; exact Hxo.out) (by rw [hx.out]; exact hzm.out.symm), hx.out, hlm.out]
      have Hfin := Lib.hid hfin;clear hfin;go_wp2_with fail
      try rw [Exit.noGoto_ret]
      go_ret;rw [Hfin.out];exact ⟨rfl, hbq.out⟩
     ·have hz2 : (z == x) = false := by simp [hzx]
      have hmlt : m < k - a := by
       rcases Nat.lt_or_ge m (k - a) with h | h
       ·exact h
       ·exfalso
        have : m = k - a := by have := hmk.out; omega
        apply hzx
        rw [hzm.out, this];exact Hp.out
      have hzi : z = hops ns (a + m) i := by rw [hops_add, <- Hxa.out]; exact hzm.out
      have hzN : z < N := by rw [hzi]; exact hle
      have hzo : (nd ns z).op = 10 := by rw [hzi]; exact hall.out (a + m) (by omega)
      have hzb := Hh.out _ (nd_mem (by rw [HN.out]; exact hzN)) hzo;rw [HN.out] at hzb;obtain ⟨nad', hNA', p0, p10⟩ := node_cells (show RowsAt 12 NodeAt wr B (.slice (some nad) N nc) ns by have := HGq.out.nodes; rwa [Hns.out, HN.out] at this) (x := z) (by rw [HN.out]; exact hzN);injection hNA' with hNA';subst hNA';obtain ⟨nz, hnz⟩ := mn ((nd ns z).next);rw [hzo] at p0;rw [hnz] at hzb p10;obtain ⟨t, rfl⟩ := Int.eq_ofNat_of_zero_le hzb.1
      have ht : t = hops ns (m + 1) x := by rw [hops_succ, <- hzm.out, hop_nop hzo, hnz, Int.toNat_natCast]
      have hzI : (z : Int) < N := by omega
      have hmn : min l z = minK ns x (m + 1) := by rw [hlm.out, hzm.out]; rfl
      have hgk : 0 < gk := by have := hmk.out; omega
      obtain ⟨Hzi, Hzo, Hzb, Hnz, Ht, Hmn, Hmlt⟩ := hd7 hzi hzo hzb hnz ht hmn hmlt;clear hmlt hmn ht hnz hzb hzo hzi;go_wp2_with fail
      all_goals
       obtain ⟨u, hu⟩ := nm (min l z)
       have hu' : (u : Int) = min (l : Int) z := by omega
       go_roundg (gk - 1)
       case measure => omega
       case rel => exact ⟨m + 1, u, t, rfl, Lib.hid (by omega), Lib.hid (by have := hmk.out; omega), by congr 1; omega, rfl, Lib.hid (hu.trans Hmn.out), Lib.hid Ht.out⟩
  ·have hqo : (op == 10) = false := by simp [h10]
   have hfin : r = x := by rw [<- Hr.out, thru_stop (k := k) (by rw [HN.out]; omega) (by rw [hx.out, hxo]; exact h10), hx.out]
   obtain ⟨HLq, HGq, Hl, Hxo, Hnx, Hfin⟩ := hd6 hLq hGq hl hxo hnx hfin;clear hfin hnx hxo hl hGq hLq;go_wp2_with fail
   try rw [Exit.noGoto_ret]
   go_ret;rw [Hfin.out];exact ⟨rfl, hbq.out⟩
end Go.Proofs.Ytncpehhfjkncoaa
