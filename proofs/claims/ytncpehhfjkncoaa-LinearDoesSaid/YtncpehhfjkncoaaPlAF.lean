/- Walk of the run's push of a frame. Conditions: the run lies in memory, the graph is there, its parameters are places. -/
import Derived.Test.YtncpehhfjkncoaaPlAA
import Derived.Test.YtncpehhfjkncoaaPlAD
import Derived.Test.YtncpehhfjkncoaaPlAE
import Derived.Laws.ResultCell
set_option linter.unusedVariables false
set_option linter.unusedSimpArgs false
set_option maxRecDepth 100000
set_option maxHeartbeats 16000000
namespace Go.Proofs.Ytncpehhfjkncoaa
open Go.RowKit

/-- what a push asks of a graph and its numbers -/
structure PushOk (gs : List GraphD) (f : Nat) (g : GraphD) (n : Nat) : Prop where
 at_ : gs[f]? = some g
 len : n = g.params.length
 par : ∀ p ∈ g.params, 0 <= p /\ p < g.kinds.length
 init : g.init.length = g.params.length /\ ∀ c ∈ g.init, c < g.cells
 k : g.kinds.length <= 1024
 c : 0 <= g.cells /\ g.cells <= 64
 n : g.params.length <= 4
theorem infoU64 : (Try.prog.info? 34).map (fun i => (i.zero, i.size, i.bytes)) = some (some (.int .u64 0), 1, 8) := by kernel_rfl
theorem infoFrame : (Try.prog.info? 82).map (fun i => (i.zero, i.size, i.bytes)) = some (some (.agg #[.int .i64 0, .int .i64 0, .int .i64 0, .slice none 0 0, .slice none 0 0, .slice none 0 0, .bool false, .int .u64 0, .slice none 0 0]), 9, 136) := by kernel_rfl
def u64Z (n : Nat) : Array Value := madeCells #[.int .u64 0] n
theorem u64Z_list (n : Nat) : (u64Z n).toList = u64s (List.replicate n 0) := by
 unfold u64Z u64s;rw [toList_madeCells_one]; simp
theorem make_u64 (n : Nat) (hn : n <= 1000000) (W : World) : (Instr.makeSlice 25 (.int .i64 (n : Int)) (.int .i64 (n : Int))).run Try.prog W = .ok (.slice (some ⟨W.heap.size, 0, none⟩) n n) (W.alloc (.cells (u64Z n) 34)) := by
 obtain ⟨ik, hik, hkz0, hkz1, hkz2⟩ := info_parts infoU64;have h := run_make_rowN (P := Try.prog) 25 34 ik _ Try.underlying25 hik hkz0 .i64 .i64 n n (Nat.le_refl _) (by rw [hkz2]; omega) (by omega) W;rw [hkz1, Nat.mul_one] at h;exact h
theorem own_made (W : World) (base n : Nat) (hb : base <= W.heap.size) (hn : n <= 1000000) : (W.alloc (.cells (u64Z n) 34)).ownsRow base 34 1 (.slice (some ⟨W.heap.size, 0, none⟩) n n) (List.replicate n (0 : Int)).length (u64s (List.replicate n 0)) := by
 rw [List.length_replicate];exact own_of_blk (Blk.new W _ _) hb (u64Z_list n) (by rw [len_u64s, List.length_replicate, Nat.mul_one]) (by unfold maxLen; omega)
section
variable {w : World} {base : Nat} {X : RunX} {R : RunD} {rest : List It}
theorem RunAt.box (h : RunAt w base X R rest) (t : TypeId) (cs : Array Value) : RunAt (w.alloc (.cells cs t)) base X R (.blk w.heap.size t cs :: rest) := by
 obtain ⟨V, hV⟩ := h.run;refine ⟨h.le, h.gs.keep fun p hp => World.cell?_alloc_lt w _ p (by have := h.le; have := h.size; omega), V, hV.tok, hV.lens, ?_⟩;exact (hV.its.newBlk h.size t cs).perm List.perm_middle.symm
theorem RunAt.sub (h : RunAt w base X R rest) {rest' : List It} (hs : rest'.Sublist rest) : RunAt w base X R rest' := by
 obtain ⟨V, hV⟩ := h.run;exact ⟨h.le, h.gs, V, hV.tok, hV.lens, hV.its.sub (List.Sublist.append_left hs _)⟩
theorem RunAt.drop {x : It} (h : RunAt w base X R (x :: rest)) : RunAt w base X R rest := h.sub (List.sublist_cons_self _ _)
theorem RunAt.mem (h : RunAt w base X R rest) {x : It} (hx : x ∈ rest) : x.At w base := by
 obtain ⟨V, hV⟩ := h.run;exact hV.its.each x (List.mem_append_right _ hx)
theorem RunAt.alloc (h : RunAt w base X R rest) (o : Obj) : RunAt (w.alloc o) base X R rest := by
 obtain ⟨V, hV⟩ := h.run;exact ⟨h.le, h.gs.keep fun p hp => World.cell?_alloc_lt w _ p (by have := h.le; have := h.size; omega), V, hV.alloc o⟩
theorem ints_at {w : World} {B k : Nat} {kd : IntKind} {A : Option Addr} {l : List Int} (h : Reads w B 1 A l.length (l.map (Value.int kd))) (hk : k < l.length) : ∃ ad, A = some ad /\ ad.block < B /\ w.cell? (ad.add k) = some (.int kd (l.getD k 0)) := by
 obtain ⟨ad, u, h1, h2, h3, h4⟩ := h.at_ hk;refine ⟨ad, h1, h2, ?_⟩;rw [List.getElem?_map, List.getElem?_eq_getElem hk] at h3;injection h3 with h3;rw [h4, <- h3, List.getD_eq_getElem?_getD, List.getElem?_eq_getElem hk]; rfl
theorem setTop_row (x : FrD) : (R.setTop x).row ≠ [] /\ (R.setTop x).top = x := ⟨by unfold RunD.setTop; simp, rfl⟩
theorem set_lens (hne : R.row ≠ []) (p v : Int) : (R.set p v).row.length = R.row.length /\ (R.set p v).top.places.length = R.top.places.length /\ (R.set p v).top.cells = R.top.cells := by
 unfold RunD.set
 split
 ·exact ⟨rfl, rfl, rfl⟩
 ·split
  ·exact ⟨rfl, rfl, rfl⟩
  ·refine ⟨?_, ?_, rfl⟩
   ·unfold RunD.setTop
    rcases hr : R.row with _ | ⟨x, r⟩
    ·exact absurd hr hne
    ·rfl
   ·show (R.top.places.set _ _).length = _;rw [List.length_set]
theorem par_lens (hne : R.row ≠ []) (g : GraphD) (args : List Int) : ∀ n, (R.par g args n).row ≠ [] /\ (R.par g args n).row.length = R.row.length /\ (R.par g args n).top.places.length = R.top.places.length /\ (R.par g args n).top.cells.length = R.top.cells.length
 | 0 => ⟨hne, rfl, rfl, rfl⟩
 | n + 1 => by
  obtain ⟨h0, h1, h2, h3⟩ := par_lens hne g args n;obtain ⟨s1, s2, s3⟩ := set_lens (R := R.par g args n) h0 (g.params.getD n 0) (args.getD n 0)
  have s0 : ((R.par g args n).set (g.params.getD n 0) (args.getD n 0)).row ≠ [] := fun e => by rw [e] at s1; exact h0 (List.eq_nil_of_length_eq_zero s1.symm)
  unfold RunD.par;dsimp only
  split
  ·refine ⟨(setTop_row _).1, ?_, by rw [(setTop_row _).2]; exact s2.trans h2, by rw [(setTop_row _).2]; show (List.set _ _ _).length = _; rw [List.length_set, s3]; exact h3⟩;unfold RunD.setTop
   rcases hr : ((R.par g args n).set (g.params.getD n 0) (args.getD n 0)).row with _ | ⟨x, r⟩
   ·exact absurd hr s0
   ·rw [<- h1, <- s1, hr]; rfl
  ·exact ⟨s0, s1.trans h1, s2.trans h2, by rw [s3]; exact h3⟩
theorem setCell_top (hne : R.row ≠ []) (k : Nat) (u : Int) : R.setCell 0 k u = R.setTop { R.top with cells := R.top.cells.set k u } := by
 unfold RunD.setCell RunD.setTop RunD.top
 rcases hr : R.row with _ | ⟨x, r⟩
 ·exact absurd hr hne
 ·rfl
theorem push_any (h : RunAt w base X R rest) {f : Nat} {g : GraphD} {args : List Int} (ok : PushOk X.gs f g args.length) {av : Value} (hA : It.row av 34 1 args.length (u64s args) ∈ rest) (hn : R.row.length < 1048576) (why : Int) :
  Calls Try.prog 14 #[.pointer (some ⟨X.rp, 0, none⟩), .int .i64 (f : Nat), av, .int .i64 why] w fun e w' => RunGot base X rest w (.tuple #[]) (R.push X.gs f args why) e w' := by
 obtain ⟨AA, ac, rfl, _⟩ := own_any (show w.ownsRow base 34 1 av args.length (u64s args) from h.mem hA);rw [ok.len] at hA;obtain ⟨GA, gc, hgv, _, _⟩ := h.gs.slice;have hgs := h.gs;rw [hgv] at hgs;obtain ⟨ad, pv, kv, iv, nv, hAd, hfl, hM⟩ := GraphsAt.at_ hgs ok.at_;subst hAd;obtain ⟨ga, hga⟩ := mn (ad.add (f * 8));rw [hga] at hM;obtain ⟨PA, pc, hpe, _, _, hPr⟩ := hM.params.slice;obtain ⟨KA, kc, hke, _, _, _⟩ := hM.kinds.slice;obtain ⟨IA, ic, hie, _, _, hIr⟩ := hM.init.slice;obtain ⟨NA, nn, nc, _, hne, _⟩ := hM.nodes;subst hpe hke hie hne;obtain ⟨V, hV⟩ := h.run;have hb := hV.blk;have b0 : w.cell? ⟨X.rp, 0, none⟩ = some X.gv := hb.cell 0;rw [hgv] at b0;obtain ⟨F, hF⟩ := mn (X.gs.length);rw [hF] at b0 hfl
 obtain ⟨c0, c1, c2, c3, c4, c5, c6, c7⟩ : _ /\ _ /\ _ /\ _ /\ _ /\ _ /\ _ /\ _ := ⟨hM.c0, hM.c1, hM.c2, hM.c3, hM.c4, hM.c5, hM.c6, hM.c7⟩
 have hfF : (f : Int) < F := by omega
 obtain ⟨iF, hiF, fz0, fz1, fz2⟩ := info_parts infoFrame;obtain ⟨H, Hb, HV, HM, HA, Hgs, Hgv, HF⟩ := hd8 h hb hV hM hA hgs hgv hF;have Hok := Lib.hid ok;clear ok hF hgv hgs hA hM hV hb h;go_enter Try.func14, Try.ntmps14;go_upto_region 1 with (first | (rw [hga]));obtain ⟨PL, hPL⟩ := mn (g.params.length);obtain ⟨KL, hKL⟩ := mn (g.kinds.length);obtain ⟨IL, hIL⟩ := mn (g.init.length)
 obtain ⟨CL, hCL⟩ : ∃ CL : Nat, g.cells = CL := ⟨g.cells.toNat, by have := Hok.out.c; omega⟩
 rw [hPL, hKL, hIL, hCL]
 have hAPL : args.length = PL := by rw [<- hPL]; exact Hok.out.len
 rw [hAPL];obtain ⟨G, hG⟩ := nm (w.heap.size);have h1 := H.out.box 48 #[.slice PA PL pc, .slice KA KL kc, .int .i64 CL, .slice IA IL ic, .bool g.result, .int .i64 g.keep, .slice NA nn nc, .int .i64 g.entry];have hb1 := (Below.refl base w).alloc H.out.size (.cells #[.slice PA PL pc, .slice KA KL kc, .int .i64 CL, .slice IA IL ic, .bool g.result, .int .i64 g.keep, .slice NA nn nc, .int .i64 g.entry] 48);obtain ⟨W1, hW1⟩ := nm (w.alloc (.cells #[.slice PA PL pc, .slice KA KL kc, .int .i64 CL, .slice IA IL ic, .bool g.result, .int .i64 g.keep, .slice NA nn nc, .int .i64 g.entry] 48));rw [<- hW1] at h1 hb1 ⊢;rw [<- hG] at h1 ⊢;clear c0 c1 c2 c3 c4 c5 c6 c7 b0;obtain ⟨V1, hV1⟩ := h1.run;have hbk := hV1.blk;have p3 : W1.cell? ⟨X.rp, 3, none⟩ = some V1.rv := hbk.cell 3;obtain ⟨RA, rc, hrv, _⟩ := own_any hV1.rrow;rw [hrv] at p3;have hGB : Blk W1 G 48 #[.slice PA PL pc, .slice KA KL kc, .int .i64 CL, .slice IA IL ic, .bool g.result, .int .i64 g.keep, .slice NA nn nc, .int .i64 g.entry] := (h1.mem List.mem_cons_self).2;have q0 := bc hGB 0;have q1 := bc hGB 1;have q2 := bc hGB 2;have q3 := bc hGB 3;have q7 := bc hGB 7;have lrp := hbk.lt;have lG := hGB.lt;have hs1 := h1.size;obtain ⟨n, hnn⟩ := mn (R.row.length);rw [hnn] at p3 hn;have hmkK : ∀ W : World, (Instr.makeSlice 25 (.int .i64 (KL : Int)) (.int .i64 (KL : Int))).run Try.prog W = .ok (.slice (some ⟨W.heap.size, 0, none⟩) KL KL) (W.alloc (.cells (u64Z KL) 34)) := make_u64 KL (by have := Hok.out.k; omega);have hmkC : ∀ W : World, (Instr.makeSlice 25 (.int .i64 (CL : Int)) (.int .i64 (CL : Int))).run Try.prog W = .ok (.slice (some ⟨W.heap.size, 0, none⟩) CL CL) (W.alloc (.cells (u64Z CL) 34)) := make_u64 CL (by have := Hok.out.c; omega)
 have hKb : KL <= 1024 := by have := Hok.out.k; omega
 have hCb : CL <= 64 := by have := Hok.out.c; omega
 have hA1 := HA.out;rw [hPL] at hA1;have HAPL := Lib.hid hAPL;clear hAPL;obtain ⟨H1, Hb1, HW1, HG, HV1, Hbk, Hrv, HGB⟩ := hd8 h1 hb1 hW1 hG hV1 hbk hrv hGB;obtain ⟨HPL, HKL, HIL, HCL, Hnn, HA1, HPr, HIr⟩ := hd8 hPL hKL hIL hCL hnn hA1 hPr hIr;clear hIr hPr hA1 hnn hCL hIL hKL hPL hGB hrv hbk hV1 hG hW1 hb1 h1;obtain ⟨R1, hR1⟩ := nm ({ R with row := ⟨f, g.entry, why, List.replicate KL 0, List.replicate CL 0, [], false, 0, []⟩ :: R.row } : RunD);obtain ⟨rest1, hrest1⟩ := nm (It.blk G 48 #[.slice PA PL pc, .slice KA KL kc, .int .i64 CL, .slice IA IL ic, .bool g.result, .int .i64 g.keep, .slice NA nn nc, .int .i64 g.entry] :: rest)
 have hS : ∀ W : World, (∀ p : Addr, p.block < W1.heap.size -> W.cell? p = W1.cell? p) -> W.cell? ⟨X.rp, 3, none⟩ = some (.slice RA n rc) /\ W.cell? ⟨G, 1, none⟩ = some (.slice KA KL kc) /\ W.cell? ⟨G, 2, none⟩ = some (.int .i64 CL) /\ W.cell? ⟨G, 7, none⟩ = some (.int .i64 g.entry) := fun W hW => ⟨(hW ⟨X.rp, 3, none⟩ lrp).trans p3, (hW ⟨G, 1, none⟩ lG).trans q1, (hW ⟨G, 2, none⟩ lG).trans q2, (hW ⟨G, 7, none⟩ lG).trans q7⟩
 obtain ⟨HS, HR1, Hrest1⟩ := hd3 hS hR1 hrest1;clear hrest1 hR1 hS
 go_cut [] from 19 to 39 (fun wx => RunAt wx base X R1 rest1 /\ Below base w wx)
 case first =>
  refine wp_region_late (S := fun W => W.cell? ⟨X.rp, 3, none⟩ = some (.slice RA n rc) /\ W.cell? ⟨G, 1, none⟩ = some (.slice KA KL kc) /\ W.cell? ⟨G, 2, none⟩ = some (.int .i64 CL) /\ W.cell? ⟨G, 7, none⟩ = some (.int .i64 g.entry)) #[false, false, false, false, false, false, false, false, false, false, false, false, false, false, false, false, false, false, false, false, false, true] (by kernel_rfl) ⟨p3, q1, q2, q7⟩ (fun hHeld => ?_);refine wpAnyL_tk 0 ?_;refine wpAnyL_tk 1 ?_;refine wpAnyL_tk 2 ?_;refine wpAnyL_tk 3 ?_;refine wpAnyL_tk 4 ?_;refine wpAnyL_tk 5 ?_;refine wpAnyL_tk 6 ?_;refine wpAnyL_tk 7 ?_;refine wpAnyL_tk 8 ?_;refine wpAnyL_tk 9 ?_;refine wpAnyL_tk 10 ?_;refine wpAnyL_tk 11 ?_;refine wpAnyL_tk 13 ?_;refine wpAnyL_tk 14 ?_;refine wpAnyL_ready (rs := [12, 15]) (by kernel_rfl) (by simp) ?_;refine AllReadyL.cons rfl (fun K hK => ?_) (AllReadyL.cons rfl (fun K hK => ?_) AllReadyL.nil)
  ·go_simp;refine hK.out _ _ (HS.out _ fun p hp => World.cell?_alloc_lt W1 _ p hp) (fun hHeld2 => ?_);clear hK K hHeld;refine lay ?_;refine wpAnyL_rd 15 (fun K hK => ?_);go_simp;refine hK.out _ _ (HS.out _ fun p hp => (World.cell?_alloc_lt _ _ p (by simp; omega)).trans (World.cell?_alloc_lt W1 _ p hp)) (fun hHeld3 => ?_);clear hK K hHeld2;refine lay ?_
   have hz2 : (W1.alloc (.cells (u64Z KL) 34)).heap.size = W1.heap.size + 1 := by simp
   have hi1 := HV1.out.its.new (World.grownBy_alloc W1 (.cells (u64Z KL) 34) none) (x := .row (.slice (some ⟨W1.heap.size, 0, none⟩) KL KL) 34 1 (List.replicate KL (0 : Int)).length (u64s (List.replicate KL 0))) (own_made W1 base KL hs1 (by omega)) (fun b e => by have e : some W1.heap.size = some b := e; injection e with e; omega);have hi2 := hi1.new (World.grownBy_alloc _ (.cells (u64Z CL) 34) none) (x := .row (.slice (some ⟨(W1.alloc (.cells (u64Z KL) 34)).heap.size, 0, none⟩) CL CL) 34 1 (List.replicate CL (0 : Int)).length (u64s (List.replicate CL 0))) (own_made _ base CL (by rw [hz2]; omega) (by omega)) (fun b e => by have e : some (W1.alloc (.cells (u64Z KL) 34)).heap.size = some b := e; injection e with e; omega);rw [hz2] at hi2;obtain ⟨G1, hG1⟩ := mn (W1.heap.size);rw [hG1] at hi2 ⊢;have hi3 := hi2.drew.perm (List.Perm.swap _ _ _);have hb3 := ((Hb1.out.alloc hs1 (.cells (u64Z KL) 34)).alloc (by rw [hz2]; omega) (.cells (u64Z CL) 34)).drew
   have hz3 : ((W1.alloc (.cells (u64Z KL) 34)).alloc (.cells (u64Z CL) 34)).drew.heap.size = G1 + 2 := by simp [World.drew, hG1]
   obtain ⟨W3, hW3⟩ := nm (((W1.alloc (.cells (u64Z KL) 34)).alloc (.cells (u64Z CL) 34)).drew);rw [<- hW3] at hHeld3 hi3 hb3 hz3 ⊢
   have hV3 : RunIn W3 base X R V1 rest1 := ⟨HV1.out.tok, HV1.out.lens, by rw [Hrest1.out]; exact hi3.tail.tail⟩
   rw [<- Hrest1.out] at hi3;clear hi1 hi2 hz2;obtain ⟨Hi3, Hb3, Hz3, HV3, HW3⟩ := hd5 hi3 hb3 hz3 hV3 hW3;clear hW3 hV3 hz3 hb3 hi3;refine wpAnyL_tk 16 ?_;refine wpAnyL_rd 17 (fun K hK => ?_);go_simp;obtain ⟨W4, hW4⟩ := nm (W3.alloc (.cells #[.int .i64 (f : Nat), .int .i64 g.entry, .int .i64 why, .slice (some ⟨G1, 0, none⟩) KL KL, .slice (some ⟨(G1 + 1), 0, none⟩) CL CL, .slice none 0 0, .bool false, .int .u64 0, .slice none 0 0] 82));have hi4 := Hi3.out.alloc (.cells #[.int .i64 (f : Nat), .int .i64 g.entry, .int .i64 why, .slice (some ⟨G1, 0, none⟩) KL KL, .slice (some ⟨(G1 + 1), 0, none⟩) CL CL, .slice none 0 0, .bool false, .int .u64 0, .slice none 0 0] 82);have hV4 := HV3.out.alloc (.cells #[.int .i64 (f : Nat), .int .i64 g.entry, .int .i64 why, .slice (some ⟨G1, 0, none⟩) KL KL, .slice (some ⟨(G1 + 1), 0, none⟩) CL CL, .slice none 0 0, .bool false, .int .u64 0, .slice none 0 0] 82);have hb4 := Hb3.out.alloc HV3.out.size_.2 (.cells #[.int .i64 (f : Nat), .int .i64 g.entry, .int .i64 why, .slice (some ⟨G1, 0, none⟩) KL KL, .slice (some ⟨(G1 + 1), 0, none⟩) CL CL, .slice none 0 0, .bool false, .int .u64 0, .slice none 0 0] 82)
   have hr4 : Reads W4 (W3.heap.size + 1) 9 (some ⟨W3.heap.size, 0, none⟩) 1 [.int .i64 (f : Nat), .int .i64 g.entry, .int .i64 why, .slice (some ⟨G1, 0, none⟩) KL KL, .slice (some ⟨(G1 + 1), 0, none⟩) CL CL, .slice none 0 0, .bool false, .int .u64 0, .slice none 0 0] := by rw [hW4]; exact Reads.newS _ rfl _ _ _ _ _ rfl rfl
   rw [<- hW4] at hi4 hV4 hb4 ⊢
   have hz4 : W4.heap.size = G1 + 3 := by rw [hW4]; simp; have := Hz3.out; omega
   have hg4 : ∀ p : Addr, p.block < G1 + 2 -> W4.cell? p = W3.cell? p := fun p hp => by rw [hW4]; exact World.cell?_alloc_lt _ _ p (by have := Hz3.out; omega)
   have hG1G : G < G1 /\ X.rp < G1 := by omega
   refine hK.out _ _ ⟨(hg4 ⟨X.rp, 3, none⟩ (by show X.rp < _; omega)).trans hHeld3.1, (hg4 ⟨G, 1, none⟩ (by show G < _; omega)).trans hHeld3.2.1, (hg4 ⟨G, 2, none⟩ (by show G < _; omega)).trans hHeld3.2.2.1, (hg4 ⟨G, 7, none⟩ (by show G < _; omega)).trans hHeld3.2.2.2⟩ (fun hHeld4 => ?_);clear hK K hHeld3;obtain ⟨HW4, Hi4, HV4, Hb4, Hr4, Hz4, Hg4⟩ := hd7 hW4 hi4 hV4 hb4 hr4 hz4 hg4;clear hg4 hz4 hr4 hb4 hV4 hi4 hW4;refine lay ?_;refine wpAnyL_rd 18 (fun K hK => ?_);refine step_append_any _ rfl (.tmp 23) (.tmp 36) _ rfl base 82 iF _ 9 136 Try.underlying37 hiF fz0 fz1 fz2 rfl (by omega) V1.rv n (rowCells R.row V1.fv) (by rw [Hrv.out, Hnn.out]; rfl) (by rw [<- Hnn.out]; exact HV4.out.rrow) (W3.heap.size + 1) (some ⟨W3.heap.size, 0, none⟩) 1 1 [.int .i64 (f : Nat), .int .i64 g.entry, .int .i64 why, .slice (some ⟨G1, 0, none⟩) KL KL, .slice (some ⟨(G1 + 1), 0, none⟩) CL CL, .slice none 0 0, .bool false, .int .u64 0, .slice none 0 0] rfl Hr4.out ?c1 ?c2 ?c3 ?c4 ?_
   case c1 => intro u hu; simp only [List.mem_cons, List.not_mem_nil, or_false] at hu; rcases hu with rfl | rfl | rfl | rfl | rfl | rfl | rfl | rfl | rfl <;> rfl
   case c2 => simp only [maxLen]; omega
   case c3 => omega
   case c4 => exact HV4.out.size_.2
   intro v5 w5 hown5 hg5 hat5;obtain ⟨hne1, hne2⟩ := HV4.out.rv_ne
   have hat6 : v5.ownBlock = V1.rv.ownBlock ∨ ∀ b, v5.ownBlock = some b -> W4.heap.size <= b := by
    rcases hat5 with e | e
    ·exact .inl e
    ·exact .inr fun b hb => by rw [e] at hb; injection hb with hb; omega
   obtain ⟨A5, c5, hv5, _⟩ := own_any hown5;have hfin := RunIn.pushSet (f := f) (at_ := g.entry) (why := why) (L1 := List.replicate KL 0) (L2 := List.replicate CL 0) HV4.out Hi4.out (by rw [Hnn.out]; exact hown5) hg5 hat6;have hb5 := (Hb4.out.grown hg5 HV4.out.size_.2 (fun b e => (HV4.out.rrow.lt b e).1)).setCell (p := ⟨X.rp, 3, none⟩) HV4.out.size_.1 v5;have p35 : w5.cell? ⟨X.rp, 3, none⟩ = some (.slice RA n rc) := (hg5.cell_far ⟨X.rp, 3, none⟩ (by show X.rp < _; have := Hz4.out; omega) hne1).trans hHeld4.1;have hGm := hne2 _ (by rw [Hrest1.out]; exact List.mem_cons_self) G rfl
   have hgG : ∀ i, w5.cell? ⟨G, i, none⟩ = W4.cell? ⟨G, i, none⟩ := fun i => hg5.cell_far ⟨G, i, none⟩ (by show G < _; have := Hz4.out; omega) hGm
   have p35f : w5.frozen? ⟨X.rp, 3, none⟩ = false := (hg5.frozen_far ⟨X.rp, 3, none⟩ (by show X.rp < _; have := Hz4.out; omega) hne1).trans (HV4.out.blk.frozen 3);rw [hv5] at hfin hb5 ⊢;refine hK.out _ _ ⟨p35, (hgG 1).trans hHeld4.2.1, (hgG 2).trans hHeld4.2.2.1, (hgG 7).trans hHeld4.2.2.2⟩ (fun hHeld5 => ?_);clear hK K hHeld4;obtain ⟨Hfin, Hb5, Hown5, Hg5, Hat5, Hat6, Hne1, Hne2⟩ := hd8 hfin hb5 hown5 hg5 hat5 hat6 hne1 hne2;obtain ⟨HgG, HGm, Hv5⟩ := hd3 hgG hGm hv5;clear hv5 hGm hgG hne2 hne1 hat6 hat5 hg5 hown5 hb5 hfin;refine lay ?_;refine wpAnyL_tk 19 ?_;refine wpAnyL_tk 20 ?_;refine wpAnyL_ls 21 (fun K hK => ?_);go_simp;refine hK.out _ _ ?_;clear hK K;refine lay ?_;refine wpAnyL_done (by kernel_rfl) ?_ _;go_wp2_with fail;go_meet
   have hfa : RunAt (w5.setCell ⟨X.rp, 3, none⟩ (.slice A5 (n + 1) c5)) base X R1 rest1 := by
    rw [HR1.out];exact ⟨H.out.le, H.out.gs.below (Hb5.out.mono H.out.le), _, Hfin.out⟩
   first
    | exact ⟨hfa, Hb5.out⟩
    | exact ⟨hfa.drew, Hb5.out.drew⟩
  ·go_simp;refine hK.out _ _ (HS.out _ fun p hp => World.cell?_alloc_lt W1 _ p hp) (fun hHeld2 => ?_);clear hK K hHeld;refine lay ?_;refine wpAnyL_rd 12 (fun K hK => ?_);go_simp;refine hK.out _ _ (HS.out _ fun p hp => (World.cell?_alloc_lt _ _ p (by simp; omega)).trans (World.cell?_alloc_lt W1 _ p hp)) (fun hHeld3 => ?_);clear hK K hHeld2;refine lay ?_
   have hz2 : (W1.alloc (.cells (u64Z CL) 34)).heap.size = W1.heap.size + 1 := by simp
   have hi1 := HV1.out.its.new (World.grownBy_alloc W1 (.cells (u64Z CL) 34) none) (x := .row (.slice (some ⟨W1.heap.size, 0, none⟩) CL CL) 34 1 (List.replicate CL (0 : Int)).length (u64s (List.replicate CL 0))) (own_made W1 base CL hs1 (by omega)) (fun b e => by have e : some W1.heap.size = some b := e; injection e with e; omega);have hi2 := hi1.new (World.grownBy_alloc _ (.cells (u64Z KL) 34) none) (x := .row (.slice (some ⟨(W1.alloc (.cells (u64Z CL) 34)).heap.size, 0, none⟩) KL KL) 34 1 (List.replicate KL (0 : Int)).length (u64s (List.replicate KL 0))) (own_made _ base KL (by rw [hz2]; omega) (by omega)) (fun b e => by have e : some (W1.alloc (.cells (u64Z CL) 34)).heap.size = some b := e; injection e with e; omega);rw [hz2] at hi2;obtain ⟨G1, hG1⟩ := mn (W1.heap.size);rw [hG1] at hi2 ⊢;have hi3 := hi2.drew;have hb3 := ((Hb1.out.alloc hs1 (.cells (u64Z CL) 34)).alloc (by rw [hz2]; omega) (.cells (u64Z KL) 34)).drew
   have hz3 : ((W1.alloc (.cells (u64Z CL) 34)).alloc (.cells (u64Z KL) 34)).drew.heap.size = G1 + 2 := by simp [World.drew, hG1]
   obtain ⟨W3, hW3⟩ := nm (((W1.alloc (.cells (u64Z CL) 34)).alloc (.cells (u64Z KL) 34)).drew);rw [<- hW3] at hHeld3 hi3 hb3 hz3 ⊢
   have hV3 : RunIn W3 base X R V1 rest1 := ⟨HV1.out.tok, HV1.out.lens, by rw [Hrest1.out]; exact hi3.tail.tail⟩
   rw [<- Hrest1.out] at hi3;clear hi1 hi2 hz2;obtain ⟨Hi3, Hb3, Hz3, HV3, HW3⟩ := hd5 hi3 hb3 hz3 hV3 hW3;clear hW3 hV3 hz3 hb3 hi3;refine wpAnyL_tk 16 ?_;refine wpAnyL_rd 17 (fun K hK => ?_);go_simp;obtain ⟨W4, hW4⟩ := nm (W3.alloc (.cells #[.int .i64 (f : Nat), .int .i64 g.entry, .int .i64 why, .slice (some ⟨(G1 + 1), 0, none⟩) KL KL, .slice (some ⟨G1, 0, none⟩) CL CL, .slice none 0 0, .bool false, .int .u64 0, .slice none 0 0] 82));have hi4 := Hi3.out.alloc (.cells #[.int .i64 (f : Nat), .int .i64 g.entry, .int .i64 why, .slice (some ⟨(G1 + 1), 0, none⟩) KL KL, .slice (some ⟨G1, 0, none⟩) CL CL, .slice none 0 0, .bool false, .int .u64 0, .slice none 0 0] 82);have hV4 := HV3.out.alloc (.cells #[.int .i64 (f : Nat), .int .i64 g.entry, .int .i64 why, .slice (some ⟨(G1 + 1), 0, none⟩) KL KL, .slice (some ⟨G1, 0, none⟩) CL CL, .slice none 0 0, .bool false, .int .u64 0, .slice none 0 0] 82);have hb4 := Hb3.out.alloc HV3.out.size_.2 (.cells #[.int .i64 (f : Nat), .int .i64 g.entry, .int .i64 why, .slice (some ⟨(G1 + 1), 0, none⟩) KL KL, .slice (some ⟨G1, 0, none⟩) CL CL, .slice none 0 0, .bool false, .int .u64 0, .slice none 0 0] 82)
   have hr4 : Reads W4 (W3.heap.size + 1) 9 (some ⟨W3.heap.size, 0, none⟩) 1 [.int .i64 (f : Nat), .int .i64 g.entry, .int .i64 why, .slice (some ⟨(G1 + 1), 0, none⟩) KL KL, .slice (some ⟨G1, 0, none⟩) CL CL, .slice none 0 0, .bool false, .int .u64 0, .slice none 0 0] := by rw [hW4]; exact Reads.newS _ rfl _ _ _ _ _ rfl rfl
   rw [<- hW4] at hi4 hV4 hb4 ⊢
   have hz4 : W4.heap.size = G1 + 3 := by rw [hW4]; simp; have := Hz3.out; omega
   have hg4 : ∀ p : Addr, p.block < G1 + 2 -> W4.cell? p = W3.cell? p := fun p hp => by rw [hW4]; exact World.cell?_alloc_lt _ _ p (by have := Hz3.out; omega)
   have hG1G : G < G1 /\ X.rp < G1 := by omega
   refine hK.out _ _ ⟨(hg4 ⟨X.rp, 3, none⟩ (by show X.rp < _; omega)).trans hHeld3.1, (hg4 ⟨G, 1, none⟩ (by show G < _; omega)).trans hHeld3.2.1, (hg4 ⟨G, 2, none⟩ (by show G < _; omega)).trans hHeld3.2.2.1, (hg4 ⟨G, 7, none⟩ (by show G < _; omega)).trans hHeld3.2.2.2⟩ (fun hHeld4 => ?_);clear hK K hHeld3;obtain ⟨HW4, Hi4, HV4, Hb4, Hr4, Hz4, Hg4⟩ := hd7 hW4 hi4 hV4 hb4 hr4 hz4 hg4;clear hg4 hz4 hr4 hb4 hV4 hi4 hW4;refine lay ?_;refine wpAnyL_rd 18 (fun K hK => ?_);refine step_append_any _ rfl (.tmp 23) (.tmp 36) _ rfl base 82 iF _ 9 136 Try.underlying37 hiF fz0 fz1 fz2 rfl (by omega) V1.rv n (rowCells R.row V1.fv) (by rw [Hrv.out, Hnn.out]; rfl) (by rw [<- Hnn.out]; exact HV4.out.rrow) (W3.heap.size + 1) (some ⟨W3.heap.size, 0, none⟩) 1 1 [.int .i64 (f : Nat), .int .i64 g.entry, .int .i64 why, .slice (some ⟨(G1 + 1), 0, none⟩) KL KL, .slice (some ⟨G1, 0, none⟩) CL CL, .slice none 0 0, .bool false, .int .u64 0, .slice none 0 0] rfl Hr4.out ?c1 ?c2 ?c3 ?c4 ?_
   case c1 => intro u hu; simp only [List.mem_cons, List.not_mem_nil, or_false] at hu; rcases hu with rfl | rfl | rfl | rfl | rfl | rfl | rfl | rfl | rfl <;> rfl
   case c2 => simp only [maxLen]; omega
   case c3 => omega
   case c4 => exact HV4.out.size_.2
   intro v5 w5 hown5 hg5 hat5;obtain ⟨hne1, hne2⟩ := HV4.out.rv_ne
   have hat6 : v5.ownBlock = V1.rv.ownBlock ∨ ∀ b, v5.ownBlock = some b -> W4.heap.size <= b := by
    rcases hat5 with e | e
    ·exact .inl e
    ·exact .inr fun b hb => by rw [e] at hb; injection hb with hb; omega
   obtain ⟨A5, c5, hv5, _⟩ := own_any hown5;have hfin := RunIn.pushSet (f := f) (at_ := g.entry) (why := why) (L1 := List.replicate KL 0) (L2 := List.replicate CL 0) HV4.out Hi4.out (by rw [Hnn.out]; exact hown5) hg5 hat6;have hb5 := (Hb4.out.grown hg5 HV4.out.size_.2 (fun b e => (HV4.out.rrow.lt b e).1)).setCell (p := ⟨X.rp, 3, none⟩) HV4.out.size_.1 v5;have p35 : w5.cell? ⟨X.rp, 3, none⟩ = some (.slice RA n rc) := (hg5.cell_far ⟨X.rp, 3, none⟩ (by show X.rp < _; have := Hz4.out; omega) hne1).trans hHeld4.1;have hGm := hne2 _ (by rw [Hrest1.out]; exact List.mem_cons_self) G rfl
   have hgG : ∀ i, w5.cell? ⟨G, i, none⟩ = W4.cell? ⟨G, i, none⟩ := fun i => hg5.cell_far ⟨G, i, none⟩ (by show G < _; have := Hz4.out; omega) hGm
   have p35f : w5.frozen? ⟨X.rp, 3, none⟩ = false := (hg5.frozen_far ⟨X.rp, 3, none⟩ (by show X.rp < _; have := Hz4.out; omega) hne1).trans (HV4.out.blk.frozen 3);rw [hv5] at hfin hb5 ⊢;refine hK.out _ _ ⟨p35, (hgG 1).trans hHeld4.2.1, (hgG 2).trans hHeld4.2.2.1, (hgG 7).trans hHeld4.2.2.2⟩ (fun hHeld5 => ?_);clear hK K hHeld4;obtain ⟨Hfin, Hb5, Hown5, Hg5, Hat5, Hat6, Hne1, Hne2⟩ := hd8 hfin hb5 hown5 hg5 hat5 hat6 hne1 hne2;obtain ⟨HgG, HGm, Hv5⟩ := hd3 hgG hGm hv5;clear hv5 hGm hgG hne2 hne1 hat6 hat5 hg5 hown5 hb5 hfin;refine lay ?_;refine wpAnyL_tk 19 ?_;refine wpAnyL_tk 20 ?_;refine wpAnyL_ls 21 (fun K hK => ?_);go_simp;refine hK.out _ _ ?_;clear hK K;refine lay ?_;refine wpAnyL_done (by kernel_rfl) ?_ _;go_wp2_with fail;go_meet
   have hfa : RunAt (w5.setCell ⟨X.rp, 3, none⟩ (.slice A5 (n + 1) c5)) base X R1 rest1 := by
    rw [HR1.out];exact ⟨H.out.le, H.out.gs.below (Hb5.out.mono H.out.le), _, Hfin.out⟩
   first
    | exact ⟨hfa, Hb5.out⟩
    | exact ⟨hfa.drew, Hb5.out.drew⟩
 case rest =>
  obtain ⟨h2, hb2⟩ := hcut;obtain ⟨V2, hV2⟩ := h2.run;have hk2 := hV2.blk;obtain ⟨RA2, rc2, hrv2, _⟩ := own_any hV2.rrow
  have r3 : wc.cell? ⟨X.rp, 3, none⟩ = some (.slice RA2 (n + 1) rc2) := by
   have e : R1.row.length = n + 1 := by rw [HR1.out, <- Hnn.out]; rfl
   have := hk2.cell 3;rw [this, <- e, <- hrv2]; rfl
  have r10 : wc.cell? ⟨X.rp, 10, none⟩ = some (.int .i64 R.depth) := by
   have := hk2.cell 10;rw [this, HR1.out]; rfl
  have r10f := hk2.frozen 10;obtain ⟨dp, hdp⟩ := mn (R.depth);rw [hdp] at r10;obtain ⟨R2, hR2⟩ := nm ({ R1 with depth := max R.depth (R.row.length + 1) } : RunD);clear p3 q0 q1 q2 q3 q7;obtain ⟨H2, Hb2, HV2, Hk2, Hrv2, Hdp, HR2⟩ := hd7 h2 hb2 hV2 hk2 hrv2 hdp hR2;clear hR2 hdp hrv2 hk2 hV2 hb2 h2;go_upto_region 2 with fail
  go_quiet (fail)
  go_upto_if 49 with fail
  go_cut [] from 50 to 57 (fun wx => RunAt wx base X R2 rest1 /\ Below base w wx)
  case first =>
   by_cases hd : dp < (n : Int) + 1
   ·have hR2e : R2 = { R1 with depth := (n : Int) + 1 } := by
     rw [HR2.out, Hdp.out, Hnn.out, Int.max_eq_right (by omega)]
    have hV3 := HV2.out.setF (R' := R2) 10 (.int .i64 ((n : Int) + 1)) (by rw [hR2e]; rfl) (by rw [hR2e]; exact ⟨rfl, rfl, rfl, rfl, rfl⟩);have hb3 := Hb2.out.setCell (p := ⟨X.rp, 10, none⟩) HV2.out.size_.1 (.int .i64 ((n : Int) + 1))
    have h3 : RunAt (wc.setCell ⟨X.rp, 10, none⟩ (.int .i64 ((n : Int) + 1))) base X R2 rest1 := ⟨H.out.le, H.out.gs.below (hb3.mono H.out.le), _, hV3⟩
    obtain ⟨HR2e, HV3, Hb3, H3⟩ := hd4 hR2e hV3 hb3 h3;clear h3 hb3 hV3 hR2e;go_wp2_with fail;go_meet
    first
     | exact ⟨H3.out, Hb3.out⟩
     | exact ⟨H3.out.drewN _, below_drewN Hb3.out _⟩
   ·have hR2e : R2 = R1 := by
     rw [HR2.out, Hdp.out, Hnn.out, Int.max_eq_left (by omega), <- Hdp.out, HR1.out]
    have HR2e := Lib.hid hR2e;clear hR2e;go_wp2_with fail;go_meet;rw [HR2e.out]
    first
     | exact ⟨H2.out, Hb2.out⟩
     | exact ⟨H2.out.drewN _, below_drewN Hb2.out _⟩
  case rest =>
   obtain ⟨h3, hb3⟩ := hcut;clear r3 r10 r10f;have hGB3 : Blk wc G 48 #[.slice PA PL pc, .slice KA KL kc, .int .i64 CL, .slice IA IL ic, .bool g.result, .int .i64 g.keep, .slice NA nn nc, .int .i64 g.entry] := (h3.mem (x := .blk G 48 #[.slice PA PL pc, .slice KA KL kc, .int .i64 CL, .slice IA IL ic, .bool g.result, .int .i64 g.keep, .slice NA nn nc, .int .i64 g.entry]) (by rw [Hrest1.out]; exact List.mem_cons_self)).2;have q0 := bc hGB3 0;obtain ⟨H3, Hb3, HGB3⟩ := hd3 h3 hb3 hGB3;clear hGB3 hb3 h3;go_upto_region 5 with fail;clear q0
   have hR2row : R2.row ≠ [] /\ R2.row.length = n + 1 /\ R2.top.places.length = KL /\ R2.top.cells.length = CL := by
    rw [HR2.out, HR1.out];exact ⟨by simp, by rw [<- Hnn.out]; rfl, List.length_replicate, List.length_replicate⟩
   have hPM := Hok.out.par;have hIM := Hok.out.init;obtain ⟨HR2row, HPM, HIM⟩ := hd3 hR2row hPM hIM;clear hIM hPM hR2row
   go_loopg [61] PL (fun gk iv wr => ∃ k : Nat, k + gk = PL /\ iv = .int .i64 k /\ Hid (RunAt wr base X (R2.par g args k) rest1) /\ Hid (Below base w wr))
   case atStart => exact ⟨0, by omega, rfl, H3, Hb3⟩
   case round =>
    as_aux_lemma =>
     obtain ⟨k, hk, rfl, hRk, hbk⟩ := hrel
     by_cases hkP : k < PL
     ·have hkI : (k : Int) < PL := by omega
      have hPL4 : PL <= 4 := by rw [<- HPL.out]; exact Hok.out.n
      obtain ⟨p, hp⟩ := mn (g.params.getD k 0);obtain ⟨a, ha⟩ := mn (args.getD k 0);obtain ⟨c, hc⟩ := mn (g.init.getD k 0)
      have hpm : 0 <= p /\ p < KL := by
       rw [<- HKL.out, <- hp, List.getD_eq_getElem?_getD, List.getElem?_eq_getElem (by rw [HPL.out]; exact hkP)];exact HPM.out _ (List.getElem_mem _)
      have hil : k < g.init.length := by have := HIM.out.1; have := HPL.out; omega
      have hcm : c < CL := by
       rw [<- HCL.out, <- hc, List.getD_eq_getElem?_getD, List.getElem?_eq_getElem hil];exact HIM.out.2 _ (List.getElem_mem _)
      have hbX := hbk.out.mono H.out.le;obtain ⟨pad, rfl, hpl, hpc⟩ := ints_at (HPr.out.below hbX) (k := k) (by rw [HPL.out]; exact hkP);obtain ⟨iad, rfl, hil2, hic⟩ := ints_at (HIr.out.below hbX) hil;have hao : wr.ownsRow base 34 1 (.slice AA PL ac) PL (u64s args) := hRk.out.mem (x := .row (.slice AA PL ac) 34 1 PL (u64s args)) (by rw [Hrest1.out]; exact List.mem_cons_of_mem _ HA1.out);obtain ⟨_, ag, rfl, _, _, hacell⟩ := own_row hao (by omega);have hac := hacell k _ (u64s_get args k (by rw [HAPL.out]; exact hkP));rw [addr_zero] at hac;rw [hp] at hpc;rw [hc] at hic;rw [ha] at hac;obtain ⟨t0, t1, t2, t3⟩ := par_lens HR2row.out.1 g args k;rw [HR2row.out.2.1] at t1;rw [HR2row.out.2.2.1] at t2;rw [HR2row.out.2.2.2] at t3;have hset := set_any hRk.out t0 (p := p) (.inr (by rw [t2]; omega)) (by rw [t1]; omega) a;obtain ⟨Hp, Ha, Hc, HbX, Hao, Hset, Ht1, Ht2⟩ := hd8 hp ha hc hbX hao hset t1 t2;have Ht3 := Lib.hid t3;clear t3 t2 t1 hset hao hbX hc ha hp;go_wp2_with fail;refine Hset.out.mono ?_;rintro e w3 ⟨rfl, h3, hb3⟩;obtain ⟨R4, hR4⟩ := mn ((R2.par g args k).set p a);obtain ⟨s1, s2, s3⟩ := set_lens (R := R2.par g args k) t0 p a;rw [hR4] at h3 s1 s2 s3;rw [Ht1.out] at s1
      have s4 : R4.top.cells.length = CL := by rw [s3]; exact Ht3.out
      have hR4r : R4.row ≠ [] := fun e => by rw [e] at s1; cases s1
      have hb4 := hbk.out.trans hb3;have hGB4 : Blk w3 G 48 #[.slice (some pad) PL pc, .slice KA KL kc, .int .i64 CL, .slice (some iad) IL ic, .bool g.result, .int .i64 g.keep, .slice NA nn nc, .int .i64 g.entry] := (h3.mem (x := .blk G 48 #[.slice (some pad) PL pc, .slice KA KL kc, .int .i64 CL, .slice (some iad) IL ic, .bool g.result, .int .i64 g.keep, .slice NA nn nc, .int .i64 g.entry]) (by rw [Hrest1.out]; exact List.mem_cons_self)).2;have q3 := bc hGB4 3;clear hpc hic hac;have hb4X := hb4.mono H.out.le;obtain ⟨_, e1, _, hic⟩ := ints_at (HIr.out.below hb4X) hil;injection e1 with e1;subst e1;rw [Hc.out] at hic
      have hilI : (k : Int) < IL := by have := HIL.out; omega
      obtain ⟨H3, HR4, Hs1, Hs2, Hs3, Hs4, Hb4, Hb4X⟩ := hd8 h3 hR4 s1 s2 s3 s4 hb4 hb4X;have HGB4 := Lib.hid hGB4;clear hGB4 hb4X hb4 s4 s3 s2 s1 hR4 h3;go_upto_region 8 with fail
      by_cases hc0 : 0 <= c
      ·obtain ⟨m, rfl⟩ : ∃ m : Nat, c = m := ⟨c.toNat, by omega⟩
       obtain ⟨V4, hV4⟩ := H3.out.run;obtain ⟨_, _, _, hr4, _⟩ := hV4.top_eq hR4r;obtain ⟨g4, c4, v4, hrv4, hcv4, _, hown4, _, hset4⟩ := hV4.frame (i := 0) (x := R4.top) (by rw [hr4]; rfl);rw [Hs1.out] at hrv4 hcv4
       replace hcv4 : w3.cell? ⟨g4, n * 9 + 4, none⟩ = some v4.cv := by simpa using hcv4
       obtain ⟨A4, cc, hcve, _⟩ := own_any hown4;rw [hcve] at hown4 hcv4;obtain ⟨_, q, rfl, _, _, hcl⟩ := own_row hown4 (by have := Hs4.out; omega);have hqm := hcl m _ (u64s_get R4.top.cells m (by have := Hs4.out; omega));rw [addr_zero] at hqm;have hqf := World.ownsRow.frozenAt hown4 m;have hV5 := hset4 m a q cc (by have := Hs4.out; omega) hcve;rw [setCell_top hR4r] at hV5;have hb5 := Hb4.out.setCell (p := ⟨q, m, none⟩) (own_le hown4).1 (.int .u64 a)
       have hpe : R2.par g args (k + 1) = R4.setTop { R4.top with cells := R4.top.cells.set m a } := by
        show (if 0 <= g.init.getD k 0 then _ else _) = _;rw [if_pos (by rw [Hc.out]; exact hc0), Hc.out, Hp.out, Ha.out, HR4.out, Int.toNat_natCast]
       have h5 : RunAt (w3.setCell ⟨q, m, none⟩ (.int .u64 a)) base X (R2.par g args (k + 1)) rest1 := by
        rw [hpe];exact ⟨H.out.le, H.out.gs.below (hb5.mono H.out.le), _, hV5⟩
       have hao3 : w3.ownsRow base 34 1 (.slice (some ⟨ag, 0, none⟩) PL ac) PL (u64s args) := H3.out.mem (x := .row (.slice (some ⟨ag, 0, none⟩) PL ac) 34 1 PL (u64s args)) (by rw [Hrest1.out]; exact List.mem_cons_of_mem _ HA1.out);have hac := World.ownsRow.cellAt hao3 k (by omega);rw [u64s_get args k (by rw [HAPL.out]; exact hkP), Ha.out] at hac
       have z3 : w3.cell? ⟨X.rp, 3, none⟩ = some (.slice (some ⟨g4, 0, none⟩) (n + 1) c4) := by
        have := hV4.blk.cell 3;rw [this, <- hrv4]; rfl
       have hn1 : IntKind.i64.wrap (n : Int) = n := by rw [IntKind.wrap_i64]; omega
       have hn2 : (n : Int) < n + 1 := by omega
       have hmC : (m : Int) < CL := by omega
       rw [Hs4.out] at hcv4;obtain ⟨HV4, Hr4, Hrv4, Hown4, Hcl, HV5, Hb5, Hpe⟩ := hd8 hV4 hr4 hrv4 hown4 hcl hV5 hb5 hpe;obtain ⟨H5, Hao3, Hset4, Hcve⟩ := hd4 h5 hao3 hset4 hcve;clear hcve hset4 hao3 h5 hpe hb5 hV5 hcl hown4 hrv4 hr4 hV4;go_upto_region 9 with fail;refine wp_region_late (S := fun W => W.cell? ⟨X.rp, 3, none⟩ = some (.slice (some ⟨g4, 0, none⟩) (n + 1) c4) /\ W.cell? ⟨g4, n * 9 + 4, none⟩ = some (.slice (some ⟨q, 0, none⟩) CL cc) /\ W.cell? ⟨G, 3, none⟩ = some (.slice (some iad) IL ic) /\ W.cell? (iad.add k) = some (.int .i64 (m : Nat)) /\ W.cell? ⟨ag, k, none⟩ = some (.int .u64 a) /\ W.cell? ⟨q, m, none⟩ = some _ /\ W.frozen? ⟨q, m, none⟩ = false) #[false, false, false, false, false, false, false, false, false, false, false, false, false, false, false, false, false, false, false, false, false, false, false, true] (by kernel_rfl) ⟨z3, hcv4, q3, hic, hac, hqm, hqf⟩ (fun hHeld => ?_);refine wpAnyL_tk 0 ?_;refine wpAnyL_tk 1 ?_;refine wpAnyL_tk 2 ?_;refine wpAnyL_tk 3 ?_;refine wpAnyL_tk 4 ?_;refine wpAnyL_tk 5 ?_;refine wpAnyL_tk 6 ?_;refine wpAnyL_tk 7 ?_;refine wpAnyL_tk 8 ?_;refine wpAnyL_tk 9 ?_;refine wpAnyL_tk 10 ?_;refine wpAnyL_tk 11 ?_;refine wpAnyL_tk 12 ?_;refine wpAnyL_tk 13 ?_;refine wpAnyL_tk 14 ?_;refine wpAnyL_tk 15 ?_;refine wpAnyL_tk 16 ?_;refine wpAnyL_tk 17 ?_;refine wpAnyL_tk 18 ?_;refine wpAnyL_tk 19 ?_;refine wpAnyL_tk 20 ?_;refine wpAnyL_tk 21 ?_;refine wpAnyL_tk 22 ?_;refine wpAnyL_ls 23 (fun K hK => ?_);go_simp;refine hK.out _ _ ?_;clear hK K;refine lay ?_;refine wpAnyL_done (by kernel_rfl) ?_ _;clear z3 hcv4 q3 hic hac hqm hqf hHeld;go_wp2_with fail
       go_roundg (gk - 1)
       case measure => omega
       case rel => exact ⟨k + 1, by omega, by simp [show wrap64 ((k : Int) + 1) = k + 1 by unfold wrap64; omega], Lib.hid H5.out.drew, Lib.hid Hb5.out.drew⟩
      ·have hpe : R2.par g args (k + 1) = R4 := by
        show (if 0 <= g.init.getD k 0 then _ else _) = _;rw [if_neg (by rw [Hc.out]; exact hc0), Hp.out, Ha.out, HR4.out]
       have h5 : RunAt w3 base X (R2.par g args (k + 1)) rest1 := by
        rw [hpe];exact H3.out
       obtain ⟨Hpe, H5⟩ := hd2 hpe h5;clear h5 hpe;go_wp2_with fail
       go_roundg (gk - 1)
       case measure => omega
       case rel => exact ⟨k + 1, by omega, by simp [show wrap64 ((k : Int) + 1) = k + 1 by unfold wrap64; omega], H5, Hb4⟩
     ·obtain rfl : k = PL := by omega
      have hkI : ¬ (k : Int) < k := by omega
      have hfin : RunAt wr base X (R.push X.gs f args why) rest := by
       have e : R2.par g args k = R.push X.gs f args why := by
        have eg : gAt X.gs (f : Nat) = g := by
         unfold gAt;rw [Int.toNat_natCast, List.getD_eq_getElem?_getD, Hok.out.at_]; rfl
        unfold RunD.push frNew;rw [eg, HR2.out, HR1.out, HPL.out, HKL.out, HCL.out]
        rfl
       rw [<- e];have := hRk.out;rw [Hrest1.out] at this;exact this.drop
      have Hfin := Lib.hid hfin;clear hfin;go_wp2_with fail;go_end0;exact ⟨rfl, Hfin.out, hbk.out⟩
end
end Go.Proofs.Ytncpehhfjkncoaa
