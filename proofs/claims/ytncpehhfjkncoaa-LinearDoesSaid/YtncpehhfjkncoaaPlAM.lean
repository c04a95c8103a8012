/- Walk of run: nodes laid in a line, from one on, till one is there already. Conditions: the liner and its graph lie in memory, jumps and the nodes that are gone on to lead to nodes, at most 4096 nodes, arguments within the reach. -/
import Derived.Test.YtncpehhfjkncoaaPlAA
import Derived.Test.YtncpehhfjkncoaaPlAK
import Derived.Test.YtncpehhfjkncoaaPlAL
import Derived.Deep.RegionHeld3
import Derived.Deep.RegionWith
set_option linter.unusedVariables false
set_option linter.unusedSimpArgs false
set_option maxRecDepth 100000
set_option maxHeartbeats 16000000
namespace Go.Proofs.Ytncpehhfjkncoaa
open Go.RowKit

structure LsOk (N : Nat) (s : LS) : Prop where
 out : s.out.length <= 2 * cardF s.at_ N
 todo : s.todo.length <= 1 + cardF s.at_ N
 lt : ∀ i ∈ s.todo, i < N
/-- all of a node's cells -/
theorem node_all_cells {w : World} {B c : Nat} {A : Option Addr} {ns : List NodeD} {N : Nat} (h : RowsAt 12 NodeAt w B (.slice A N c) ns) {x : Nat} (hx : x < ns.length) :
  ∃ ad av, A = some ad /\ NumsAt .i64 w B av (nd ns x).args /\ (∀ u, (ncells (nd ns x) av)[0]? = some u -> w.cell? (ad.add (x * 12)) = some u) /\ ∀ j u, 0 < j -> (ncells (nd ns x) av)[j]? = some u -> w.cell? ⟨(ad.add (x * 12)).block, (ad.add (x * 12)).off + j, none⟩ = some u := by
 obtain ⟨ad, cs, hA, _, _, _, hNode, n0, nj⟩ := RowsAt.at_ h (nd_get hx);obtain ⟨av, rfl, hav⟩ := hNode;exact ⟨ad, av, hA, hav, n0, nj⟩
theorem out_cells {W : World} {lp P : Nat} {t1 t2 : TypeId} {p0 p1 OV p3 q0 q1 q2 q3 q4 q5 q6 q7 q8 q9 q10 q11 : Value} (hL : Blk W lp t1 #[p0, p1, OV, p3]) (hP : Blk W P t2 #[q0, q1, q2, q3, q4, q5, q6, q7, q8, q9, q10, q11]) :
  W.cell? ⟨lp, 2, none⟩ = some OV /\ W.cell? ⟨P, 0, none⟩ = some q0 /\ W.cell? ⟨P, 1, none⟩ = some q1 /\ W.cell? ⟨P, 2, none⟩ = some q2 /\ W.cell? ⟨P, 3, none⟩ = some q3 /\ W.cell? ⟨P, 4, none⟩ = some q4 /\ W.cell? ⟨P, 5, none⟩ = some q5 /\ W.cell? ⟨P, 6, none⟩ = some q6 /\ W.cell? ⟨P, 7, none⟩ = some q7 /\ W.cell? ⟨P, 8, none⟩ = some q8 /\ W.cell? ⟨P, 9, none⟩ = some q9 /\ W.cell? ⟨P, 10, none⟩ = some q10 /\ W.cell? ⟨P, 11, none⟩ = some q11 :=
 ⟨hL.cell 2, hP.cell 0, hP.cell 1, hP.cell 2, hP.cell 3, hP.cell 4, hP.cell 5, hP.cell 6, hP.cell 7, hP.cell 8, hP.cell 9, hP.cell 10, hP.cell 11⟩
theorem Blk.set12_9 {w : World} {g : Nat} {t : TypeId} {q0 q1 q2 q3 q4 q5 q6 q7 q8 q9 q10 q11 : Value} (h : Blk w g t #[q0, q1, q2, q3, q4, q5, q6, q7, q8, q9, q10, q11]) (u : Value) : Blk (w.setCell ⟨g, 9, none⟩ u) g t #[q0, q1, q2, q3, q4, q5, q6, q7, q8, u, q10, q11] := by simpa using h.set_ 9 u
theorem Blk.set12_10 {w : World} {g : Nat} {t : TypeId} {q0 q1 q2 q3 q4 q5 q6 q7 q8 q9 q10 q11 : Value} (h : Blk w g t #[q0, q1, q2, q3, q4, q5, q6, q7, q8, q9, q10, q11]) (u : Value) : Blk (w.setCell ⟨g, 10, none⟩ u) g t #[q0, q1, q2, q3, q4, q5, q6, q7, q8, q9, u, q11] := by simpa using h.set_ 10 u
theorem Blk.set12_11 {w : World} {g : Nat} {t : TypeId} {q0 q1 q2 q3 q4 q5 q6 q7 q8 q9 q10 q11 : Value} (h : Blk w g t #[q0, q1, q2, q3, q4, q5, q6, q7, q8, q9, q10, q11]) (u : Value) : Blk (w.setCell ⟨g, 11, none⟩ u) g t #[q0, q1, q2, q3, q4, q5, q6, q7, q8, q9, q10, u] := by simpa using h.set_ 11 u
theorem run_any {w : World} {B base lp M : Nat} {ga : Addr} {g : GraphD} {pv kv iv nv ov tv : Value} {s : LS} (hG : GraphM w B ga g pv kv iv nv) (hB : B <= base) (hbase : base <= w.heap.size) (hns : NsOk g.nodes) (hL : LinAt w base lp M ga g.nodes.length ov tv s) (hok : LsOk g.nodes.length s) (i : Nat) (hi : i < g.nodes.length) :
  Calls Try.prog 21 #[.pointer (some ⟨lp, 0, none⟩), .int .i64 i] w fun e w' => e = .returned (.tuple #[]) /\ (∃ ov' tv', LinAt w' base lp M ga g.nodes.length ov' tv' (runF g.nodes (g.nodes.length + 1) s i)) /\ LsOk g.nodes.length (runF g.nodes (g.nodes.length + 1) s i) /\ Below base w w' := by
 obtain ⟨F, hF⟩ := mn (runF g.nodes (g.nodes.length + 1) s i);rw [hF];obtain ⟨NA, nc, rfl, _, _⟩ := hG.nodes.slice;obtain ⟨ns, hnse⟩ := mn (g.nodes);rw [hnse] at hns hL hok hi hF ⊢;obtain ⟨N, hN⟩ := mn (ns.length);rw [hN] at hL hok hi hF ⊢;have hn := hns.len;rw [hN] at hn;have hlo := hL.lo;have hLl := hL.blk.lt;obtain ⟨iN, hiN0, nz0, nz1, nz2⟩ := info_parts infoNode;obtain ⟨iI, hiI, iz0, iz1, iz2⟩ := info_parts infoIntr;obtain ⟨HG, Hns, HF, HN, Hnse, HL, Hok⟩ := hd7 hG hns hF hN hnse hL hok;clear hok hL hnse hN hF hns hG;go_enter Try.func21, Try.ntmps21;go_wp2_with fail
 go_loopg [1] (N + 1) (fun gk iv wr => ∃ (i : Nat) (s : LS) (ov tv : Value), Hid (LinAt wr base lp M ga N ov tv s) /\ iv = .int .i64 i /\ Hid (i < N) /\ Hid (runF ns gk s i = F) /\ Hid (N < gk + cardF s.at_ N) /\ Hid (LsOk N s) /\ Hid (Below base w wr))
 case atStart => exact ⟨i, s, ov, tv, HL, rfl, Lib.hid hi, HF, Lib.hid (by omega), Hok, Lib.hid (Below.refl _ _)⟩
 case round =>
  obtain ⟨i, s, ov, tv, hLq, rfl, hiN, hFq, hgk, hokq, hbq⟩ := hrel;have hBl := hLq.out.blk;have hMp := hLq.out.map;have kl0 := bc hBl 0;have kl1 := bc hBl 1;have kl2 := bc hBl 2;have kl3 := bc hBl 3;have hGq := HG.out.below (hbq.out.mono hB);have g6 := hGq.c6;rw [Hnse.out, HN.out] at g6;have hl := hMp.look_ok i (by have := hiN.out; omega)
  rcases hat : s.at_ i with _ | c
  ·rw [hat] at hl;have hl : (Instr.lookup 70 (.map (some M)) (.int .i64 i) true).run Try.prog wr = .ok (.tuple #[.int .i64 0, .bool false]) wr := hl;have hiN' := hiN.out;have hszq := hbq.out.size
   obtain ⟨fu, rfl⟩ : ∃ fu, gk = fu + 1 := ⟨gk - 1, by have := cardF_room hat hiN'; have := hgk.out; omega⟩
   obtain ⟨css, hcl, hOo, hcs⟩ := hLq.out.out;obtain ⟨OA, oc, rfl, hoc1, hoc2, _⟩ := own_any hOo
   have hol : s.out.length <= 8192 := by have := hokq.out.out; have := cardF_le (f := s.at_) N; omega
   obtain ⟨w1, hput, hM1, hg1⟩ := hMp.drew.put i s.out.length (by omega) (by omega) (by have := cardF_le (f := s.at_) N; unfold maxLen; omega)
   have hg1 : wr.grownBy w1 (some M) := ⟨hg1.os, hg1.tape, hg1.output, hg1.size, fun k hk hn => hg1.block k hk hn⟩
   obtain ⟨ol, hole⟩ := mn (s.out.length);rw [hole] at hput hol kl2 hoc1;have hL1 := hLq.out.put hat hiN' (w' := w1) (k := ol) (by rw [<- hole]; exact hM1) hg1
   have hb1 : Below base w w1 := (hbq.out.grown hg1 (by omega) (fun g e => by injection e with e; omega))
   have kw1 := hL1.blk.cell 1;have kw2 := hL1.blk.cell 2;simp only [List.getElem?_toArray, List.getElem?_cons_zero, List.getElem?_cons_succ] at kw1 kw2;rw [hole] at kw2 hL1;obtain ⟨HBl, HMp, HGq, Hat, Hcl, HOo, Hcs, HM1⟩ := hd8 hBl hMp hGq hat hcl hOo hcs hM1;obtain ⟨Hg1, Hole, HL1, Hb1⟩ := hd4 hg1 hole hL1 hb1;clear hb1 hL1 hole hg1 hM1 hcs hOo hcl hat hGq hMp hBl;go_upto_region 2 with fail
   go_region_held3 (fun W => W.cell? ⟨lp, 1, none⟩ = some (.map (some M)) /\ W.cell? ⟨lp, 2, none⟩ = some (.slice OA ol oc)) (first | exact ⟨kl1, kl2⟩ | exact ⟨kw1, kw2⟩) (fail)
   clear kl0 kl1 kl2 kl3 g6 hl hput;have hG1 := HG.out.below (Hb1.out.mono hB);have g6 := hG1.c6;rw [Hnse.out, HN.out] at g6;have hsz1 := Hb1.out.size;obtain ⟨nad, av, hNA, hav, nc0, ncj⟩ := node_all_cells (show RowsAt 12 NodeAt w1 B (.slice NA N nc) ns by have := hG1.nodes; rwa [Hnse.out, HN.out] at this) (x := i) (by rw [HN.out]; exact hiN');subst hNA;obtain ⟨x, hx⟩ := mn (nd ns i)
   have hxm : x ∈ ns := by rw [<- hx]; exact nd_mem (by rw [HN.out]; exact hiN')
   rw [hx] at hav nc0 ncj;have hxa := Hns.out.args x hxm;have hxn := Hns.out.next x hxm;rw [HN.out] at hxn;obtain ⟨op, byo, d, e, a, b, f, cell, imm, args, next, els⟩ := x;obtain ⟨AA, ac, rfl, hac1, hac2, hAr⟩ := hav.slice;obtain ⟨al, hal⟩ := mn (args.length);simp only [hal] at hAr hac1 hxa nc0 ncj;have c0 := nc0 _ rfl;have c1 := ncj 1 _ (by omega) rfl;have c2 := ncj 2 _ (by omega) rfl;have c3 := ncj 3 _ (by omega) rfl;have c4 := ncj 4 _ (by omega) rfl;have c5 := ncj 5 _ (by omega) rfl;have c6 := ncj 6 _ (by omega) rfl;have c7 := ncj 7 _ (by omega) rfl;have c8 := ncj 8 _ (by omega) rfl;have c9 := ncj 9 _ (by omega) rfl;have c10 := ncj 10 _ (by omega) rfl;have c11 := ncj 11 _ (by omega) rfl;clear nc0 ncj;simp only [ncells] at c0 c1 c2 c3 c4 c5 c6 c7 c8 c9 c10 c11;have hL1' := HL1.out.blk;have kl0 := bc hL1' 0;have kl1 := bc hL1' 1;have kl2 := bc hL1' 2;have kl3 := bc hL1' 3
   have hxi : (i : Int) < N := by omega
   have hP2 := Blk.new w1 52 #[.int .u8 op, .int .u8 byo, .int .i64 d, .int .i64 e, .int .i64 a, .int .i64 b, .int .i64 f, .int .i64 cell, .int .u64 imm, .slice AA al ac, .int .i64 next, .int .i64 els];have hb12 : Below w1.heap.size w1 (w1.alloc (.cells #[.int .u8 op, .int .u8 byo, .int .i64 d, .int .i64 e, .int .i64 a, .int .i64 b, .int .i64 f, .int .i64 cell, .int .u64 imm, .slice AA al ac, .int .i64 next, .int .i64 els] 52)) := (Below.refl _ _).alloc (Nat.le_refl _) _;obtain ⟨P, hP⟩ := nm (w1.heap.size);obtain ⟨w2, hw2⟩ := nm (w1.alloc (.cells #[.int .u8 op, .int .u8 byo, .int .i64 d, .int .i64 e, .int .i64 a, .int .i64 b, .int .i64 f, .int .i64 cell, .int .u64 imm, .slice AA al ac, .int .i64 next, .int .i64 els] 52));rw [<- hw2] at hP2 hb12;rw [<- hP] at hP2;have hL2 := HL1.out.below hb12
   have hOo_lt : ∀ g, (Value.slice OA ol oc).ownBlock = some g -> g < P := fun g hg => by
    obtain ⟨css1, _, h1, _⟩ := HL1.out.out;rw [hP]; exact (h1.lt g hg).2
   have hbz1 : base <= w1.heap.size := by omega
   have hb2 := Hb1.out.trans (hb12.mono hbz1);have hA2 := hAr.below (hb12.mono (Nat.le_trans hB hbz1));have hsz2 := hb12.size;have hxn_out : ∀ t ∈ nextL ⟨op, byo, d, e, a, b, f, cell, imm, args, next, els⟩, 0 <= t /\ t < N := hxn;obtain ⟨HG1, Hav, Hx, Hxm, Hxn, HAr, Hal, HL1'⟩ := hd8 hG1 hav hx hxm hxn hAr hal hL1';obtain ⟨HP2, Hb12, HP, Hw2, HL2, Hb2, HA2⟩ := hd7 hP2 hb12 hP hw2 hL2 hb2 hA2;clear hA2 hb2 hL2 hw2 hP hb12 hP2 hL1' hal hAr hxn hxm hx hav hG1;go_upto_region 4 with fail;rw [<- Hw2.out, <- HP.out];clear c0 c1 c2 c3 c4 c5 c6 c7 c8 c9 c10 c11;have hP2' := HP2.out;have kp9 := bc hP2' 9;have HP2' := Lib.hid hP2';clear hP2';go_wp2_with fail;refine (clone_ints AA al ac (args.map (Value.int .i64)) w2 B HA2.out (nums_one _ _) (by have := hac1; omega) hac2 (by omega) (by omega)).mono ?_;rintro e w3 ⟨hb23, V, vc, rfl, hV3⟩;have hP3 := HP2.out.below hb23 HP2.out.lt;have hL3 := HL2.out.below hb23;have hb3 := Hb2.out.trans (hb23.mono (by omega));have kp9' := Blk.frozen hP3 9;have kp9'' := Blk.cell hP3 9;simp only [List.getElem?_toArray, List.getElem?_cons_zero, List.getElem?_cons_succ] at kp9'';have hP4 := hP3.set12_9 (.slice V al vc)
   have hPge : base <= P := by rw [HP.out]; exact hbz1
   have hlpP : lp ≠ P := by have := HL1.out.blk.lt; rw [<- HP.out] at this; omega
   have hOAP : (Value.slice OA ol oc).ownBlock ≠ some P := fun e => by
    have := (hOo_lt : ∀ g, (Value.slice OA ol oc).ownBlock = some g -> g < P) P e
    omega
   have hL4 := hL3.far (p := ⟨P, 9, none⟩) hlpP hP3 hOAP (by decide) (.slice V al vc);have hb4 := hb3.setCell (p := ⟨P, 9, none⟩) hPge (.slice V al vc);have hI3 : IntsOwn w3 base (.slice V al vc) args := IntsOwn.base (by unfold IntsOwn; rw [Hal.out]; exact hV3) (by omega);have hI4 : IntsOwn (w3.setCell ⟨P, 9, none⟩ (.slice V al vc)) base (.slice V al vc) args := (Other.blk (e := 3) hP3 (by decide)).own_keep hI3 (grown_setCell w3 ⟨P, 9, none⟩ (.slice V al vc))
   have hVt : ∀ g, (Value.slice V al vc).ownBlock = some g -> tv.ownBlock ≠ some g := fun g hg e => by
    obtain ⟨g', h1, _, h2⟩ := HL2.out.todo.block;have h3 := (hV3.lt g hg).1;rw [e] at h1;injection h1 with h1
    omega
   obtain ⟨Hb23, HV3, HP3, HL3, Hb3, HP4, HL4, Hb4⟩ := hd8 hb23 hV3 hP3 hL3 hb3 hP4 hL4 hb4;obtain ⟨HI3, HI4, HVt⟩ := hd3 hI3 hI4 hVt;clear hVt hI4 hI3 hb4 hL4 hP4 hb3 hL3 hP3 hV3 hb23;go_upto_region 5 with fail;obtain ⟨w4, hw4⟩ := nm (w3.setCell ⟨P, 9, none⟩ (.slice V al vc));rw [<- hw4];rw [<- hw4] at HP4 HL4 Hb4 HI4;have Hw4 := Lib.hid hw4;clear hw4;have hP4 := HP4.out;clear kp9 kp9' kp9'';have kp0 := bc hP4 0;have kp1 := bc hP4 1;have kp2 := bc hP4 2;have kp3 := bc hP4 3;have kp4 := bc hP4 4;have kp5 := bc hP4 5;have kp6 := bc hP4 6;have kp7 := bc hP4 7;have kp8 := bc hP4 8;have kp9 := bc hP4 9;have kp10 := bc hP4 10;have kp11 := bc hP4 11;have fp10 := Blk.frozen hP4 10;have fp11 := Blk.frozen hP4 11;have hP4l := hP4.lt
   by_cases h10 : op = 10
   ·subst h10;have hq10 : ((10 : Int) == 10) = true := rfl;have hP5 := HP4.out.set12_10 (.int .i64 i);have hL5 := HL4.out.far (p := ⟨P, 10, none⟩) hlpP HP4.out hOAP (by decide) (.int .i64 i);have hb5 := Hb4.out.setCell (p := ⟨P, 10, none⟩) hPge (.int .i64 i);have hI5 : IntsOwn (w4.setCell ⟨P, 10, none⟩ (.int .i64 i)) base (.slice V al vc) args := (Other.blk (e := 3) HP4.out (by decide)).own_keep HI4.out (grown_setCell w4 ⟨P, 10, none⟩ (.int .i64 i));obtain ⟨css5, hcl5, hown5, hcs5⟩ := hL5.out;rw [Hole.out] at hown5 hcl5;obtain ⟨HP4, HP5, HL5, Hb5, HI5, Hcl5, Hown5, Hcs5⟩ := hd8 hP4 hP5 hL5 hb5 hI5 hcl5 hown5 hcs5;clear hcs5 hown5 hcl5 hI5 hb5 hL5 hP5 hP4;go_upto_region 7 with fail;obtain ⟨w5, hw5⟩ := nm (w4.setCell ⟨P, 10, none⟩ (.int .i64 i));rw [<- hw5];rw [<- hw5] at HP5 HL5 Hb5 HI5 Hown5 Hcs5;clear kp0 kp1 kp2 kp3 kp4 kp5 kp6 kp7 kp8 kp9 kp10 kp11 fp10 fp11;have Hw5 := Lib.hid hw5;clear hw5;refine wp_region_late (S := fun W => W.cell? ⟨lp, 2, none⟩ = some (.slice OA ol oc) /\ W.cell? ⟨P, 0, none⟩ = some (.int .u8 10) /\ W.cell? ⟨P, 1, none⟩ = some (.int .u8 byo) /\ W.cell? ⟨P, 2, none⟩ = some (.int .i64 d) /\ W.cell? ⟨P, 3, none⟩ = some (.int .i64 e) /\ W.cell? ⟨P, 4, none⟩ = some (.int .i64 a) /\ W.cell? ⟨P, 5, none⟩ = some (.int .i64 b) /\ W.cell? ⟨P, 6, none⟩ = some (.int .i64 f) /\ W.cell? ⟨P, 7, none⟩ = some (.int .i64 cell) /\ W.cell? ⟨P, 8, none⟩ = some (.int .u64 imm) /\ W.cell? ⟨P, 9, none⟩ = some (.slice V al vc) /\ W.cell? ⟨P, 10, none⟩ = some (.int .i64 i) /\ W.cell? ⟨P, 11, none⟩ = some (.int .i64 els)) #[false, false, false, false, false, false, false, false, false, false, true] (by kernel_rfl) (out_cells HL5.out.blk HP5.out) (fun hHeld => ?_);refine wpAnyL_tk 0 ?_;refine wpAnyL_tk 1 ?_;refine wpAnyL_tk 2 ?_;refine wpAnyL_tk 3 ?_;refine wpAnyL_tk 4 ?_;refine wpAnyL_tk 5 ?_;refine wpAnyL_rd 6 (fun K hK => ?_);go_simp;refine hK.out _ _ (out_cells (HL5.out.blk.alloc _) (HP5.out.alloc _)) (fun hHeld2 => ?_);clear hK K hHeld;refine lay ?_;refine wpAnyL_rd 7 (fun K hK => ?_);refine step_append_any _ rfl (.tmp 52) (.tmp 54) _ rfl base 52 iN _ 12 104 Try.underlying46 hiN0 nz0 nz1 nz2 rfl (by omega) (.slice OA ol oc) ol css5.flatten rfl (Hown5.out.alloc _) (w5.heap.size + 1) (some ⟨w5.heap.size, 0, none⟩) 1 1 (ncells ⟨10, byo, d, e, a, b, f, cell, imm, args, i, els⟩ (.slice V al vc)) rfl (Reads.newS _ rfl _ _ _ _ _ rfl rfl) ?c1 ?c2 ?c3 ?c4 ?_
    case c1 => intro u hu; simp only [ncells, List.mem_cons, List.not_mem_nil, or_false] at hu; rcases hu with rfl | rfl | rfl | rfl | rfl | rfl | rfl | rfl | rfl | rfl | rfl | rfl <;> rfl
    case c2 => simp only [maxLen]; omega
    case c3 => omega
    case c4 => have := Hb5.out.size; simp; omega
    intro v6 w6 hown6 hg6 hat6;obtain ⟨A6, x6, rfl, _⟩ := own_any hown6;have hg6' : w5.grownBy w6 (Value.slice OA ol oc).ownBlock := (only_drew (World.grownBy_alloc w5 _ _)).trans hg6;have hL6 := HL5.out.push (w' := w6) (v' := .slice A6 (ol + 1) x6) (x := ⟨10, byo, d, e, a, b, f, cell, imm, args, i, els⟩) (av := .slice V al vc) (css := css5) (by rw [Hole.out]; exact Hcl5.out) (by rw [Hole.out]; exact Hown5.out) Hcs5.out HI5.out HVt.out (by rw [Hole.out]; exact hown6) hg6';have hP6 : Blk w6 P 52 _ := HP5.out.grown hg6' (fun e => hOAP e.symm);have hB6 : Blk w6 lp 72 _ := HL5.out.blk.grown hg6' (fun e => own_blk_ne Hown5.out HL5.out.blk (by decide) e.symm);have hb6 := (Hb5.out.grown hg6' (by have := Hb5.out.size; omega) (fun g e => (Hown5.out.lt g e).1)).setCell (p := ⟨lp, 2, none⟩) hlo.1 (.slice A6 (ol + 1) x6);have f62 := Blk.frozen hB6 2;refine hK.out _ _ (out_cells hB6 hP6) (fun hHeld3 => ?_);clear hK K hHeld2;refine lay ?_;refine wpAnyL_tk 8 ?_;refine wpAnyL_tk 9 ?_
    have hfin : F = ⟨upd s.at_ i ol, s.out ++ [⟨10, byo, d, e, a, b, f, cell, imm, args, i, els⟩], s.todo⟩ := by
     rw [<- hFq.out, runF_nop Hat.out (by rw [Hx.out]), Hx.out, Hole.out]
    have hokF : LsOk N F := by
     rw [hfin];have h1 := hokq.out;have h2 := cardF_upd (v := ol) Hat.out hiN';exact ⟨by have := h1.out; simp; omega, by have := h1.todo; simp; omega, h1.lt⟩
    rw [<- hfin] at hL6;obtain ⟨Hown6, Hg6, Hat6, Hg6', HL6, HP6, HB6, Hb6⟩ := hd8 hown6 hg6 hat6 hg6' hL6 hP6 hB6 hb6;obtain ⟨Hfin, HokF⟩ := hd2 hfin hokF;clear hokF hfin hb6 hB6 hP6 hL6 hg6' hat6 hg6 hown6;refine wpAnyL_ls 10 (fun K hK => ?_);go_simp;refine hK.out _ _ ?_;clear hK K hHeld3;refine wpAnyL_done (by kernel_rfl) ?_ _;go_wp2_with fail;refine bodyPost_ret (results_none rfl _ _ _) rfl ?_;exact ⟨rfl, ⟨_, _, HL6.out⟩, HokF.out, Hb6.out⟩
   ·have hq10 : (op == 10) = false := by simp [h10]
    have hsz4 := Hb4.out.size
    by_cases h9 : op = 9
    case' pos =>
     have hq9 : (op == 9) = true := by simp [h9]
     have hE : 0 <= els /\ els < N := by
      by_cases he : els = next
      ·rw [he]; exact hxn_out next (by simp [nextL, he, h9])
      ·exact hxn_out els (by simp [nextL, he, h9])
     obtain ⟨E, rfl⟩ := Int.eq_ofNat_of_zero_le hE.1
     have hEN : E < N := by omega
     obtain ⟨t, ht⟩ := mn (thru ns E)
     have htN : t < N := by rw [<- ht, <- HN.out]; exact thru_lt Hns.out.hop (by rw [HN.out]; exact hEN)
     have hthr := through_any HL4.out.blk (HG.out.below (Hb4.out.mono hB)) (by omega) (by rw [Hnse.out]; exact Hns.out.hop) (by rw [Hnse.out, HN.out]; exact hn) E (by rw [Hnse.out, HN.out]; exact hEN);rw [Hnse.out, ht] at hthr;obtain ⟨HP4, Ht, Hthr⟩ := hd3 hP4 ht hthr;clear hthr ht hP4;go_wp2_with fail;refine Hthr.out.mono ?_;rintro e w5 ⟨rfl, hb45⟩
     have hsz4' : base <= w4.heap.size := by omega
     have hP5 := HP4.out.below hb45 HP4.out.lt;have hL5 := HL4.out.below hb45;have hb5 := Hb4.out.trans (hb45.mono hsz4');have hI5 : IntsOwn w5 base (.slice V al vc) args := own_kept' HI4.out (only_of_below hb45 none) nofun;have q11 := Blk.cell hP5 11;simp only [List.getElem?_toArray, List.getElem?_cons_zero, List.getElem?_cons_succ] at q11;have f11 := Blk.frozen hP5 11;have hP6 := hP5.set12_11 (.int .i64 t);have hL6 := hL5.far (p := ⟨P, 11, none⟩) hlpP hP5 hOAP (by decide) (.int .i64 t);have hb6 := hb5.setCell (p := ⟨P, 11, none⟩) hPge (.int .i64 t);have hI6 : IntsOwn (w5.setCell ⟨P, 11, none⟩ (.int .i64 t)) base (.slice V al vc) args := (Other.blk (e := 3) hP5 (by decide)).own_keep hI5 (grown_setCell w5 ⟨P, 11, none⟩ (.int .i64 t));obtain ⟨Hb45, HP5, HL5, Hb5, HI5, HP6, HL6, Hb6⟩ := hd8 hb45 hP5 hL5 hb5 hI5 hP6 hL6 hb6;have HI6 := Lib.hid hI6;clear hI6 hb6 hL6 hP6 hI5 hb5 hL5 hP5 hb45;clear kp0 kp1 kp2 kp3 kp4 kp5 kp6 kp7 kp8 kp9 kp10 kp11 fp10 fp11;go_upto_region 10 with fail;obtain ⟨w6, hw6⟩ := nm (w5.setCell ⟨P, 11, none⟩ (.int .i64 t));rw [<- hw6];rw [<- hw6] at HP6 HL6 Hb6 HI6;have Hw6 := Lib.hid hw6;clear hw6;refine wp_region_late (S := fun W => W.cell? ⟨lp, 3, none⟩ = some tv /\ W.cell? ⟨P, 11, none⟩ = some (.int .i64 t)) #[false, false, false, false, false, false, false, false, false, false, false, true] (by kernel_rfl) ⟨HL6.out.blk.cell 3, HP6.out.cell 11⟩ (fun hHeld => ?_);refine wpAnyL_tk 0 ?_;refine wpAnyL_tk 1 ?_;refine wpAnyL_tk 2 ?_;refine wpAnyL_tk 3 ?_;refine wpAnyL_tk 4 ?_;refine wpAnyL_tk 5 ?_;refine wpAnyL_tk 6 ?_;refine wpAnyL_rd 7 (fun K hK => ?_);go_simp;refine hK.out _ _ ⟨(HL6.out.blk.alloc _).cell 3, (HP6.out.alloc _).cell 11⟩ (fun hHeld2 => ?_);clear hK K hHeld;refine lay ?_;refine wpAnyL_rd 8 (fun K hK => ?_)
     have htl : (s.todo.map fun i => Value.int .i64 (i : Nat)).length <= 4097 := by
      rw [List.length_map];have := hokq.out.todo;have := cardF_le (f := s.at_) N
      omega
     refine step_append_tail _ rfl (.tmp 70) (.tmp 73) 45 rfl base 3 iI _ 8 Try.underlying45 hiI iz0 iz1 iz2 rfl tv (s.todo.map fun i => Value.int .i64 (i : Nat)) rfl (HL6.out.todo.alloc _) ⟨w6.heap.size, 0, none⟩ 1 (.int .i64 t) rfl ?c1 rfl ?c2 ?c3 ?c4 ?_
     case c1 => exact Blk.cell (Blk.new w6 3 #[.int .i64 t]) 0
     case c2 => simp only [maxLen]; omega
     case c3 => omega
     case c4 => have := Hb6.out.size; simp; omega
     intro tz w7 hT7 hg7 hat7;have hg7' : w6.grownBy w7 tv.ownBlock := (only_drew (World.grownBy_alloc w6 _ _)).trans hg7
     obtain ⟨TA, tl, tc, rfl⟩ : ∃ TA tl tc, tz = .slice TA tl tc := by
      obtain ⟨TA, tc, h, _⟩ := hT7.form;exact ⟨TA, _, tc, h⟩
     have hLa := HL6.out.below (w' := (w6.alloc (.cells #[.int .i64 t] 3)).drew) (((Below.refl _ _).alloc (Nat.le_refl _) _).drew);have hL7 := hLa.more (i := t) hT7 hg7 hat7;obtain ⟨gT, hgT, hgT1, hgT2⟩ := HL6.out.todo.block
     have hPt : some P ≠ tv.ownBlock := fun e => by
      rcases Other.tail (e := 52) HL6.out.todo (by decide) P e.symm with h | h
      ·have := HP6.out.lt; omega
      ·exact h _ HP6.out
     have hLt : some lp ≠ tv.ownBlock := fun e => by
      rcases Other.tail (e := 72) HL6.out.todo (by decide) lp e.symm with h | h
      ·have := HL6.out.blk.lt; omega
      ·exact h _ HL6.out.blk
     have hP7 := HP6.out.grown hg7' hPt;have hB7 := HL6.out.blk.grown hg7' hLt
     have hI7 : IntsOwn w7 base (.slice V al vc) args := World.ownsRow.kept HI6.out hg7' (by
      rcases hv : (Value.slice V al vc).ownBlock with _ | g'
      ·exact .inl rfl
      ·exact .inr fun e => HVt.out g' hv e.symm)
     have hVt7 : ∀ g, (Value.slice V al vc).ownBlock = some g -> (Value.slice TA tl tc).ownBlock ≠ some g := fun g hg e => by
      rcases hat7 with h | h
      ·rw [h] at e; exact HVt.out g hg e
      ·rw [h] at e;injection e with e;have h2 := (HI6.out.lt g hg).2;simp at e
       omega
     have hb7 := Hb6.out.grown hg7' (by have := Hb6.out.size; omega) (fun g e => by rw [hgT] at e; injection e with e; omega);have f73 := Blk.frozen hB7 3;have hIz : IntsOwn (w7.setCell ⟨lp, 3, none⟩ (.slice TA tl tc)) base (.slice V al vc) args := (Other.blk (e := 3) hB7 (by decide)).own_keep hI7 (grown_setCell w7 ⟨lp, 3, none⟩ (.slice TA tl tc));have hPz := hP7.far (p := ⟨lp, 3, none⟩) (fun e => hlpP e.symm) (.slice TA tl tc);have hbz := hb7.setCell (p := ⟨lp, 3, none⟩) hlo.1 (.slice TA tl tc);refine hK.out _ _ ⟨hB7.cell 3, hP7.cell 11⟩ (fun hHeld3 => ?_);clear hK K hHeld2;refine lay ?_;refine wpAnyL_tk 9 ?_;refine wpAnyL_tk 10 ?_;obtain ⟨HT7, Hg7, Hat7, Hg7', HLa, HL7, HgT, HP7⟩ := hd8 hT7 hg7 hat7 hg7' hLa hL7 hgT hP7;obtain ⟨HB7, HI7, HVtz, Hb7, HIz, HPz, Hbz, HPt⟩ := hd8 hB7 hI7 hVt7 hb7 hIz hPz hbz hPt;have HLt := Lib.hid hLt;clear hLt hPt hbz hPz hIz hb7 hVt7 hI7 hB7 hP7 hgT hL7 hLa hg7' hat7 hg7 hT7;refine wpAnyL_ls 11 (fun K hK => ?_);go_simp;refine hK.out _ _ ?_;clear hK K hHeld3;refine wpAnyL_done (by kernel_rfl) ?_ _;obtain ⟨wz, hwz⟩ := nm (w7.setCell ⟨lp, 3, none⟩ (.slice TA tl tc));rw [<- hwz];rw [<- hwz] at HIz HPz Hbz
     have HLz : Hid (LinAt wz base lp M ga N (.slice OA ol oc) (.slice TA tl tc) ⟨upd s.at_ i ol, s.out, s.todo ++ [t]⟩) := by rw [hwz]; exact HL7
     obtain ⟨tvz, htvz⟩ := nm (Value.slice TA tl tc);obtain ⟨elz, helz⟩ := nm ((t : Int) : Int);obtain ⟨todoz, htdz⟩ := nm (s.todo ++ [t])
     have Hturn : Hid (turned ns (nd ns i) = ⟨op, byo, d, e, a, b, f, cell, imm, args, next, elz⟩) := by
      rw [Hx.out, helz, <- Ht.out];exact Lib.hid (by simp [turned, h9])
     have Htd : Hid ((if (nd ns i).op = 9 then s.todo ++ [thru ns (nd ns i).els.toNat] else s.todo) = todoz) := by
      rw [Hx.out, htdz, <- Ht.out];exact Lib.hid (by simp [h9])
     have Hokz : Hid (todoz.length <= s.todo.length + 1 /\ ∀ j ∈ todoz, j < N) := by
      rw [htdz];refine Lib.hid ⟨by simp, fun j hj => ?_⟩
      rcases List.mem_append.1 hj with h | h
      ·exact hokq.out.lt j h
      ·rw [List.mem_singleton] at h; rw [h]; exact htN
     rw [<- htvz] at HVtz HLz;rw [<- htdz] at HLz;rw [<- helz] at HPz;clear hq9;obtain ⟨Hwz, Htvz, Helz, Htdz, H9⟩ := hd5 hwz htvz helz htdz h9;clear h9 htdz helz htvz hwz;go_upto_region 11 with fail
    case' neg =>
     have hq9 : (op == 9) = false := by simp [h9]
     have HP4 := Lib.hid hP4;clear hP4;go_upto_region 11 with fail;obtain ⟨wz, hwz⟩ := nm (w4);obtain ⟨tvz, htvz⟩ := nm (tv);obtain ⟨elz, helz⟩ := nm (els : Int);obtain ⟨todoz, htdz⟩ := nm (s.todo)
     have HLz : Hid (LinAt wz base lp M ga N (.slice OA ol oc) tvz ⟨upd s.at_ i ol, s.out, todoz⟩) := by rw [hwz, htvz, htdz]; exact HL4
     have HPz : Hid (Blk wz P 52 #[.int .u8 op, .int .u8 byo, .int .i64 d, .int .i64 e, .int .i64 a, .int .i64 b, .int .i64 f, .int .i64 cell, .int .u64 imm, .slice V al vc, .int .i64 next, .int .i64 elz]) := by rw [hwz, helz]; exact HP4
     have HIz : Hid (IntsOwn wz base (.slice V al vc) args) := by rw [hwz]; exact HI4
     have Hbz : Hid (Below base w wz) := by rw [hwz]; exact Hb4
     have HVtz : Hid (∀ g, (Value.slice V al vc).ownBlock = some g -> tvz.ownBlock ≠ some g) := by rw [htvz]; exact HVt
     have Hturn : Hid (turned ns (nd ns i) = ⟨op, byo, d, e, a, b, f, cell, imm, args, next, elz⟩) := by
      rw [Hx.out, helz];exact Lib.hid (by simp [turned, h9])
     have Htd : Hid ((if (nd ns i).op = 9 then s.todo ++ [thru ns (nd ns i).els.toNat] else s.todo) = todoz) := by
      rw [Hx.out, htdz];exact Lib.hid (by simp [h9])
     have Hokz : Hid (todoz.length <= s.todo.length + 1 /\ ∀ j ∈ todoz, j < N) := by
      rw [htdz];exact Lib.hid ⟨by omega, hokq.out.lt⟩
     rw [<- hwz];clear kp0 kp1 kp2 kp3 kp4 kp5 kp6 kp7 kp8 kp9 kp10 kp11 fp10 fp11 hq9;obtain ⟨Hwz, Htvz, Helz, Htdz, H9⟩ := hd5 hwz htvz helz htdz h9;clear h9 htdz helz htvz hwz
    all_goals
     obtain ⟨cssz, hclz, hownz, hcsz⟩ := HLz.out.out;rw [Hole.out] at hownz hclz;obtain ⟨Hclz, Hownz, Hcsz⟩ := hd3 hclz hownz hcsz;clear hcsz hownz hclz;refine wp_region_late (S := fun W => W.cell? ⟨lp, 2, none⟩ = some (.slice OA ol oc) /\ W.cell? ⟨P, 0, none⟩ = some (.int .u8 op) /\ W.cell? ⟨P, 1, none⟩ = some (.int .u8 byo) /\ W.cell? ⟨P, 2, none⟩ = some (.int .i64 d) /\ W.cell? ⟨P, 3, none⟩ = some (.int .i64 e) /\ W.cell? ⟨P, 4, none⟩ = some (.int .i64 a) /\ W.cell? ⟨P, 5, none⟩ = some (.int .i64 b) /\ W.cell? ⟨P, 6, none⟩ = some (.int .i64 f) /\ W.cell? ⟨P, 7, none⟩ = some (.int .i64 cell) /\ W.cell? ⟨P, 8, none⟩ = some (.int .u64 imm) /\ W.cell? ⟨P, 9, none⟩ = some (.slice V al vc) /\ W.cell? ⟨P, 10, none⟩ = some (.int .i64 next) /\ W.cell? ⟨P, 11, none⟩ = some (.int .i64 elz)) #[false, false, false, false, false, false, false, false, false, false, true] (by kernel_rfl) (out_cells HLz.out.blk HPz.out) (fun hHeld => ?_);refine wpAnyL_tk 0 ?_;refine wpAnyL_tk 1 ?_;refine wpAnyL_tk 2 ?_;refine wpAnyL_tk 3 ?_;refine wpAnyL_tk 4 ?_;refine wpAnyL_tk 5 ?_;refine wpAnyL_rd 6 (fun K hK => ?_);go_simp;refine hK.out _ _ (out_cells (HLz.out.blk.alloc _) (HPz.out.alloc _)) (fun hHeld2 => ?_);clear hK K hHeld;refine lay ?_;refine wpAnyL_rd 7 (fun K hK => ?_);refine step_append_any _ rfl (.tmp 81) (.tmp 83) _ rfl base 52 iN _ 12 104 Try.underlying46 hiN0 nz0 nz1 nz2 rfl (by omega) (.slice OA ol oc) ol cssz.flatten rfl (Hownz.out.alloc _) (wz.heap.size + 1) (some ⟨wz.heap.size, 0, none⟩) 1 1 (ncells ⟨op, byo, d, e, a, b, f, cell, imm, args, next, elz⟩ (.slice V al vc)) rfl (Reads.newS _ rfl _ _ _ _ _ rfl rfl) (by intro u hu; simp only [ncells, List.mem_cons, List.not_mem_nil, or_false] at hu; rcases hu with rfl | rfl | rfl | rfl | rfl | rfl | rfl | rfl | rfl | rfl | rfl | rfl <;> rfl) (by simp only [maxLen]; omega) (by omega) (by have := Hbz.out.size; simp; omega) ?_;intro v8 w8 hown8 hg8 hat8;obtain ⟨A8, x8, rfl, _⟩ := own_any hown8;have hg8' : wz.grownBy w8 (Value.slice OA ol oc).ownBlock := (only_drew (World.grownBy_alloc wz _ _)).trans hg8;have hL9 := HLz.out.push (w' := w8) (v' := .slice A8 (ol + 1) x8) (x := ⟨op, byo, d, e, a, b, f, cell, imm, args, next, elz⟩) (av := .slice V al vc) (css := cssz) (by rw [Hole.out]; exact Hclz.out) (by rw [Hole.out]; exact Hownz.out) Hcsz.out HIz.out HVtz.out (by rw [Hole.out]; exact hown8) hg8';have hP8 : Blk w8 P 52 _ := HPz.out.grown hg8' (fun e => hOAP e.symm);have hB8 : Blk w8 lp 72 _ := HLz.out.blk.grown hg8' (fun e => own_blk_ne Hownz.out HLz.out.blk (by decide) e.symm);have hP9 := hP8.far (p := ⟨lp, 2, none⟩) (fun e => hlpP e.symm) (.slice A8 (ol + 1) x8);have hb9 := (Hbz.out.grown hg8' (by have := Hbz.out.size; omega) (fun g e => (Hownz.out.lt g e).1)).setCell (p := ⟨lp, 2, none⟩) hlo.1 (.slice A8 (ol + 1) x8);have f82 := Blk.frozen hB8 2;refine hK.out _ _ (out_cells hB8 hP8) (fun hHeld3 => ?_);clear hK K hHeld2;refine lay ?_;refine wpAnyL_tk 8 ?_;refine wpAnyL_tk 9 ?_;obtain ⟨Hown8, Hg8, Hat8, Hg8', HL9, HP8, HB8, HP9⟩ := hd8 hown8 hg8 hat8 hg8' hL9 hP8 hB8 hP9;have Hb9 := Lib.hid hb9;clear hb9 hP9 hB8 hP8 hL9 hg8' hat8 hg8 hown8;refine wpAnyL_ls 10 (fun K hK => ?_);go_simp;refine hK.out _ _ ?_;clear hK K hHeld3;refine wpAnyL_done (by kernel_rfl) ?_ _;obtain ⟨w9, hw9⟩ := nm (w8.setCell ⟨lp, 2, none⟩ (.slice A8 (ol + 1) x8));rw [<- hw9];rw [<- hw9] at HL9 HP9 Hb9;have hP9 := HP9.out;have kp0 := bc hP9 0;have kp1 := bc hP9 1;have kp2 := bc hP9 2;have kp3 := bc hP9 3;have kp4 := bc hP9 4;have kp5 := bc hP9 5;have kp6 := bc hP9 6;have kp7 := bc hP9 7;have kp8 := bc hP9 8;have kp9 := bc hP9 9;have kp10 := bc hP9 10;have kp11 := bc hP9 11;obtain ⟨Hw9, HP9⟩ := hd2 hw9 hP9;clear hP9 hw9;go_wp2_with fail;refine (next_any w9 ⟨op, byo, d, e, a, b, f, cell, imm, args, next, elz⟩ (.slice V al vc)).mono ?_;rintro e w10 ⟨⟨nv, rfl, hLst⟩, hb910⟩;obtain ⟨QA, qc, rfl, _, _, _⟩ := hLst;have hsz9 := Hb9.out.size;have hL10 := HL9.out.below hb910;have hP10 := HP9.out.below hb910 HP9.out.lt;have hb10 := Hb9.out.trans (hb910.mono (by omega));clear kp0 kp1 kp2 kp3 kp4 kp5 kp6 kp7 kp8 kp9 kp10 kp11;have q10 := Blk.cell hP10 10;simp only [List.getElem?_toArray, List.getElem?_cons_zero, List.getElem?_cons_succ] at q10;obtain ⟨ql, hql⟩ := mn ((nextL ⟨op, byo, d, e, a, b, f, cell, imm, args, next, elz⟩).length);rw [hql]
     have hn10 : (nd ns i).op ≠ 10 := by rw [Hx.out]; exact h10
     by_cases hnl : nextL (nd ns i) = []
     ·have hql0 : ql = 0 := by rw [<- hql, <- Hturn.out, turned_next.2 hnl]; rfl
      subst hql0
      have hfin : F = ⟨upd s.at_ i ol, s.out ++ [⟨op, byo, d, e, a, b, f, cell, imm, args, next, elz⟩], todoz⟩ := by
       have ht9 : (nd ns i).op ≠ 9 := fun h => absurd hnl (br_next h)
       have htd := Htd.out;rw [if_neg ht9] at htd;rw [<- hFq.out, runF_end Hat.out hn10 hnl, Hturn.out, htd, Hole.out]
      have hokF : LsOk N F := by
       rw [hfin];have h1 := hokq.out;have h2 := cardF_upd (v := ol) Hat.out hiN';have h3 := Hokz.out;exact ⟨by have := h1.out; simp; omega, by have := h1.todo; simp; omega, h3.2⟩
      rw [<- hfin] at hL10;obtain ⟨HL10, HP10, Hb10, Hb910, Hfin, HokF, Hn10, Hnl⟩ := hd8 hL10 hP10 hb10 hb910 hfin hokF hn10 hnl;have Hql := Lib.hid hql;clear hql hnl hn10 hokF hfin hb910 hb10 hP10 hL10;go_wp2_with fail;refine bodyPost_ret (results_none rfl _ _ _) rfl ?_;exact ⟨rfl, ⟨_, _, HL10.out⟩, HokF.out, Hb10.out⟩
     ·have hqlp : ¬ ql = 0 := fun h => hnl (turned_next.1 (Hturn.out ▸ List.eq_nil_of_length_eq_zero (hql.trans h)))
      have hq0 : ((ql : Int) == 0) = false := by simp [hqlp]
      have hY := hxn_out next (by have h := next_mem (x := nd ns i) hnl; rw [Hx.out] at h; exact h);obtain ⟨Y, rfl⟩ := Int.eq_ofNat_of_zero_le hY.1
      have hYN : Y < N := by omega
      obtain ⟨t2, ht2⟩ := mn (thru ns Y)
      have ht2N : t2 < N := by rw [<- ht2, <- HN.out]; exact thru_lt Hns.out.hop (by rw [HN.out]; exact hYN)
      have hthr2 := through_any hL10.blk (HG.out.below (hb10.mono hB)) (by have := hb10.size; omega) (by rw [Hnse.out]; exact Hns.out.hop) (by rw [Hnse.out, HN.out]; exact hn) Y (by rw [Hnse.out, HN.out]; exact hYN);rw [Hnse.out, ht2] at hthr2
      have hFm : runF ns fu (nextS ns s i) t2 = F := by
       rw [<- hFq.out, runF_more Hat.out hn10 hnl, Hx.out];show _ = runF ns fu _ (thru ns (Y : Int).toNat);rw [Int.toNat_natCast, ht2]
      have hnx : thru ns (nd ns i).next.toNat = t2 := by rw [Hx.out]; show thru ns (Y : Int).toNat = t2; rw [Int.toNat_natCast, ht2]
      have hcardz := cardF_upd (v := ol) Hat.out hiN'
      have hgk2 : N < fu + cardF (upd s.at_ i ol) N := by have := hgk.out; omega
      obtain ⟨HL10, HP10, Hb10, Hb910, Hn10, Hnl, Hql, Hqlp⟩ := hd8 hL10 hP10 hb10 hb910 hn10 hnl hql hqlp;obtain ⟨Ht2, Hthr2, HFm, Hnx, Hcardz, Hgk2⟩ := hd6 ht2 hthr2 hFm hnx hcardz hgk2;clear hgk2 hcardz hnx hFm hthr2 ht2 hqlp hql hnl hn10 hb910 hb10 hP10 hL10;go_wp2_with fail;refine Hthr2.out.mono ?_;rintro e w11 ⟨rfl, hb1011⟩;have hsz10 := Hb10.out.size;have hL11 := HL10.out.below hb1011;have hb11 := Hb10.out.trans (hb1011.mono (by omega));clear q10;have hBl11 := hL11.blk;have kl0 := bc hBl11 0;have kl1 := bc hBl11 1;have kl2 := bc hBl11 2;have kl3 := bc hBl11 3;have hl2 := IMap.look_ok (f := upd s.at_ i ol) hL11.map t2 (by omega)
      have hokn : LsOk N (nextS ns s i) := by
       have h1 := hokq.out;have h2 := Hcardz.out;have h3 := Hokz.out
       have hne : nextS ns s i = ⟨upd s.at_ i s.out.length, (s.out ++ [turned ns (nd ns i)]) ++ (if (upd s.at_ i s.out.length (thru ns (nd ns i).next.toNat)).isSome then [nopD (thru ns (nd ns i).next.toNat)] else []), todoz⟩ := by
        unfold nextS;rw [Htd.out]
       rw [hne, Hole.out];refine ⟨?_, by have := h1.todo; simp only; omega, h3.2⟩;have := h1.out;simp only [List.length_append, List.length_singleton]
       split
       ·simp only [List.length_singleton]; omega
       ·simp only [List.length_nil]; omega
      rcases hat2 : upd s.at_ i ol t2 with _ | c2
      ·rw [hat2] at hl2;have hl2 : (Instr.lookup 70 (.map (some M)) (.int .i64 t2) true).run Try.prog w11 = .ok (.tuple #[.int .i64 0, .bool false]) w11 := hl2
       have hnS : nextS ns s i = ⟨upd s.at_ i ol, s.out ++ [⟨op, byo, d, e, a, b, f, cell, imm, args, Y, elz⟩], todoz⟩ := by
        unfold nextS;rw [Htd.out, Hole.out, Hnx.out, hat2, Hturn.out];simp
       rw [hnS] at hokn;have hFm := HFm.out;rw [hnS] at hFm;obtain ⟨HL11, Hb11, Hb1011, HBl11, Hokn, Hat2, HnS, HFn⟩ := hd8 hL11 hb11 hb1011 hBl11 hokn hat2 hnS hFm;clear hFm hnS hat2 hokn hBl11 hb1011 hb11 hL11;go_wp2_with fail
       go_roundg fu
       case measure => omega
       case rel => exact ⟨t2, _, _, _, HL11, rfl, Lib.hid ht2N, HFn, Hgk2, Hokn, Hb11⟩
      ·rw [hat2] at hl2;have hl2 : (Instr.lookup 70 (.map (some M)) (.int .i64 t2) true).run Try.prog w11 = .ok (.tuple #[.int .i64 c2, .bool true]) w11 := hl2
       have hnS : nextS ns s i = ⟨upd s.at_ i ol, (s.out ++ [⟨op, byo, d, e, a, b, f, cell, imm, args, Y, elz⟩]) ++ [nopD t2], todoz⟩ := by
        unfold nextS;rw [Htd.out, Hole.out, Hnx.out, hat2, Hturn.out];simp
       rw [hnS] at hokn;have hFm := HFm.out;rw [hnS] at hFm;obtain ⟨css11, hcl11, hown11, hcs11⟩ := hL11.out
       have hlen11 : (s.out ++ [(⟨op, byo, d, e, a, b, f, cell, imm, args, Y, elz⟩ : NodeD)]).length = ol + 1 := by simp [Hole.out]
       simp only [hlen11] at hown11 hcl11;obtain ⟨HL11, Hb11, Hb1011, HBl11, Hokn, Hat2, HnS, HFn⟩ := hd8 hL11 hb11 hb1011 hBl11 hokn hat2 hnS hFm;obtain ⟨Hcl11, Hown11, Hcs11, Hlen11⟩ := hd4 hcl11 hown11 hcs11 hlen11;clear hlen11 hcs11 hown11 hcl11 hFm hnS hat2 hokn hBl11 hb1011 hb11 hL11
       have hov11 : some lp ≠ (Value.slice A8 (ol + 1) x8).ownBlock := fun e => own_blk_ne Hown11.out HBl11.out (by decide) e.symm
       go_wp2_with (first
        | (at_builtin
           refine wpList_append_any _ rfl (.tmp 109) (.tmp 112) _ rfl base 52 iN _ 12 104 Try.underlying46 hiN0 nz0 nz1 nz2 rfl (by omega) (.slice A8 (ol + 1) x8) (ol + 1) css11.flatten rfl (Hown11.out.alloc _) (w11.heap.size + 1) (some ⟨w11.heap.size, 0, none⟩) 1 1 (ncells (nopD t2) (.slice none 0 0)) rfl (Reads.newS _ rfl _ _ _ _ _ rfl rfl) ?c1 ?c2 ?c3 ?c4 ?_
           case c1 => intro u hu; simp only [ncells, List.mem_cons, List.not_mem_nil, or_false] at hu; rcases hu with rfl | rfl | rfl | rfl | rfl | rfl | rfl | rfl | rfl | rfl | rfl | rfl <;> rfl
           case c2 => simp only [maxLen]; omega
           case c3 => omega
           case c4 => have := Hb11.out.size; simp; omega
           intro v12 w12 hown12 hg12 hat12;obtain ⟨A12, x12, rfl, _⟩ := own_any hown12;have hB12 := (HBl11.out.alloc _).grown hg12 hov11;have k12 := Blk.cell hB12 2;have f12 := Blk.frozen hB12 2;simp only [List.getElem?_toArray, List.getElem?_cons_zero, List.getElem?_cons_succ] at k12;have Hown12 := Lib.hid hown12;have Hg12 := Lib.hid hg12;have HB12 := Lib.hid hB12
           clear hB12 hat12 hg12 hown12))
       have hg12' : w11.grownBy w12 (Value.slice A8 (ol + 1) x8).ownBlock := (World.grownBy_alloc w11 _ _).trans Hg12.out;have hL13 := HL11.out.push (w' := w12) (v' := .slice A12 (ol + 1 + 1) x12) (x := nopD t2) (av := .slice none 0 0) (css := css11) (by simp only [Hlen11.out]; exact Hcl11.out) (by simp only [Hlen11.out]; exact Hown11.out) Hcs11.out (World.ownsRow_nil _ _ _ _) nofun (by simp only [Hlen11.out]; exact Hown12.out) hg12';have hb13 := (Hb11.out.grown hg12' (by have := Hb11.out.size; omega) (fun g e => (Hown11.out.lt g e).1)).setCell (p := ⟨lp, 2, none⟩) hlo.1 (.slice A12 (ol + 1 + 1) x12)
       go_roundg fu
       case measure => omega
       case rel => exact ⟨t2, _, _, _, Lib.hid hL13, rfl, Lib.hid ht2N, HFn, Hgk2, Hokn, Lib.hid hb13⟩
  ·rw [hat] at hl;have hl : (Instr.lookup 70 (.map (some M)) (.int .i64 i) true).run Try.prog wr = .ok (.tuple #[.int .i64 c, .bool true]) wr := hl
   have hfin : F = s := by rw [<- hFq.out]; exact runF_there hat gk
   obtain ⟨HBl, HMp, HGq, Hat, Hfin⟩ := hd5 hBl hMp hGq hat hfin;clear hfin hat hGq hMp hBl;go_wp2_with fail;refine bodyPost_ret (results_none rfl _ _ _) rfl ?_;rw [Hfin.out];exact ⟨rfl, ⟨_, _, hLq.out⟩, hokq.out, hbq.out⟩
end Go.Proofs.Ytncpehhfjkncoaa
