/- Part of the proof, named by its texts: LinRun LinLineP BitC Bv. No condition of its own. -/
import Derived.Test.YtnfjjliiajaijaaDoorPfAA
import Derived.Test.YtnfjjliiajaijaaDoorPfAF
import Derived.Deep.RegionHeld3
import Derived.Deep.RegionWith
import Derived.Test.YtnfjjliiajaijaaDoorPfAC
import Derived.Test.YtnfjjliiajaijaaDoorPfAE
import Derived.Test.YtnfjjliiajaijaaDoorRows
import Derived.WalkKit
import Derived.WalkSpells
import Derived.WalkLawsBesides
import Derived.Lib.Hide
set_option linter.unusedVariables false
set_option linter.unusedSimpArgs false
set_option maxRecDepth 100000
set_option maxHeartbeats 16000000
namespace Go.Proofs.YtnfjjliiajaijaaDoor
open Go.RowKit
structure zl7 (N : Nat) (s : LS) : Prop where
 out : s.out.length <= 2 * zbJ s.at_ N
 todo : s.todo.length <= 1 + zbJ s.at_ N
 lt : ∀ i ∈ s.todo, i < N
theorem zfT {w : World} {B c : Nat} {A : Option Addr} {ns : List zam} {N : Nat} (h : zaE 12 zbj w B (.slice A N c) ns) {x : Nat} (hx : x < ns.length) :
  ∃ ad av, A = some ad /\ zaO .i64 w B av (nd ns x).args /\ (∀ u, (zae (nd ns x) av)[0]? = some u -> w.cell? (ad.add (x * 12)) = some u) /\ ∀ j u, 0 < j -> (zae (nd ns x) av)[j]? = some u -> w.cell? ⟨(ad.add (x * 12)).block, (ad.add (x * 12)).off + j, none⟩ = some u := by
 obtain ⟨ad, cs, hA, _, _, _, hNode, n0, nj⟩ := zaE.at_ h (zl2 hx);obtain ⟨av, rfl, hav⟩ := hNode;exact ⟨ad, av, hA, hav, n0, nj⟩
theorem zc4 {W : World} {lp P : Nat} {t1 t2 : TypeId} {p0 p1 OV p3 q0 q1 q2 q3 q4 q5 q6 q7 q8 q9 q10 q11 : Value} (hL : Blk W lp t1 #[p0, p1, OV, p3]) (hP : Blk W P t2 #[q0, q1, q2, q3, q4, q5, q6, q7, q8, q9, q10, q11]) :
  W.cell? ⟨lp, 2, none⟩ = some OV /\ W.cell? ⟨P, 0, none⟩ = some q0 /\ W.cell? ⟨P, 1, none⟩ = some q1 /\ W.cell? ⟨P, 2, none⟩ = some q2 /\ W.cell? ⟨P, 3, none⟩ = some q3 /\ W.cell? ⟨P, 4, none⟩ = some q4 /\ W.cell? ⟨P, 5, none⟩ = some q5 /\ W.cell? ⟨P, 6, none⟩ = some q6 /\ W.cell? ⟨P, 7, none⟩ = some q7 /\ W.cell? ⟨P, 8, none⟩ = some q8 /\ W.cell? ⟨P, 9, none⟩ = some q9 /\ W.cell? ⟨P, 10, none⟩ = some q10 /\ W.cell? ⟨P, 11, none⟩ = some q11 :=
 ⟨hL.cell 2, hP.cell 0, hP.cell 1, hP.cell 2, hP.cell 3, hP.cell 4, hP.cell 5, hP.cell 6, hP.cell 7, hP.cell 8, hP.cell 9, hP.cell 10, hP.cell 11⟩
theorem Blk.set12_9 {w : World} {g : Nat} {t : TypeId} {q0 q1 q2 q3 q4 q5 q6 q7 q8 q9 q10 q11 : Value} (h : Blk w g t #[q0, q1, q2, q3, q4, q5, q6, q7, q8, q9, q10, q11]) (u : Value) : Blk (w.setCell ⟨g, 9, none⟩ u) g t #[q0, q1, q2, q3, q4, q5, q6, q7, q8, u, q10, q11] := by simpa using h.set_ 9 u
theorem Blk.set12_10 {w : World} {g : Nat} {t : TypeId} {q0 q1 q2 q3 q4 q5 q6 q7 q8 q9 q10 q11 : Value} (h : Blk w g t #[q0, q1, q2, q3, q4, q5, q6, q7, q8, q9, q10, q11]) (u : Value) : Blk (w.setCell ⟨g, 10, none⟩ u) g t #[q0, q1, q2, q3, q4, q5, q6, q7, q8, q9, u, q11] := by simpa using h.set_ 10 u
theorem Blk.set12_11 {w : World} {g : Nat} {t : TypeId} {q0 q1 q2 q3 q4 q5 q6 q7 q8 q9 q10 q11 : Value} (h : Blk w g t #[q0, q1, q2, q3, q4, q5, q6, q7, q8, q9, q10, q11]) (u : Value) : Blk (w.setCell ⟨g, 11, none⟩ u) g t #[q0, q1, q2, q3, q4, q5, q6, q7, q8, q9, q10, u] := by simpa using h.set_ 11 u
theorem zmh {w : World} {B base lp M : Nat} {ga : Addr} {g : zad} {pv kv iv nv ov tv : Value} {s : LS} (hG : zdc w B ga g pv kv iv nv) (hB : B <= base) (hbase : base <= w.heap.size) (hns : zjM g.nodes) (hL : zcm w base lp M ga g.nodes.length ov tv s) (hok : zl7 g.nodes.length s) (i : Nat) (hi : i < g.nodes.length) :
  Calls Tryd.prog 58 #[.pointer (some ⟨lp, 0, none⟩), .int .i64 i] w fun e w' => e = .returned (.tuple #[]) /\ (∃ ov' tv', zcm w' base lp M ga g.nodes.length ov' tv' (zeC g.nodes (g.nodes.length + 1) s i)) /\ zl7 g.nodes.length (zeC g.nodes (g.nodes.length + 1) s i) /\ Below base w w' := by
 obtain ⟨F, hF⟩ := mn (zeC g.nodes (g.nodes.length + 1) s i);rw [hF];obtain ⟨NA, nc, rfl, _, _⟩ := hG.nodes.slice;obtain ⟨ns, hnse⟩ := mn (g.nodes);rw [hnse] at hns hL hok hi hF ⊢;obtain ⟨N, hN⟩ := mn (ns.length);rw [hN] at hL hok hi hF ⊢;have hn := hns.len;rw [hN] at hn;have hlo := hL.lo;have hLl := hL.blk.lt;obtain ⟨iN, hiN0, nz0, nz1, nz2⟩ := info_parts ziH;obtain ⟨iI, hiI, iz0, iz1, iz2⟩ := info_parts zdQ;obtain ⟨HG, Hns, HF, HN, Hnse, HL, Hok⟩ := hd7 hG hns hF hN hnse hL hok;clear hok hL hnse hN hF hns hG;go_enter Tryd.func58, Tryd.ntmps58;go_wp2_with fail
 go_loopg [1] (N + 1) (fun gk iv wr => ∃ (i : Nat) (s : LS) (ov tv : Value), Hid (zcm wr base lp M ga N ov tv s) /\ iv = .int .i64 i /\ Hid (i < N) /\ Hid (zeC ns gk s i = F) /\ Hid (N < gk + zbJ s.at_ N) /\ Hid (zl7 N s) /\ Hid (Below base w wr))
 case atStart => exact ⟨i, s, ov, tv, HL, rfl, Lib.hid hi, HF, Lib.hid (by omega), Hok, Lib.hid (Below.refl _ _)⟩
 case round =>
  obtain ⟨i, s, ov, tv, hLq, rfl, hiN, hFq, hgk, hokq, hbq⟩ := hrel;have hBl := hLq.out.blk;have hMp := hLq.out.map;have kl0 := bc hBl 0;have kl1 := bc hBl 1;have kl2 := bc hBl 2;have kl3 := bc hBl 3;have hGq := HG.out.below (hbq.out.mono hB);have g6 := hGq.c6;rw [Hnse.out, HN.out] at g6;have hl := hMp.look_ok i (by have := hiN.out; omega)
  rcases hat : s.at_ i with _ | c
  ·rw [hat] at hl;have hl : (Instr.lookup 64 (.map (some M)) (.int .i64 i) true).run Tryd.prog wr = .ok (.tuple #[.int .i64 0, .bool false]) wr := hl;have hiN' := hiN.out;have hszq := hbq.out.size
   obtain ⟨fu, rfl⟩ : ∃ fu, gk = fu + 1 := ⟨gk - 1, by have := zgk hat hiN'; have := hgk.out; omega⟩
   obtain ⟨css, hcl, hOo, hcs⟩ := hLq.out.out;obtain ⟨OA, oc, rfl, hoc1, hoc2, _⟩ := zak hOo
   have hol : s.out.length <= 8192 := by have := hokq.out.out; have := zcE (f := s.at_) N; omega
   obtain ⟨w1, hput, hM1, hg1⟩ := hMp.drew.put i s.out.length (by omega) (by omega) (by have := zcE (f := s.at_) N; unfold maxLen; omega)
   have hg1 : wr.grownBy w1 (some M) := ⟨hg1.os, hg1.tape, hg1.output, hg1.size, fun k hk hn => hg1.block k hk hn⟩
   obtain ⟨ol, hole⟩ := mn (s.out.length);rw [hole] at hput hol kl2 hoc1;have hL1 := hLq.out.put hat hiN' (w' := w1) (k := ol) (by rw [<- hole]; exact hM1) hg1
   have hb1 : Below base w w1 := (hbq.out.grown hg1 (by omega) (fun g e => by injection e with e; omega))
   have kw1 := hL1.blk.cell 1;have kw2 := hL1.blk.cell 2;simp only [List.getElem?_toArray, List.getElem?_cons_zero, List.getElem?_cons_succ] at kw1 kw2;rw [hole] at kw2 hL1;obtain ⟨HBl, HMp, HGq, Hat, Hcl, HOo, Hcs, HM1⟩ := hd8 hBl hMp hGq hat hcl hOo hcs hM1;obtain ⟨Hg1, Hole, HL1, Hb1⟩ := hd4 hg1 hole hL1 hb1;clear hb1 hL1 hole hg1 hM1 hcs hOo hcl hat hGq hMp hBl;go_upto_region 2 with fail
   go_region_held3 (fun W => W.cell? ⟨lp, 1, none⟩ = some (.map (some M)) /\ W.cell? ⟨lp, 2, none⟩ = some (.slice OA ol oc)) (first | exact ⟨kl1, kl2⟩ | exact ⟨kw1, kw2⟩) (fail)
   clear kl0 kl1 kl2 kl3 g6 hl hput;have hG1 := HG.out.below (Hb1.out.mono hB);have g6 := hG1.c6;rw [Hnse.out, HN.out] at g6;have hsz1 := Hb1.out.size;obtain ⟨nad, av, hNA, hav, nc0, ncj⟩ := zfT (show zaE 12 zbj w1 B (.slice NA N nc) ns by have := hG1.nodes; rwa [Hnse.out, HN.out] at this) (x := i) (by rw [HN.out]; exact hiN');subst hNA;obtain ⟨x, hx⟩ := mn (nd ns i)
   have hxm : x ∈ ns := by rw [<- hx]; exact zfw (by rw [HN.out]; exact hiN')
   rw [hx] at hav nc0 ncj;have hxa := Hns.out.args x hxm;have hxn := Hns.out.next x hxm;rw [HN.out] at hxn;obtain ⟨op, byo, d, e, a, b, f, cell, imm, args, next, els⟩ := x;obtain ⟨AA, ac, rfl, hac1, hac2, hAr⟩ := hav.slice;obtain ⟨al, hal⟩ := mn (args.length);simp only [hal] at hAr hac1 hxa nc0 ncj;have c0 := nc0 _ rfl;have c1 := ncj 1 _ (by omega) rfl;have c2 := ncj 2 _ (by omega) rfl;have c3 := ncj 3 _ (by omega) rfl;have c4 := ncj 4 _ (by omega) rfl;have c5 := ncj 5 _ (by omega) rfl;have c6 := ncj 6 _ (by omega) rfl;have c7 := ncj 7 _ (by omega) rfl;have c8 := ncj 8 _ (by omega) rfl;have c9 := ncj 9 _ (by omega) rfl;have c10 := ncj 10 _ (by omega) rfl;have c11 := ncj 11 _ (by omega) rfl;clear nc0 ncj;simp only [zae] at c0 c1 c2 c3 c4 c5 c6 c7 c8 c9 c10 c11;have hL1' := HL1.out.blk;have kl0 := bc hL1' 0;have kl1 := bc hL1' 1;have kl2 := bc hL1' 2;have kl3 := bc hL1' 3
   have hxi : (i : Int) < N := by omega
   have hP2 := Blk.new w1 55 #[.int .u8 op, .int .u8 byo, .int .i64 d, .int .i64 e, .int .i64 a, .int .i64 b, .int .i64 f, .int .i64 cell, .int .u64 imm, .slice AA al ac, .int .i64 next, .int .i64 els];have hb12 : Below w1.heap.size w1 (w1.alloc (.cells #[.int .u8 op, .int .u8 byo, .int .i64 d, .int .i64 e, .int .i64 a, .int .i64 b, .int .i64 f, .int .i64 cell, .int .u64 imm, .slice AA al ac, .int .i64 next, .int .i64 els] 55)) := (Below.refl _ _).alloc (Nat.le_refl _) _;obtain ⟨P, hP⟩ := nm (w1.heap.size);obtain ⟨w2, hw2⟩ := nm (w1.alloc (.cells #[.int .u8 op, .int .u8 byo, .int .i64 d, .int .i64 e, .int .i64 a, .int .i64 b, .int .i64 f, .int .i64 cell, .int .u64 imm, .slice AA al ac, .int .i64 next, .int .i64 els] 55));rw [<- hw2] at hP2 hb12;rw [<- hP] at hP2;have hL2 := HL1.out.below hb12
   have hOo_lt : ∀ g, (Value.slice OA ol oc).ownBlock = some g -> g < P := fun g hg => by
    obtain ⟨css1, _, h1, _⟩ := HL1.out.out;rw [hP]; exact (h1.lt g hg).2
   have hbz1 : base <= w1.heap.size := by omega
   have hb2 := Hb1.out.trans (hb12.mono hbz1);have hA2 := hAr.below (hb12.mono (Nat.le_trans hB hbz1));have hsz2 := hb12.size;have hxn_out : ∀ t ∈ zaR ⟨op, byo, d, e, a, b, f, cell, imm, args, next, els⟩, 0 <= t /\ t < N := hxn;obtain ⟨HG1, Hav, Hx, Hxm, Hxn, HAr, Hal, HL1'⟩ := hd8 hG1 hav hx hxm hxn hAr hal hL1';obtain ⟨HP2, Hb12, HP, Hw2, HL2, Hb2, HA2⟩ := hd7 hP2 hb12 hP hw2 hL2 hb2 hA2;clear hA2 hb2 hL2 hw2 hP hb12 hP2 hL1' hal hAr hxn hxm hx hav hG1;go_upto_region 4 with fail;rw [<- Hw2.out, <- HP.out];clear c0 c1 c2 c3 c4 c5 c6 c7 c8 c9 c10 c11;have hP2' := HP2.out;have kp9 := bc hP2' 9;have HP2' := Lib.hid hP2';clear hP2';go_wp2_with fail;refine (zeQ AA al ac (args.map (Value.int .i64)) w2 B HA2.out (zbW _ _) (by have := hac1; omega) hac2 (by omega) (by omega)).mono ?_;rintro e w3 ⟨hb23, V, vc, rfl, hV3⟩;have hP3 := HP2.out.below hb23 HP2.out.lt;have hL3 := HL2.out.below hb23;have hb3 := Hb2.out.trans (hb23.mono (by omega));have kp9' := Blk.frozen hP3 9;have kp9'' := Blk.cell hP3 9;simp only [List.getElem?_toArray, List.getElem?_cons_zero, List.getElem?_cons_succ] at kp9'';have hP4 := hP3.set12_9 (.slice V al vc)
   have hPge : base <= P := by rw [HP.out]; exact hbz1
   have hlpP : lp ≠ P := by have := HL1.out.blk.lt; rw [<- HP.out] at this; omega
   have hOAP : (Value.slice OA ol oc).ownBlock ≠ some P := fun e => by
    have := (hOo_lt : ∀ g, (Value.slice OA ol oc).ownBlock = some g -> g < P) P e
    omega
   have hL4 := hL3.far (p := ⟨P, 9, none⟩) hlpP hP3 hOAP (by decide) (.slice V al vc);have hb4 := hb3.setCell (p := ⟨P, 9, none⟩) hPge (.slice V al vc);have hI3 : zat w3 base (.slice V al vc) args := zat.base (by unfold zat; rw [Hal.out]; exact hV3) (by omega);have hI4 : zat (w3.setCell ⟨P, 9, none⟩ (.slice V al vc)) base (.slice V al vc) args := (za8.blk (e := 3) hP3 (by decide)).own_keep hI3 (zar w3 ⟨P, 9, none⟩ (.slice V al vc))
   have hVt : ∀ g, (Value.slice V al vc).ownBlock = some g -> tv.ownBlock ≠ some g := fun g hg e => by
    obtain ⟨g', h1, _, h2⟩ := HL2.out.todo.block;have h3 := (hV3.lt g hg).1;rw [e] at h1;injection h1 with h1
    omega
   obtain ⟨Hb23, HV3, HP3, HL3, Hb3, HP4, HL4, Hb4⟩ := hd8 hb23 hV3 hP3 hL3 hb3 hP4 hL4 hb4;obtain ⟨HI3, HI4, HVt⟩ := hd3 hI3 hI4 hVt;clear hVt hI4 hI3 hb4 hL4 hP4 hb3 hL3 hP3 hV3 hb23;go_upto_region 5 with fail;obtain ⟨w4, hw4⟩ := nm (w3.setCell ⟨P, 9, none⟩ (.slice V al vc));rw [<- hw4];rw [<- hw4] at HP4 HL4 Hb4 HI4;have Hw4 := Lib.hid hw4;clear hw4;have hP4 := HP4.out;clear kp9 kp9' kp9'';have kp0 := bc hP4 0;have kp1 := bc hP4 1;have kp2 := bc hP4 2;have kp3 := bc hP4 3;have kp4 := bc hP4 4;have kp5 := bc hP4 5;have kp6 := bc hP4 6;have kp7 := bc hP4 7;have kp8 := bc hP4 8;have kp9 := bc hP4 9;have kp10 := bc hP4 10;have kp11 := bc hP4 11;have fp10 := Blk.frozen hP4 10;have fp11 := Blk.frozen hP4 11;have hP4l := hP4.lt
   by_cases h10 : op = 10
   ·subst h10;have hq10 : ((10 : Int) == 10) = true := rfl;have hP5 := HP4.out.set12_10 (.int .i64 i);have hL5 := HL4.out.far (p := ⟨P, 10, none⟩) hlpP HP4.out hOAP (by decide) (.int .i64 i);have hb5 := Hb4.out.setCell (p := ⟨P, 10, none⟩) hPge (.int .i64 i);have hI5 : zat (w4.setCell ⟨P, 10, none⟩ (.int .i64 i)) base (.slice V al vc) args := (za8.blk (e := 3) HP4.out (by decide)).own_keep HI4.out (zar w4 ⟨P, 10, none⟩ (.int .i64 i));obtain ⟨css5, hcl5, hown5, hcs5⟩ := hL5.out;rw [Hole.out] at hown5 hcl5;obtain ⟨HP4, HP5, HL5, Hb5, HI5, Hcl5, Hown5, Hcs5⟩ := hd8 hP4 hP5 hL5 hb5 hI5 hcl5 hown5 hcs5;clear hcs5 hown5 hcl5 hI5 hb5 hL5 hP5 hP4;go_upto_region 7 with fail;obtain ⟨w5, hw5⟩ := nm (w4.setCell ⟨P, 10, none⟩ (.int .i64 i));rw [<- hw5];rw [<- hw5] at HP5 HL5 Hb5 HI5 Hown5 Hcs5;clear kp0 kp1 kp2 kp3 kp4 kp5 kp6 kp7 kp8 kp9 kp10 kp11 fp10 fp11;have Hw5 := Lib.hid hw5;clear hw5;refine zaf (S := fun W => W.cell? ⟨lp, 2, none⟩ = some (.slice OA ol oc) /\ W.cell? ⟨P, 0, none⟩ = some (.int .u8 10) /\ W.cell? ⟨P, 1, none⟩ = some (.int .u8 byo) /\ W.cell? ⟨P, 2, none⟩ = some (.int .i64 d) /\ W.cell? ⟨P, 3, none⟩ = some (.int .i64 e) /\ W.cell? ⟨P, 4, none⟩ = some (.int .i64 a) /\ W.cell? ⟨P, 5, none⟩ = some (.int .i64 b) /\ W.cell? ⟨P, 6, none⟩ = some (.int .i64 f) /\ W.cell? ⟨P, 7, none⟩ = some (.int .i64 cell) /\ W.cell? ⟨P, 8, none⟩ = some (.int .u64 imm) /\ W.cell? ⟨P, 9, none⟩ = some (.slice V al vc) /\ W.cell? ⟨P, 10, none⟩ = some (.int .i64 i) /\ W.cell? ⟨P, 11, none⟩ = some (.int .i64 els)) #[false, false, false, false, false, false, false, false, false, false, true] (by kernel_rfl) (zc4 HL5.out.blk HP5.out) (fun hHeld => ?_);refine zaa 0 ?_;refine zaa 1 ?_;refine zaa 2 ?_;refine zaa 3 ?_;refine zaa 4 ?_;refine zaa 5 ?_;refine zag 6 (fun K hK => ?_);go_simp;refine hK.out _ _ (zc4 (HL5.out.blk.alloc _) (HP5.out.alloc _)) (fun hHeld2 => ?_);clear hK K hHeld;refine lay ?_;refine zag 7 (fun K hK => ?_);refine zaB _ rfl (.tmp 52) (.tmp 54) _ rfl base 55 iN _ 12 104 Tryd.underlying42 hiN0 nz0 nz1 nz2 rfl (by omega) (.slice OA ol oc) ol css5.flatten rfl (Hown5.out.alloc _) (w5.heap.size + 1) (some ⟨w5.heap.size, 0, none⟩) 1 1 (zae ⟨10, byo, d, e, a, b, f, cell, imm, args, i, els⟩ (.slice V al vc)) rfl (zal.newS _ rfl _ _ _ _ _ rfl rfl) ?c1 ?c2 ?c3 ?c4 ?_
    case c1 => intro u hu; simp only [zae, List.mem_cons, List.not_mem_nil, or_false] at hu; rcases hu with rfl | rfl | rfl | rfl | rfl | rfl | rfl | rfl | rfl | rfl | rfl | rfl <;> rfl
    case c2 => simp only [maxLen]; omega
    case c3 => omega
    case c4 => have := Hb5.out.size; simp; omega
    intro v6 w6 hown6 hg6 hat6;obtain ⟨A6, x6, rfl, _⟩ := zak hown6;have hg6' : w5.grownBy w6 (Value.slice OA ol oc).ownBlock := (zb8 (World.grownBy_alloc w5 _ _)).trans hg6;have hL6 := HL5.out.push (w' := w6) (v' := .slice A6 (ol + 1) x6) (x := ⟨10, byo, d, e, a, b, f, cell, imm, args, i, els⟩) (av := .slice V al vc) (css := css5) (by rw [Hole.out]; exact Hcl5.out) (by rw [Hole.out]; exact Hown5.out) Hcs5.out HI5.out HVt.out (by rw [Hole.out]; exact hown6) hg6';have hP6 : Blk w6 P 55 _ := HP5.out.grown hg6' (fun e => hOAP e.symm);have hB6 : Blk w6 lp 121 _ := HL5.out.blk.grown hg6' (fun e => zaq Hown5.out HL5.out.blk (by decide) e.symm);have hb6 := (Hb5.out.grown hg6' (by have := Hb5.out.size; omega) (fun g e => (Hown5.out.lt g e).1)).setCell (p := ⟨lp, 2, none⟩) hlo.1 (.slice A6 (ol + 1) x6);have f62 := Blk.frozen hB6 2;refine hK.out _ _ (zc4 hB6 hP6) (fun hHeld3 => ?_);clear hK K hHeld2;refine lay ?_;refine zaa 8 ?_;refine zaa 9 ?_
    have hfin : F = ⟨upd s.at_ i ol, s.out ++ [⟨10, byo, d, e, a, b, f, cell, imm, args, i, els⟩], s.todo⟩ := by
     rw [<- hFq.out, zej Hat.out (by rw [Hx.out]), Hx.out, Hole.out]
    have hokF : zl7 N F := by
     rw [hfin];have h1 := hokq.out;have h2 := zcc (v := ol) Hat.out hiN';exact ⟨by have := h1.out; simp; omega, by have := h1.todo; simp; omega, h1.lt⟩
    rw [<- hfin] at hL6;obtain ⟨Hown6, Hg6, Hat6, Hg6', HL6, HP6, HB6, Hb6⟩ := hd8 hown6 hg6 hat6 hg6' hL6 hP6 hB6 hb6;obtain ⟨Hfin, HokF⟩ := hd2 hfin hokF;clear hokF hfin hb6 hB6 hP6 hL6 hg6' hat6 hg6 hown6;refine zao 10 (fun K hK => ?_);go_simp;refine hK.out _ _ ?_;clear hK K hHeld3;refine zai (by kernel_rfl) ?_ _;go_wp2_with fail;refine bodyPost_ret (results_none rfl _ _ _) rfl ?_;exact ⟨rfl, ⟨_, _, HL6.out⟩, HokF.out, Hb6.out⟩
   ·have hq10 : (op == 10) = false := by simp [h10]
    have hsz4 := Hb4.out.size
    by_cases h9 : op = 9
    case' pos =>
     have hq9 : (op == 9) = true := by simp [h9]
     have hE : 0 <= els /\ els < N := by
      by_cases he : els = next
      ·rw [he]; exact hxn_out next (by simp [zaR, he, h9])
      ·exact hxn_out els (by simp [zaR, he, h9])
     obtain ⟨E, rfl⟩ := Int.eq_ofNat_of_zero_le hE.1
     have hEN : E < N := by omega
     obtain ⟨t, ht⟩ := mn (zcU ns E)
     have htN : t < N := by rw [<- ht, <- HN.out]; exact zeG Hns.out.hop (by rw [HN.out]; exact hEN)
     have hthr := zd5 HL4.out.blk (HG.out.below (Hb4.out.mono hB)) (by omega) (by rw [Hnse.out]; exact Hns.out.hop) (by rw [Hnse.out, HN.out]; exact hn) E (by rw [Hnse.out, HN.out]; exact hEN);rw [Hnse.out, ht] at hthr;obtain ⟨HP4, Ht, Hthr⟩ := hd3 hP4 ht hthr;clear hthr ht hP4;go_wp2_with fail;refine Hthr.out.mono ?_;rintro e w5 ⟨rfl, hb45⟩
     have hsz4' : base <= w4.heap.size := by omega
     have hP5 := HP4.out.below hb45 HP4.out.lt;have hL5 := HL4.out.below hb45;have hb5 := Hb4.out.trans (hb45.mono hsz4');have hI5 : zat w5 base (.slice V al vc) args := zaX HI4.out (zah hb45 none) nofun;have q11 := Blk.cell hP5 11;simp only [List.getElem?_toArray, List.getElem?_cons_zero, List.getElem?_cons_succ] at q11;have f11 := Blk.frozen hP5 11;have hP6 := hP5.set12_11 (.int .i64 t);have hL6 := hL5.far (p := ⟨P, 11, none⟩) hlpP hP5 hOAP (by decide) (.int .i64 t);have hb6 := hb5.setCell (p := ⟨P, 11, none⟩) hPge (.int .i64 t);have hI6 : zat (w5.setCell ⟨P, 11, none⟩ (.int .i64 t)) base (.slice V al vc) args := (za8.blk (e := 3) hP5 (by decide)).own_keep hI5 (zar w5 ⟨P, 11, none⟩ (.int .i64 t));obtain ⟨Hb45, HP5, HL5, Hb5, HI5, HP6, HL6, Hb6⟩ := hd8 hb45 hP5 hL5 hb5 hI5 hP6 hL6 hb6;have HI6 := Lib.hid hI6;clear hI6 hb6 hL6 hP6 hI5 hb5 hL5 hP5 hb45;clear kp0 kp1 kp2 kp3 kp4 kp5 kp6 kp7 kp8 kp9 kp10 kp11 fp10 fp11;go_upto_region 10 with fail;obtain ⟨w6, hw6⟩ := nm (w5.setCell ⟨P, 11, none⟩ (.int .i64 t));rw [<- hw6];rw [<- hw6] at HP6 HL6 Hb6 HI6;have Hw6 := Lib.hid hw6;clear hw6;refine zaf (S := fun W => W.cell? ⟨lp, 3, none⟩ = some tv /\ W.cell? ⟨P, 11, none⟩ = some (.int .i64 t)) #[false, false, false, false, false, false, false, false, false, false, false, true] (by kernel_rfl) ⟨HL6.out.blk.cell 3, HP6.out.cell 11⟩ (fun hHeld => ?_);refine zaa 0 ?_;refine zaa 1 ?_;refine zaa 2 ?_;refine zaa 3 ?_;refine zaa 4 ?_;refine zaa 5 ?_;refine zaa 6 ?_;refine zag 7 (fun K hK => ?_);go_simp;refine hK.out _ _ ⟨(HL6.out.blk.alloc _).cell 3, (HP6.out.alloc _).cell 11⟩ (fun hHeld2 => ?_);clear hK K hHeld;refine lay ?_;refine zag 8 (fun K hK => ?_)
     have htl : (s.todo.map fun i => Value.int .i64 (i : Nat)).length <= 4097 := by
      rw [List.length_map];have := hokq.out.todo;have := zcE (f := s.at_) N
      omega
     refine ze6 _ rfl (.tmp 70) (.tmp 73) 40 rfl base 3 iI _ 8 Tryd.underlying40 hiI iz0 iz1 iz2 rfl tv (s.todo.map fun i => Value.int .i64 (i : Nat)) rfl (HL6.out.todo.alloc _) ⟨w6.heap.size, 0, none⟩ 1 (.int .i64 t) rfl ?c1 rfl ?c2 ?c3 ?c4 ?_
     case c1 => exact Blk.cell (Blk.new w6 3 #[.int .i64 t]) 0
     case c2 => simp only [maxLen]; omega
     case c3 => omega
     case c4 => have := Hb6.out.size; simp; omega
     intro tz w7 hT7 hg7 hat7;have hg7' : w6.grownBy w7 tv.ownBlock := (zb8 (World.grownBy_alloc w6 _ _)).trans hg7
     obtain ⟨TA, tl, tc, rfl⟩ : ∃ TA tl tc, tz = .slice TA tl tc := by
      obtain ⟨TA, tc, h, _⟩ := hT7.form;exact ⟨TA, _, tc, h⟩
     have hLa := HL6.out.below (w' := (w6.alloc (.cells #[.int .i64 t] 3)).drew) (((Below.refl _ _).alloc (Nat.le_refl _) _).drew);have hL7 := hLa.more (i := t) hT7 hg7 hat7;obtain ⟨gT, hgT, hgT1, hgT2⟩ := HL6.out.todo.block
     have hPt : some P ≠ tv.ownBlock := fun e => by
      rcases za8.tail (e := 55) HL6.out.todo (by decide) P e.symm with h | h
      ·have := HP6.out.lt; omega
      ·exact h _ HP6.out
     have hLt : some lp ≠ tv.ownBlock := fun e => by
      rcases za8.tail (e := 121) HL6.out.todo (by decide) lp e.symm with h | h
      ·have := HL6.out.blk.lt; omega
      ·exact h _ HL6.out.blk
     have hP7 := HP6.out.grown hg7' hPt;have hB7 := HL6.out.blk.grown hg7' hLt
     have hI7 : zat w7 base (.slice V al vc) args := World.ownsRow.kept HI6.out hg7' (by
      rcases hv : (Value.slice V al vc).ownBlock with _ | g'
      ·exact .inl rfl
      ·exact .inr fun e => HVt.out g' hv e.symm)
     have hVt7 : ∀ g, (Value.slice V al vc).ownBlock = some g -> (Value.slice TA tl tc).ownBlock ≠ some g := fun g hg e => by
      rcases hat7 with h | h
      ·rw [h] at e; exact HVt.out g hg e
      ·rw [h] at e;injection e with e;have h2 := (HI6.out.lt g hg).2;simp at e
       omega
     have hb7 := Hb6.out.grown hg7' (by have := Hb6.out.size; omega) (fun g e => by rw [hgT] at e; injection e with e; omega);have f73 := Blk.frozen hB7 3;have hIz : zat (w7.setCell ⟨lp, 3, none⟩ (.slice TA tl tc)) base (.slice V al vc) args := (za8.blk (e := 3) hB7 (by decide)).own_keep hI7 (zar w7 ⟨lp, 3, none⟩ (.slice TA tl tc));have hPz := hP7.far (p := ⟨lp, 3, none⟩) (fun e => hlpP e.symm) (.slice TA tl tc);have hbz := hb7.setCell (p := ⟨lp, 3, none⟩) hlo.1 (.slice TA tl tc);refine hK.out _ _ ⟨hB7.cell 3, hP7.cell 11⟩ (fun hHeld3 => ?_);clear hK K hHeld2;refine lay ?_;refine zaa 9 ?_;refine zaa 10 ?_;obtain ⟨HT7, Hg7, Hat7, Hg7', HLa, HL7, HgT, HP7⟩ := hd8 hT7 hg7 hat7 hg7' hLa hL7 hgT hP7;obtain ⟨HB7, HI7, HVtz, Hb7, HIz, HPz, Hbz, HPt⟩ := hd8 hB7 hI7 hVt7 hb7 hIz hPz hbz hPt;have HLt := Lib.hid hLt;clear hLt hPt hbz hPz hIz hb7 hVt7 hI7 hB7 hP7 hgT hL7 hLa hg7' hat7 hg7 hT7;refine zao 11 (fun K hK => ?_);go_simp;refine hK.out _ _ ?_;clear hK K hHeld3;refine zai (by kernel_rfl) ?_ _;obtain ⟨wz, hwz⟩ := nm (w7.setCell ⟨lp, 3, none⟩ (.slice TA tl tc));rw [<- hwz];rw [<- hwz] at HIz HPz Hbz
     have HLz : Hid (zcm wz base lp M ga N (.slice OA ol oc) (.slice TA tl tc) ⟨upd s.at_ i ol, s.out, s.todo ++ [t]⟩) := by rw [hwz]; exact HL7
     obtain ⟨tvz, htvz⟩ := nm (Value.slice TA tl tc);obtain ⟨elz, helz⟩ := nm ((t : Int) : Int);obtain ⟨todoz, htdz⟩ := nm (s.todo ++ [t])
     have Hturn : Hid (zcq ns (nd ns i) = ⟨op, byo, d, e, a, b, f, cell, imm, args, next, elz⟩) := by
      rw [Hx.out, helz, <- Ht.out];exact Lib.hid (by simp [zcq, h9])
     have Htd : Hid ((if (nd ns i).op = 9 then s.todo ++ [zcU ns (nd ns i).els.toNat] else s.todo) = todoz) := by
      rw [Hx.out, htdz, <- Ht.out];exact Lib.hid (by simp [h9])
     have Hokz : Hid (todoz.length <= s.todo.length + 1 /\ ∀ j ∈ todoz, j < N) := by
      rw [htdz];refine Lib.hid ⟨by simp, fun j hj => ?_⟩
      rcases List.mem_append.1 hj with h | h
      ·exact hokq.out.lt j h
      ·rw [List.mem_singleton] at h; rw [h]; exact htN
     rw [<- htvz] at HVtz HLz;rw [<- htdz] at HLz;rw [<- helz] at HPz;clear hq9;obtain ⟨Hwz, Htvz, Helz, Htdz, H9⟩ := hd5 hwz htvz helz htdz h9;clear h9 htdz helz htvz hwz;go_upto_region 11 with fail
    case' neg =>
     have hq9 : (op == 9) = false := by simp [h9]
     have HP4 := Lib.hid hP4;clear hP4;go_upto_region 11 with fail;obtain ⟨wz, hwz⟩ := nm (w4);obtain ⟨tvz, htvz⟩ := nm (tv);obtain ⟨elz, helz⟩ := nm (els : Int);obtain ⟨todoz, htdz⟩ := nm (s.todo)
     have HLz : Hid (zcm wz base lp M ga N (.slice OA ol oc) tvz ⟨upd s.at_ i ol, s.out, todoz⟩) := by rw [hwz, htvz, htdz]; exact HL4
     have HPz : Hid (Blk wz P 55 #[.int .u8 op, .int .u8 byo, .int .i64 d, .int .i64 e, .int .i64 a, .int .i64 b, .int .i64 f, .int .i64 cell, .int .u64 imm, .slice V al vc, .int .i64 next, .int .i64 elz]) := by rw [hwz, helz]; exact HP4
     have HIz : Hid (zat wz base (.slice V al vc) args) := by rw [hwz]; exact HI4
     have Hbz : Hid (Below base w wz) := by rw [hwz]; exact Hb4
     have HVtz : Hid (∀ g, (Value.slice V al vc).ownBlock = some g -> tvz.ownBlock ≠ some g) := by rw [htvz]; exact HVt
     have Hturn : Hid (zcq ns (nd ns i) = ⟨op, byo, d, e, a, b, f, cell, imm, args, next, elz⟩) := by
      rw [Hx.out, helz];exact Lib.hid (by simp [zcq, h9])
     have Htd : Hid ((if (nd ns i).op = 9 then s.todo ++ [zcU ns (nd ns i).els.toNat] else s.todo) = todoz) := by
      rw [Hx.out, htdz];exact Lib.hid (by simp [h9])
     have Hokz : Hid (todoz.length <= s.todo.length + 1 /\ ∀ j ∈ todoz, j < N) := by
      rw [htdz];exact Lib.hid ⟨by omega, hokq.out.lt⟩
     rw [<- hwz];clear kp0 kp1 kp2 kp3 kp4 kp5 kp6 kp7 kp8 kp9 kp10 kp11 fp10 fp11 hq9;obtain ⟨Hwz, Htvz, Helz, Htdz, H9⟩ := hd5 hwz htvz helz htdz h9;clear h9 htdz helz htvz hwz
    all_goals
     obtain ⟨cssz, hclz, hownz, hcsz⟩ := HLz.out.out;rw [Hole.out] at hownz hclz;obtain ⟨Hclz, Hownz, Hcsz⟩ := hd3 hclz hownz hcsz;clear hcsz hownz hclz;refine zaf (S := fun W => W.cell? ⟨lp, 2, none⟩ = some (.slice OA ol oc) /\ W.cell? ⟨P, 0, none⟩ = some (.int .u8 op) /\ W.cell? ⟨P, 1, none⟩ = some (.int .u8 byo) /\ W.cell? ⟨P, 2, none⟩ = some (.int .i64 d) /\ W.cell? ⟨P, 3, none⟩ = some (.int .i64 e) /\ W.cell? ⟨P, 4, none⟩ = some (.int .i64 a) /\ W.cell? ⟨P, 5, none⟩ = some (.int .i64 b) /\ W.cell? ⟨P, 6, none⟩ = some (.int .i64 f) /\ W.cell? ⟨P, 7, none⟩ = some (.int .i64 cell) /\ W.cell? ⟨P, 8, none⟩ = some (.int .u64 imm) /\ W.cell? ⟨P, 9, none⟩ = some (.slice V al vc) /\ W.cell? ⟨P, 10, none⟩ = some (.int .i64 next) /\ W.cell? ⟨P, 11, none⟩ = some (.int .i64 elz)) #[false, false, false, false, false, false, false, false, false, false, true] (by kernel_rfl) (zc4 HLz.out.blk HPz.out) (fun hHeld => ?_);refine zaa 0 ?_;refine zaa 1 ?_;refine zaa 2 ?_;refine zaa 3 ?_;refine zaa 4 ?_;refine zaa 5 ?_;refine zag 6 (fun K hK => ?_);go_simp;refine hK.out _ _ (zc4 (HLz.out.blk.alloc _) (HPz.out.alloc _)) (fun hHeld2 => ?_);clear hK K hHeld;refine lay ?_;refine zag 7 (fun K hK => ?_);refine zaB _ rfl (.tmp 81) (.tmp 83) _ rfl base 55 iN _ 12 104 Tryd.underlying42 hiN0 nz0 nz1 nz2 rfl (by omega) (.slice OA ol oc) ol cssz.flatten rfl (Hownz.out.alloc _) (wz.heap.size + 1) (some ⟨wz.heap.size, 0, none⟩) 1 1 (zae ⟨op, byo, d, e, a, b, f, cell, imm, args, next, elz⟩ (.slice V al vc)) rfl (zal.newS _ rfl _ _ _ _ _ rfl rfl) (by intro u hu; simp only [zae, List.mem_cons, List.not_mem_nil, or_false] at hu; rcases hu with rfl | rfl | rfl | rfl | rfl | rfl | rfl | rfl | rfl | rfl | rfl | rfl <;> rfl) (by simp only [maxLen]; omega) (by omega) (by have := Hbz.out.size; simp; omega) ?_;intro v8 w8 hown8 hg8 hat8;obtain ⟨A8, x8, rfl, _⟩ := zak hown8;have hg8' : wz.grownBy w8 (Value.slice OA ol oc).ownBlock := (zb8 (World.grownBy_alloc wz _ _)).trans hg8;have hL9 := HLz.out.push (w' := w8) (v' := .slice A8 (ol + 1) x8) (x := ⟨op, byo, d, e, a, b, f, cell, imm, args, next, elz⟩) (av := .slice V al vc) (css := cssz) (by rw [Hole.out]; exact Hclz.out) (by rw [Hole.out]; exact Hownz.out) Hcsz.out HIz.out HVtz.out (by rw [Hole.out]; exact hown8) hg8';have hP8 : Blk w8 P 55 _ := HPz.out.grown hg8' (fun e => hOAP e.symm);have hB8 : Blk w8 lp 121 _ := HLz.out.blk.grown hg8' (fun e => zaq Hownz.out HLz.out.blk (by decide) e.symm);have hP9 := hP8.far (p := ⟨lp, 2, none⟩) (fun e => hlpP e.symm) (.slice A8 (ol + 1) x8);have hb9 := (Hbz.out.grown hg8' (by have := Hbz.out.size; omega) (fun g e => (Hownz.out.lt g e).1)).setCell (p := ⟨lp, 2, none⟩) hlo.1 (.slice A8 (ol + 1) x8);have f82 := Blk.frozen hB8 2;refine hK.out _ _ (zc4 hB8 hP8) (fun hHeld3 => ?_);clear hK K hHeld2;refine lay ?_;refine zaa 8 ?_;refine zaa 9 ?_;obtain ⟨Hown8, Hg8, Hat8, Hg8', HL9, HP8, HB8, HP9⟩ := hd8 hown8 hg8 hat8 hg8' hL9 hP8 hB8 hP9;have Hb9 := Lib.hid hb9;clear hb9 hP9 hB8 hP8 hL9 hg8' hat8 hg8 hown8;refine zao 10 (fun K hK => ?_);go_simp;refine hK.out _ _ ?_;clear hK K hHeld3;refine zai (by kernel_rfl) ?_ _;obtain ⟨w9, hw9⟩ := nm (w8.setCell ⟨lp, 2, none⟩ (.slice A8 (ol + 1) x8));rw [<- hw9];rw [<- hw9] at HL9 HP9 Hb9;have hP9 := HP9.out;have kp0 := bc hP9 0;have kp1 := bc hP9 1;have kp2 := bc hP9 2;have kp3 := bc hP9 3;have kp4 := bc hP9 4;have kp5 := bc hP9 5;have kp6 := bc hP9 6;have kp7 := bc hP9 7;have kp8 := bc hP9 8;have kp9 := bc hP9 9;have kp10 := bc hP9 10;have kp11 := bc hP9 11;obtain ⟨Hw9, HP9⟩ := hd2 hw9 hP9;clear hP9 hw9;go_wp2_with fail;refine (zfe w9 ⟨op, byo, d, e, a, b, f, cell, imm, args, next, elz⟩ (.slice V al vc)).mono ?_;rintro e w10 ⟨⟨nv, rfl, hLst⟩, hb910⟩;obtain ⟨QA, qc, rfl, _, _, _⟩ := hLst;have hsz9 := Hb9.out.size;have hL10 := HL9.out.below hb910;have hP10 := HP9.out.below hb910 HP9.out.lt;have hb10 := Hb9.out.trans (hb910.mono (by omega));clear kp0 kp1 kp2 kp3 kp4 kp5 kp6 kp7 kp8 kp9 kp10 kp11;have q10 := Blk.cell hP10 10;simp only [List.getElem?_toArray, List.getElem?_cons_zero, List.getElem?_cons_succ] at q10;obtain ⟨ql, hql⟩ := mn ((zaR ⟨op, byo, d, e, a, b, f, cell, imm, args, next, elz⟩).length);rw [hql]
     have hn10 : (nd ns i).op ≠ 10 := by rw [Hx.out]; exact h10
     by_cases hnl : zaR (nd ns i) = []
     ·have hql0 : ql = 0 := by rw [<- hql, <- Hturn.out, zd4.2 hnl]; rfl
      subst hql0
      have hfin : F = ⟨upd s.at_ i ol, s.out ++ [⟨op, byo, d, e, a, b, f, cell, imm, args, next, elz⟩], todoz⟩ := by
       have ht9 : (nd ns i).op ≠ 9 := fun h => absurd hnl (zeR h)
       have htd := Htd.out;rw [if_neg ht9] at htd;rw [<- hFq.out, zek Hat.out hn10 hnl, Hturn.out, htd, Hole.out]
      have hokF : zl7 N F := by
       rw [hfin];have h1 := hokq.out;have h2 := zcc (v := ol) Hat.out hiN';have h3 := Hokz.out;exact ⟨by have := h1.out; simp; omega, by have := h1.todo; simp; omega, h3.2⟩
      rw [<- hfin] at hL10;obtain ⟨HL10, HP10, Hb10, Hb910, Hfin, HokF, Hn10, Hnl⟩ := hd8 hL10 hP10 hb10 hb910 hfin hokF hn10 hnl;have Hql := Lib.hid hql;clear hql hnl hn10 hokF hfin hb910 hb10 hP10 hL10;go_wp2_with fail;refine bodyPost_ret (results_none rfl _ _ _) rfl ?_;exact ⟨rfl, ⟨_, _, HL10.out⟩, HokF.out, Hb10.out⟩
     ·have hqlp : ¬ ql = 0 := fun h => hnl (zd4.1 (Hturn.out ▸ List.eq_nil_of_length_eq_zero (hql.trans h)))
      have hq0 : ((ql : Int) == 0) = false := by simp [hqlp]
      have hY := hxn_out next (by have h := zgB (x := nd ns i) hnl; rw [Hx.out] at h; exact h);obtain ⟨Y, rfl⟩ := Int.eq_ofNat_of_zero_le hY.1
      have hYN : Y < N := by omega
      obtain ⟨t2, ht2⟩ := mn (zcU ns Y)
      have ht2N : t2 < N := by rw [<- ht2, <- HN.out]; exact zeG Hns.out.hop (by rw [HN.out]; exact hYN)
      have hthr2 := zd5 hL10.blk (HG.out.below (hb10.mono hB)) (by have := hb10.size; omega) (by rw [Hnse.out]; exact Hns.out.hop) (by rw [Hnse.out, HN.out]; exact hn) Y (by rw [Hnse.out, HN.out]; exact hYN);rw [Hnse.out, ht2] at hthr2
      have hFm : zeC ns fu (zes ns s i) t2 = F := by
       rw [<- hFq.out, zdA Hat.out hn10 hnl, Hx.out];show _ = zeC ns fu _ (zcU ns (Y : Int).toNat);rw [Int.toNat_natCast, ht2]
      have hnx : zcU ns (nd ns i).next.toNat = t2 := by rw [Hx.out]; show zcU ns (Y : Int).toNat = t2; rw [Int.toNat_natCast, ht2]
      have hcardz := zcc (v := ol) Hat.out hiN'
      have hgk2 : N < fu + zbJ (upd s.at_ i ol) N := by have := hgk.out; omega
      obtain ⟨HL10, HP10, Hb10, Hb910, Hn10, Hnl, Hql, Hqlp⟩ := hd8 hL10 hP10 hb10 hb910 hn10 hnl hql hqlp;obtain ⟨Ht2, Hthr2, HFm, Hnx, Hcardz, Hgk2⟩ := hd6 ht2 hthr2 hFm hnx hcardz hgk2;clear hgk2 hcardz hnx hFm hthr2 ht2 hqlp hql hnl hn10 hb910 hb10 hP10 hL10;go_wp2_with fail;refine Hthr2.out.mono ?_;rintro e w11 ⟨rfl, hb1011⟩;have hsz10 := Hb10.out.size;have hL11 := HL10.out.below hb1011;have hb11 := Hb10.out.trans (hb1011.mono (by omega));clear q10;have hBl11 := hL11.blk;have kl0 := bc hBl11 0;have kl1 := bc hBl11 1;have kl2 := bc hBl11 2;have kl3 := bc hBl11 3;have hl2 := zcx.look_ok (f := upd s.at_ i ol) hL11.map t2 (by omega)
      have hokn : zl7 N (zes ns s i) := by
       have h1 := hokq.out;have h2 := Hcardz.out;have h3 := Hokz.out
       have hne : zes ns s i = ⟨upd s.at_ i s.out.length, (s.out ++ [zcq ns (nd ns i)]) ++ (if (upd s.at_ i s.out.length (zcU ns (nd ns i).next.toNat)).isSome then [ziD (zcU ns (nd ns i).next.toNat)] else []), todoz⟩ := by
        unfold zes;rw [Htd.out]
       rw [hne, Hole.out];refine ⟨?_, by have := h1.todo; simp only; omega, h3.2⟩;have := h1.out;simp only [List.length_append, List.length_singleton]
       split
       ·simp only [List.length_singleton]; omega
       ·simp only [List.length_nil]; omega
      rcases hat2 : upd s.at_ i ol t2 with _ | c2
      ·rw [hat2] at hl2;have hl2 : (Instr.lookup 64 (.map (some M)) (.int .i64 t2) true).run Tryd.prog w11 = .ok (.tuple #[.int .i64 0, .bool false]) w11 := hl2
       have hnS : zes ns s i = ⟨upd s.at_ i ol, s.out ++ [⟨op, byo, d, e, a, b, f, cell, imm, args, Y, elz⟩], todoz⟩ := by
        unfold zes;rw [Htd.out, Hole.out, Hnx.out, hat2, Hturn.out];simp
       rw [hnS] at hokn;have hFm := HFm.out;rw [hnS] at hFm;obtain ⟨HL11, Hb11, Hb1011, HBl11, Hokn, Hat2, HnS, HFn⟩ := hd8 hL11 hb11 hb1011 hBl11 hokn hat2 hnS hFm;clear hFm hnS hat2 hokn hBl11 hb1011 hb11 hL11;go_wp2_with fail
       go_roundg fu
       case measure => omega
       case rel => exact ⟨t2, _, _, _, HL11, rfl, Lib.hid ht2N, HFn, Hgk2, Hokn, Hb11⟩
      ·rw [hat2] at hl2;have hl2 : (Instr.lookup 64 (.map (some M)) (.int .i64 t2) true).run Tryd.prog w11 = .ok (.tuple #[.int .i64 c2, .bool true]) w11 := hl2
       have hnS : zes ns s i = ⟨upd s.at_ i ol, (s.out ++ [⟨op, byo, d, e, a, b, f, cell, imm, args, Y, elz⟩]) ++ [ziD t2], todoz⟩ := by
        unfold zes;rw [Htd.out, Hole.out, Hnx.out, hat2, Hturn.out];simp
       rw [hnS] at hokn;have hFm := HFm.out;rw [hnS] at hFm;obtain ⟨css11, hcl11, hown11, hcs11⟩ := hL11.out
       have hlen11 : (s.out ++ [(⟨op, byo, d, e, a, b, f, cell, imm, args, Y, elz⟩ : zam)]).length = ol + 1 := by simp [Hole.out]
       simp only [hlen11] at hown11 hcl11;obtain ⟨HL11, Hb11, Hb1011, HBl11, Hokn, Hat2, HnS, HFn⟩ := hd8 hL11 hb11 hb1011 hBl11 hokn hat2 hnS hFm;obtain ⟨Hcl11, Hown11, Hcs11, Hlen11⟩ := hd4 hcl11 hown11 hcs11 hlen11;clear hlen11 hcs11 hown11 hcl11 hFm hnS hat2 hokn hBl11 hb1011 hb11 hL11
       have hov11 : some lp ≠ (Value.slice A8 (ol + 1) x8).ownBlock := fun e => zaq Hown11.out HBl11.out (by decide) e.symm
       go_wp2_with (first
        | (at_builtin
           refine zau _ rfl (.tmp 109) (.tmp 112) _ rfl base 55 iN _ 12 104 Tryd.underlying42 hiN0 nz0 nz1 nz2 rfl (by omega) (.slice A8 (ol + 1) x8) (ol + 1) css11.flatten rfl (Hown11.out.alloc _) (w11.heap.size + 1) (some ⟨w11.heap.size, 0, none⟩) 1 1 (zae (ziD t2) (.slice none 0 0)) rfl (zal.newS _ rfl _ _ _ _ _ rfl rfl) ?c1 ?c2 ?c3 ?c4 ?_
           case c1 => intro u hu; simp only [zae, List.mem_cons, List.not_mem_nil, or_false] at hu; rcases hu with rfl | rfl | rfl | rfl | rfl | rfl | rfl | rfl | rfl | rfl | rfl | rfl <;> rfl
           case c2 => simp only [maxLen]; omega
           case c3 => omega
           case c4 => have := Hb11.out.size; simp; omega
           intro v12 w12 hown12 hg12 hat12;obtain ⟨A12, x12, rfl, _⟩ := zak hown12;have hB12 := (HBl11.out.alloc _).grown hg12 hov11;have k12 := Blk.cell hB12 2;have f12 := Blk.frozen hB12 2;simp only [List.getElem?_toArray, List.getElem?_cons_zero, List.getElem?_cons_succ] at k12;have Hown12 := Lib.hid hown12;have Hg12 := Lib.hid hg12;have HB12 := Lib.hid hB12
           clear hB12 hat12 hg12 hown12))
       have hg12' : w11.grownBy w12 (Value.slice A8 (ol + 1) x8).ownBlock := (World.grownBy_alloc w11 _ _).trans Hg12.out;have hL13 := HL11.out.push (w' := w12) (v' := .slice A12 (ol + 1 + 1) x12) (x := ziD t2) (av := .slice none 0 0) (css := css11) (by simp only [Hlen11.out]; exact Hcl11.out) (by simp only [Hlen11.out]; exact Hown11.out) Hcs11.out (World.ownsRow_nil _ _ _ _) nofun (by simp only [Hlen11.out]; exact Hown12.out) hg12';have hb13 := (Hb11.out.grown hg12' (by have := Hb11.out.size; omega) (fun g e => (Hown11.out.lt g e).1)).setCell (p := ⟨lp, 2, none⟩) hlo.1 (.slice A12 (ol + 1 + 1) x12)
       go_roundg fu
       case measure => omega
       case rel => exact ⟨t2, _, _, _, Lib.hid hL13, rfl, Lib.hid ht2N, HFn, Hgk2, Hokn, Lib.hid hb13⟩
  ·rw [hat] at hl;have hl : (Instr.lookup 64 (.map (some M)) (.int .i64 i) true).run Tryd.prog wr = .ok (.tuple #[.int .i64 c, .bool true]) wr := hl
   have hfin : F = s := by rw [<- hFq.out]; exact zdM hat gk
   obtain ⟨HBl, HMp, HGq, Hat, Hfin⟩ := hd5 hBl hMp hGq hat hfin;clear hfin hat hGq hMp hBl;go_wp2_with fail;refine bodyPost_ret (results_none rfl _ _ _) rfl ?_;rw [Hfin.out];exact ⟨rfl, ⟨_, _, hLq.out⟩, hokq.out, hbq.out⟩
theorem Below.of_drew {B : Nat} {a w : World} (h : Below B a.drew w) : Below B a w := ⟨h.os, h.tape, h.output, h.size, h.block⟩
theorem zeY {j : Nat} (hj : j < 12) : ∀ (css : List (List Value)) (k : Nat) (cs : List Value) (u : Value), (∀ c ∈ css, c.length = 12) -> css[k]? = some cs -> (css.flatten).set (k * 12 + j) u = (css.set k (cs.set j u)).flatten
 | [], k, cs, u, _, h => by simp at h
 | c :: r, 0, cs, u, hl, h => by
  simp at h; subst h;have hc := hl c List.mem_cons_self;rw [List.set_cons_zero, List.flatten_cons, List.flatten_cons, Nat.zero_mul, Nat.zero_add];rw [List.set_append_left _ _ (by omega)]
 | c :: r, k + 1, cs, u, hl, h => by
  have hc := hl c List.mem_cons_self;have ih := zeY hj r k cs u (fun d hd => hl d (List.mem_cons_of_mem _ hd)) (by simpa using h);rw [List.set_cons_succ, List.flatten_cons, List.flatten_cons, <- ih];rw [List.set_append_right _ _ (by rw [hc]; omega)]
  congr 2
  rw [hc]; omega
theorem za4.setj {w : World} {base k n g c j : Nat} {u : Value} {l : List zam} {x y : zam} (h : za4 w base (.slice (some ⟨g, 0, none⟩) n c) l) (hx : l[k]? = some x) (hn : l.length = n) (hj : j < 12) (hy : ∀ av, zae y av = (zae x av).set j u) (ha : y.args = x.args) :
  za4 (w.setCell ⟨g, k * 12 + j, none⟩ u) base (.slice (some ⟨g, 0, none⟩) n c) (l.set k y) := by
 obtain ⟨css, h1, h2, h3⟩ := h;have hk : k < l.length := (List.getElem?_eq_some_iff.1 hx).1;subst hn;obtain ⟨cs, hbk⟩ := zci h2 rfl
 have hl12 := zc5 (P := fun _ _ _ => True) h1 fun i y hy => (h3 i y hy).imp fun a b => ⟨b.1, trivial⟩
 obtain ⟨av, q1, q2⟩ := h3 k x hx;have hset := zf9 (u := u) h2 (j := k * 12 + j) (by omega);rw [zeY hj css k _ u hl12 q1, <- hy av] at hset;refine ⟨css.set k (zae y av), by rw [List.length_set, List.length_set]; exact h1, by rw [List.length_set]; exact hset, fun i z hz => ?_⟩
 by_cases hik : i = k
 ·subst hik;rw [List.getElem?_set_self hk] at hz;injection hz with hz;subst hz;refine ⟨av, by rw [List.getElem?_set_self (by omega)], ?_⟩;rw [ha];exact zat.far q2 hbk (by decide)
 ·rw [List.getElem?_set_ne (Ne.symm hik)] at hz;obtain ⟨av', r1, r2⟩ := h3 i z hz;exact ⟨av', by rw [List.getElem?_set_ne (Ne.symm hik)]; exact r1, zat.far r2 hbk (by decide)⟩
def zla (w : World) (g : Nat) (a b c d e f x y : Value) : World := (((((((w.setCell ⟨g, 0, none⟩ a).setCell ⟨g, 1, none⟩ b).setCell ⟨g, 2, none⟩ c).setCell ⟨g, 3, none⟩ d).setCell ⟨g, 4, none⟩ e).setCell ⟨g, 5, none⟩ f).setCell ⟨g, 6, none⟩ x).setCell ⟨g, 7, none⟩ y
theorem zke {w : World} {H : Nat} {t : TypeId} {z0 z1 z2 z3 z4 z5 z6 z7 : Value} (h : Blk w H t #[z0, z1, z2, z3, z4, z5, z6, z7]) (a b c d e f x y : Value) : Blk (zla w H a b c d e f x y) H t #[a, b, c, d, e, f, x, y] := by
 have h0 := h.set_ 0 a;simp only [List.setIfInBounds_toArray, List.set_cons_zero, List.set_cons_succ] at h0;have h1 := h0.set_ 1 b;simp only [List.setIfInBounds_toArray, List.set_cons_zero, List.set_cons_succ] at h1;have h2 := h1.set_ 2 c;simp only [List.setIfInBounds_toArray, List.set_cons_zero, List.set_cons_succ] at h2;have h3 := h2.set_ 3 d;simp only [List.setIfInBounds_toArray, List.set_cons_zero, List.set_cons_succ] at h3;have h4 := h3.set_ 4 e;simp only [List.setIfInBounds_toArray, List.set_cons_zero, List.set_cons_succ] at h4;have h5 := h4.set_ 5 f;simp only [List.setIfInBounds_toArray, List.set_cons_zero, List.set_cons_succ] at h5;have h6 := h5.set_ 6 x;simp only [List.setIfInBounds_toArray, List.set_cons_zero, List.set_cons_succ] at h6;have h7 := h6.set_ 7 y;simp only [List.setIfInBounds_toArray, List.set_cons_zero, List.set_cons_succ] at h7;exact h7
theorem zh3 {w w0 : World} {B g : Nat} (h : Below B w0 w) (hg : B <= g) (a b c d e f x y : Value) : Below B w0 (zla w g a b c d e f x y) :=
 (((((((h.setCell (p := ⟨g, 0, none⟩) hg a).setCell (p := ⟨g, 1, none⟩) hg b).setCell (p := ⟨g, 2, none⟩) hg c).setCell (p := ⟨g, 3, none⟩) hg d).setCell (p := ⟨g, 4, none⟩) hg e).setCell (p := ⟨g, 5, none⟩) hg f).setCell (p := ⟨g, 6, none⟩) hg x).setCell (p := ⟨g, 7, none⟩) hg y
theorem zh2 (w : World) (g : Nat) (a b c d e f x y : Value) : w.grownBy (zla w g a b c d e f x y) (some g) := by
 have h0 := zar w ⟨g, 0, none⟩ a;have h1 := zaZ h0 (p := ⟨g, 1, none⟩) (.inl rfl) b;have h2 := zaZ h1 (p := ⟨g, 2, none⟩) (.inl rfl) c;have h3 := zaZ h2 (p := ⟨g, 3, none⟩) (.inl rfl) d;have h4 := zaZ h3 (p := ⟨g, 4, none⟩) (.inl rfl) e;have h5 := zaZ h4 (p := ⟨g, 5, none⟩) (.inl rfl) f;have h6 := zaZ h5 (p := ⟨g, 6, none⟩) (.inl rfl) x;exact zaZ h6 (p := ⟨g, 7, none⟩) (.inl rfl) y
theorem zcm.rest {w : World} {base lp M N n c i : Nat} {A : Option Addr} {ga : Addr} {ov : Value} {s : LS} {r : List Nat} (h : zcm w base lp M ga N ov (.slice A n c) s) (hs : s.todo = i :: r) :
  zcm (w.setCell ⟨lp, 3, none⟩ (.slice (if c = 1 then A else A.map (·.add 1)) (n - 1) (c - 1))) base lp M ga N ov (.slice (if c = 1 then A else A.map (·.add 1)) (n - 1) (c - 1)) ⟨s.at_, s.out, r⟩ := by
 have ht := h.todo;rw [hs, List.map_cons] at ht;have hr := zeD.rest ht;have hgs := zar w ⟨lp, 3, none⟩ (.slice (if c = 1 then A else A.map (·.add 1)) (n - 1) (c - 1));have hi2 : za8 w 3 (some lp) := za8.blk h.blk (by decide);have hn2 : za8 w 55 (some lp) := za8.blk h.blk (by decide)
 have hob : (Value.slice (if c = 1 then A else A.map (·.add 1)) (n - 1) (c - 1)).ownBlock = (Value.slice A n c).ownBlock := by
  split
  ·cases A <;> rfl
  ·cases A with
   | none => rfl
   | some a => simp [Value.ownBlock, zas]
 refine ⟨by have := h.blk.set_ 3 (.slice (if c = 1 then A else A.map (·.add 1)) (n - 1) (c - 1)); simpa using this, h.map.set (h.map.ne_blk h.blk) _, ?_, hi2.tail_keep hr hgs, h.lo⟩;rw [hob];exact h.out.kept hgs hn2 (.inl hi2)
def zhh (at_ : Nat -> Option Nat) (out : List zam) (k : Nat) : List zam := out.mapIdx fun j x => if j < k then zgM at_ j x else x
section
variable {at_ : Nat -> Option Nat} {out : List zam} {k : Nat}
theorem zln : zhh at_ out 0 = out := by
 refine List.ext_getElem? fun i => ?_
 unfold zhh;rw [List.getElem?_mapIdx]
 cases out[i]? <;> simp
theorem zmt : zhh at_ out out.length = out.mapIdx (zgM at_) := by
 refine List.ext_getElem? fun i => ?_
 unfold zhh;rw [List.getElem?_mapIdx, List.getElem?_mapIdx]
 rcases h : out[i]? with _ | x
 ·rfl
 ·have := (List.getElem?_eq_some_iff.1 h).1;simp [this]
theorem zmr : (zhh at_ out k).length = out.length := by unfold zhh; simp
theorem zms : (zhh at_ out k)[k]? = out[k]? := by
 unfold zhh;rw [List.getElem?_mapIdx]
 cases out[k]? <;> simp
theorem zlo {x : zam} (hx : out[k]? = some x) : (zhh at_ out k).set k (zgM at_ k x) = zhh at_ out (k + 1) := by
 have hk := (List.getElem?_eq_some_iff.1 hx).1
 refine List.ext_getElem? fun i => ?_
 unfold zhh
 by_cases hik : i = k
 ·subst hik;rw [List.getElem?_set_self (by simpa using hk), List.getElem?_mapIdx, hx];simp
 ·rw [List.getElem?_set_ne (Ne.symm hik), List.getElem?_mapIdx, List.getElem?_mapIdx]
  rcases out[i]? with _ | y
  ·rfl
  ·have : (i < k) = (i < k + 1) := by apply propext; omega
   simp [this]
end
theorem zk5 {α : Type} {l : List α} {k : Nat} {x : α} (h : l[k]? = some x) : l.set k x = l := by
 refine List.ext_getElem? fun i => ?_
 by_cases hik : i = k
 ·subst hik;rw [List.getElem?_set_self (List.getElem?_eq_some_iff.1 h).1, h]
 ·rw [List.getElem?_set_ne (Ne.symm hik)]
theorem za4.cells {w : World} {base g n c k : Nat} {l : List zam} {x : zam} (h : za4 w base (.slice (some ⟨g, 0, none⟩) n c) l) (hx : l[k]? = some x) :
  ∃ av cs, Blk w g 55 cs /\ zat w base av x.args /\ ∀ j u, (zae x av)[j]? = some u -> w.cell? ⟨g, k * 12 + j, none⟩ = some u := by
 obtain ⟨css, h1, h2, h3⟩ := h;obtain ⟨cs, hbk⟩ := zci h2 rfl
 have hl12 := zc5 (P := fun _ _ _ => True) h1 fun i y hy => (h3 i y hy).imp fun a b => ⟨b.1, trivial⟩
 obtain ⟨av, q1, q2⟩ := h3 k x hx;refine ⟨av, cs, hbk, q2, fun j u hu => ?_⟩;have hj : j < 12 := (List.getElem?_eq_some_iff.1 hu).1
 have hn : n = l.length := by
  obtain ⟨A, cc, e, _⟩ := zak h2;injection e
 subst hn;obtain ⟨_, g', e, _, _, hc⟩ := zd7 h2 (by have := (List.getElem?_eq_some_iff.1 hx).1; omega);injection e with e;injection e with e;subst e;have := hc (k * 12 + j) u (by rw [zdl css 12 k _ q1 hl12 j hj]; exact hu)
 rwa [zbU] at this
section
variable {ns : List zam} {entry : Nat} {s : LS}
theorem zm9.nop (h : zm9 ns entry s) {c : Nat} {x : zam} (hx : s.out[c]? = some x) (h10 : x.op = 10) : ∃ t v : Nat, x.next = (t : Int) /\ t < ns.length /\ s.at_ t = some v := by
 rcases h.out c x hx with ⟨j, hj⟩ | ⟨t, rfl, ht⟩
 ·obtain ⟨h1, h2, _⟩ := h.at_ j c hj;rw [hx] at h2;injection h2 with h2
  have hop : (nd ns j).op = 10 := by
   unfold laid at h2
   split at h2
   ·assumption
   ·rw [h2] at h10;unfold zcq at h10
    split at h10 <;> exact h10
  rw [zgG hop] at h2;exact ⟨j, c, by rw [h2], h1, hj⟩
 ·obtain ⟨v, hv⟩ := zhN ht;exact ⟨t, v, rfl, (h.at_ t v hv).1, hv⟩
theorem zm9.br (h : zm9 ns entry s) {c : Nat} {x : zam} (hx : s.out[c]? = some x) (h9 : x.op = 9) : ∃ t v : Nat, x.els = (t : Int) /\ t < ns.length /\ s.at_ t = some v := by
 rcases h.out c x hx with ⟨j, hj⟩ | ⟨t, rfl, ht⟩
 ·obtain ⟨h1, h2, _, h4⟩ := h.at_ j c hj;rw [hx] at h2;injection h2 with h2
  have hop : (nd ns j).op = 9 := by
   unfold laid at h2
   split at h2
   ·rw [h2] at h9
    rename_i h0
    exact h9
   ·rw [h2] at h9;unfold zcq at h9
    split at h9 <;> exact h9
  rw [zfg (by omega)] at h2;obtain ⟨v, hv⟩ := zhN (h4 hop);refine ⟨el ns j, v, ?_, (h.at_ _ v hv).1, hv⟩;rw [h2];unfold zcq;rw [if_pos hop]; rfl
 ·exact absurd h9 (show (10 : Int) ≠ 9 by decide)
end
theorem zil (A : Option Addr) (n c : Nat) (xs : List Value) (w : World) (B : Nat) (hr : zal w B 1 A n xs) (hone : ∀ u ∈ xs, u.oneCell' = true) (hnc : n <= c) (hc : c <= maxLen) (hB : B <= w.heap.size) (hs : n * 8 <= 140737488351232) :
  Calls Tryd.prog 85 #[.slice A n c] w fun e w' => Below w.heap.size w w' /\ ∃ V x, e = .returned (.slice V n x) /\ w'.ownsRow w.heap.size 53 1 (.slice V n x) n xs := by
 obtain ⟨i0, hi0, hz0, hz1, hz2⟩ := info_parts zky;unfold maxLen at hc
 rcases A with _ | ad
 ·have hn : n = 0 := by
   rcases Nat.eq_zero_or_pos n with h0 | h0
   ·exact h0
   ·obtain ⟨ad, h, _⟩ := hr.2 h0; cases h
  subst hn;have hx : xs = [] := List.eq_nil_of_length_eq_zero (by simpa using hr.1);subst hx;clear hr hone
  have hq := fun W : World => (Lib.run_eql_slice_nil (P := Tryd.prog) W 143 _ none 0 c 0 0 Tryd.underlying143)
  go_enter Tryd.func85, Tryd.ntmps85;go_wp2_with fail;go_ret;exact ⟨Below.refl _ _, _, _, rfl, World.ownsRow_nil _ _ _ _⟩
 ·have hE := zcR w 53 1;have hSrc := hr.alloc hB (.cells #[] 53);obtain ⟨Hr, HE, HSrc, Hone⟩ := hd4 hr hE hSrc hone;clear hone hSrc hE hr
  have hq := fun W : World => (Lib.run_eql_slice_nil (P := Tryd.prog) W 143 _ (some ad) n c 0 0 Tryd.underlying143)
  go_enter Tryd.func85, Tryd.ntmps85
  go_wp2_with (first
   | (at_builtin
      refine zau _ rfl (.tmp 5) (.tmp 6) _ rfl w.heap.size 53 i0 _ 1 8 Tryd.underlying143 hi0 hz0 hz1 hz2 rfl (by omega) (.slice (some ⟨w.heap.size, 0, none⟩) 0 0) 0 [] rfl HE.out B (some ad) n c xs rfl HSrc.out ?c1 ?c2 ?c3 ?c4 ?_
      case c1 => exact Hone.out
      case c2 => unfold maxLen; omega
      case c3 => omega
      case c4 => simp
      intro v5 w5 hown5 hg5 hat5))
  have hO5 := zdh (ys := xs) hown5 rfl;obtain ⟨V, x, rfl, _⟩ := zak hO5;have hb5 : Below w.heap.size w w5 := ((Below.refl _ _).alloc (Nat.le_refl _) _).grown hg5 (by simp) (fun k e => by injection e with e; simp only at e; omega);obtain ⟨Hown5, HO5, Hg5, Hat5, Hb5⟩ := hd5 hown5 hO5 hg5 hat5 hb5;clear hb5 hat5 hg5 hO5 hown5;go_ret;exact ⟨Hb5.out, V, x, rfl, HO5.out⟩
theorem zgZ {w : World} {g h n : Nat} {S : Nat -> Bool} (hs : zcF w g h n S) : zal w w.heap.size 1 (some ⟨h, 0, none⟩) ((n + 63) / 64) ((zg0 n S).map (Value.int .u64)) := by
 refine ⟨by simp [zf1], fun _ => ⟨_, rfl, hs.hlt, fun k u hu => ?_⟩⟩
 have hk : k < (n + 63) / 64 := by
  have := (List.getElem?_eq_some_iff.1 hu).1
  simpa [zf1] using this
 rw [List.getElem?_map, zf2 hk] at hu;injection hu with hu;subst hu;rw [zbU];exact hs.word hk
theorem zkN {g h n : Nat} {S : Nat -> Bool} {w : World} (hs : zcF w g h n S) (hn : 0 < n) :
  Calls Tryd.prog 63 #[.pointer (some ⟨g, 0, none⟩)] w fun e w' => ∃ g' h', e = .returned (.pointer (some ⟨g', 0, none⟩)) /\ w.heap.size <= g' /\ w.heap.size <= h' /\ zcF w' g' h' n S /\ Below w.heap.size w w' := by
 obtain ⟨hc0, c, hcc, hcm, hc1⟩ := hs.cells;have hle := hs.le;have hR := zgZ hs;obtain ⟨L, hL⟩ := mn ((n + 63) / 64);rw [hL] at hR hc1 hcc
 have hL0 : 0 < L := by omega
 have hcl := zil (some ⟨h, 0, none⟩) L c _ w.drew w.heap.size hR.drew (zbW _ _) hcc hcm (Nat.le_refl _) (by omega);obtain ⟨Hs, HL, HR, Hcl⟩ := hd4 hs hL hR hcl;clear hcl hR hL hs;go_enter Tryd.func63, Tryd.ntmps63;go_upto_region 3 with fail;refine zaf (S := fun W => W.cell? ⟨g, 0, none⟩ = some (.int .i64 (n : Nat)) /\ W.cell? ⟨g, 1, none⟩ = some (.slice (some ⟨h, 0, none⟩) L c)) #[false, false, false, false, false, false, false, false, false, false, false, false] (by kernel_rfl) ⟨hc0, hc1⟩ (fun hHeld => ?_);refine zaa 0 ?_;refine zaa 1 ?_;refine zaa 2 ?_;refine zaa 3 ?_;refine zaa 4 ?_;refine zaa 5 ?_;refine zaa 6 ?_;refine zaa 7 ?_;refine zag 8 (fun K hK => ?_);go_simp;refine Hcl.out.mono ?_;rintro e w2 ⟨hb2, V, x, rfl, hown⟩;have hb2 := Below.of_drew hb2;obtain ⟨hV, vc, hVe, hVb, hVl, hLx, hxm⟩ := zbn hown hL0;injection hVe with hVe _ hxe;subst hVe hxe;have hs2 := Hs.out.below hb2 Hs.out.glt Hs.out.hlt;obtain ⟨hc20, c2, _, _, hc21⟩ := hs2.cells;have hsz2 := hb2.size
 have hS2 : (w2.cell? ⟨g, 0, none⟩ = some (.int .i64 (n : Nat)) /\ w2.cell? ⟨g, 1, none⟩ = some (.slice (some ⟨h, 0, none⟩) L c)) := ⟨hc20, (hb2.cell (p := ⟨g, 1, none⟩) Hs.out.glt).trans hc1⟩
 refine hK.out _ _ hS2 (fun hHeld2 => ?_);clear hK K hHeld;refine lay ?_;refine zaa 9 ?_;refine zag 10 (fun K hK => ?_);go_simp;have hgl2 : g < w2.heap.size := Nat.lt_of_lt_of_le Hs.out.glt hsz2;refine hK.out _ _ ⟨(World.cell?_alloc_lt w2 _ ⟨g, 0, none⟩ hgl2).trans hS2.1, (World.cell?_alloc_lt w2 _ ⟨g, 1, none⟩ hgl2).trans hS2.2⟩ (fun hHeld3 => ?_);clear hK K hHeld2;refine lay ?_;refine zaa 11 ?_;refine zai (by kernel_rfl) ?_ _
 have hfin : zcF (w2.alloc (.cells #[.int .i64 (n : Nat), .slice (some ⟨hV, 0, none⟩) L x] 145)) w2.heap.size hV n S := by
  refine ⟨⟨x, by rw [HL.out]; exact hLx, hxm, by rw [HL.out]; exact Blk.new _ _ _⟩, ?_, Hs.out.le⟩;obtain ⟨cur, hcur⟩ := zci hown rfl;refine ⟨cur, hcur.alloc _, fun k hk => ?_⟩;obtain ⟨_, g', e, _, _, hrow⟩ := zd7 hown hL0;injection e with e;injection e with e;subst e;have h1 := hrow k _ (by rw [List.getElem?_map, zf2 hk]; rfl);rw [zbU, hcur.cell k] at h1;exact h1
 have hb3 : Below w.heap.size w (w2.alloc (.cells #[.int .i64 (n : Nat), .slice (some ⟨hV, 0, none⟩) L x] 145)) := hb2.alloc hsz2 _;have hVb' : w.heap.size <= hV := hVb;obtain ⟨Hb2, Hown, Hs2, HS2, Hfin, Hb3⟩ := hd6 hb2 hown hs2 hS2 hfin hb3;clear hb3 hfin hS2 hs2 hown hb2;go_wp2_with fail;go_ret;exact ⟨_, rfl, hsz2, hV, hVb', Hfin.out, Hb3.out⟩
theorem ziU (k : Nat) : zcg (fun _ => false) k = 0 := by
 refine Nat.eq_of_testBit_eq fun i => ?_
 rw [zcp]; simp
theorem ziE (n : Nat) (w : World) (hn : n <= 1048576) :
  Calls Tryd.prog 61 #[.int .i64 (n : Nat)] w fun e w' => ∃ g' h', e = .returned (.pointer (some ⟨g', 0, none⟩)) /\ w.heap.size <= g' /\ w.heap.size <= h' /\ zcF w' g' h' n (fun _ => false) /\ Below w.heap.size w w' := by
 refine (zmp (n : Int) (n : Int) w (by omega)).mono ?_;rintro e w' ⟨rfl, hs, hb⟩;refine ⟨_, _, rfl, by omega, Nat.le_refl _, ?_, hb⟩
 have hz : ((((n : Int) + 63) / 64).toNat) = (n + 63) / 64 := by omega
 have ht := hs.top;have hw := hs.words;rw [hz] at ht hw
 have hl : (zeros ((n + 63) / 64)).length = (n + 63) / 64 := by simp [zeros]
 refine ⟨⟨(n + 63) / 64, Nat.le_refl _, by unfold maxLen; omega, by rw [hl] at ht; exact ht⟩, ⟨_, hw, fun k hk => ?_⟩, hn⟩;rw [ziU];simp [zlX, zeros, hk]
theorem zmV : (Tryd.prog.info? 5).map (fun i => (i.zero, i.size, i.bytes)) = some (some (.int .u8 0), 1, 1) := by kernel_rfl
def zbd (l : List Int) : List Value := l.map (Value.int .u8)
theorem zhF (l : List Int) : ∀ u ∈ zbd l, u.oneCell' = true := by
 intro u hu;simp only [zbd, List.mem_map] at hu;obtain ⟨x, _, rfl⟩ := hu
 rfl
end Go.Proofs.YtnfjjliiajaijaaDoor
