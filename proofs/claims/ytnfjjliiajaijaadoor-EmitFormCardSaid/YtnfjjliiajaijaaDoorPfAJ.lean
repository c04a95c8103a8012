/- Part of the proof, named by its texts: Em5 Em6 Em7. No condition of its own. -/
import Derived.Test.YtnfjjliiajaijaaDoorPfAA
import Derived.Test.YtnfjjliiajaijaaDoorPfAI
set_option linter.unusedVariables false
set_option linter.unusedSimpArgs false
set_option maxRecDepth 100000
set_option maxHeartbeats 16000000
namespace Go.Proofs.YtnfjjliiajaijaaDoor
open Go.RowKit
open Go.Maps
def ziv (o : Nat) : Int := if o = 17 then 2 else if o = 14 then 5 else if o = 18 then 4 else 0
def EmS.system (E : EmS) (o d e a f : Nat) : EmS :=
 if o = 13 then E.put [⟨13, 0, 0, 0, w32 (7 + 256 * (f : Int))⟩]
 else if o = 16 then (E.put [⟨13, zax d 13, 0, 0, 3⟩]).done d (zax d 13)
 else if o = 15 then ((E.put [⟨13, zax d 13, 0, zax e 15, 6⟩]).done d (zax d 13)).done e (zax e 15)
 else (E.read a 13).put [⟨13, 0, zax a 13, 0, ziv o⟩]
theorem zaz.setFirst {w : World} {base g : Nat} {X : EmX} {E : EmS} {t : TypeId} {cs : Array Value} {rest : List It} (h : zaz w base X E (.blk g t cs :: rest)) (j : Nat) (u : Value) : zaz (w.setCell ⟨g, j, none⟩ u) base X E (.blk g t (cs.setIfInBounds j u) :: rest) /\ base <= g := by
 obtain ⟨cv, sv, zv, nv, Mc, J, L, lvs, h1, hI⟩ := h
 have hi : (za1 X E cv sv zv nv Mc J L lvs ++ (zaM E.sites lvs ++ .blk g t cs :: rest))[(za1 X E cv sv zv nv Mc J L lvs).length + (zaM E.sites lvs).length]? = some (.blk g t cs) := by
  rw [List.getElem?_append_right (by omega), List.getElem?_append_right (by omega)]
  have e : (za1 X E cv sv zv nv Mc J L lvs).length + (zaM E.sites lvs).length - (za1 X E cv sv zv nv Mc J L lvs).length - (zaM E.sites lvs).length = 0 := by omega
  rw [e]; rfl
 have hI2 := hI.set_ hi j u;refine ⟨⟨cv, sv, zv, nv, Mc, J, L, lvs, h1, ?_⟩, (hI.at_ hi).1⟩;rw [List.set_append_right _ _ (by omega), List.set_append_right _ _ (by omega)] at hI2
 have e : (za1 X E cv sv zv nv Mc J L lvs).length + (zaM E.sites lvs).length - (za1 X E cv sv zv nv Mc J L lvs).length - (zaM E.sites lvs).length = 0 := by omega
 rw [e] at hI2;exact hI2
theorem zaz.drop' {w : World} {base : Nat} {X : EmX} {E : EmS} {x : It} {rest : List It} (h : zaz w base X E (x :: rest)) : zaz w base X E rest := h.drop
section
variable {w : World} {base : Nat} {X : EmX} {E : EmS} {rest : List It}
theorem zc0 (h : zaz w base X E rest) (x : zam) (av : Value) (o d e a f : Nat) (hop : x.op = (o : Int)) (ho : 13 <= o /\ o <= 18) (hd : x.op = 16 ∨ x.op = 15 -> x.d = (d : Int)) (he : x.op = 15 -> x.e = (e : Int)) (ha : x.op = 14 ∨ x.op = 17 ∨ x.op = 18 -> x.a = (a : Int)) (hf : x.op = 13 -> x.f = (f : Int)) (hdn : d < 16 + X.ns) (han : a < 16 + X.ns) (hen : e < 16 + X.ns) (hfn : f <= 1048576) (hns : X.ns <= 1048576) (hsz : E.sz + 7 <= 1099511627776) :
  Calls Tryd.prog 77 #[.pointer (some ⟨X.fp, 0, none⟩), .agg (zae x av).toArray] w fun e' w' => zbK base X rest w (.tuple #[]) (E.system o d e a f) e' w' := by
 obtain ⟨NC, hNC⟩ := nm ((zae x av).toArray : Array Value);rw [<- hNC]
 have hNS : NC.size = 12 := by rw [hNC]; rfl
 have hbx := h.box 55 NC;have hb := (Below.refl base w).alloc h.size (.cells NC 55);obtain ⟨N, hN⟩ := nm (w.heap.size);obtain ⟨w1, hw1⟩ := nm (w.alloc (.cells NC 55));rw [<- hw1, <- hN] at hbx;rw [<- hw1] at hb;have hbT := hbx.box 71 #[.int .u8 13, .int .i64 0, .int .i64 0, .int .i64 0, .int .i32 0];have hb2 := hb.alloc hbx.size (.cells #[.int .u8 13, .int .i64 0, .int .i64 0, .int .i64 0, .int .i32 0] 71)
 have g0 : ∀ W : World, Blk W N 55 NC -> W.cell? ⟨N, 0, none⟩ = some (.int .u8 (o : Nat)) := fun W hB => zan hB hNC 0 (by show some (Value.int .u8 x.op) = _; rw [hop])
 obtain ⟨R, hR⟩ := mn (E.system o d e a f);rw [hR];obtain ⟨H, Hbx, Hb, HN, Hw1, HNC, Hg0, Hop⟩ := hd8 h hbx hb hN hw1 hNC g0 hop;obtain ⟨Ha, Hd, He, Hf, HR⟩ := hd5 ha hd he hf hR;clear hR hf he hd ha hop g0 hNC hw1 hN hb hbx h;go_enter Tryd.func77, Tryd.ntmps77;go_upto_region 1 with fail;rw [<- Hw1.out, <- HN.out];go_upto_region 2 with fail;obtain ⟨T, hT⟩ := nm (w1.heap.size);obtain ⟨w2, hw2⟩ := nm (w1.alloc (.cells #[.int .u8 13, .int .i64 0, .int .i64 0, .int .i64 0, .int .i32 0] 71));rw [<- hw2, <- hT] at hbT;rw [<- hw2] at hb2;rw [<- hw2, <- hT];have n0 := Hg0.out _ hbT.drop'.blk;have hR := HR.out;unfold EmS.system at hR;clear HR;obtain ⟨HT, Hw2⟩ := hd2 hT hw2;clear hw2 hT
 by_cases h13 : o = 13
 ·subst h13;rw [if_pos rfl] at hR;have hff := Hf.out Hop.out;have n6 : w2.cell? ⟨N, 6, none⟩ = some (.int .i64 (f : Nat)) := zan hbT.drop'.blk HNC.out 6 (by show some (Value.int .i64 x.f) = _; rw [hff])
  have hww : w32 (7 + 256 * (f : Int)) = 7 + 256 * (f : Int) := by unfold w32; rw [IntKind.wrap_i32]; omega
  rw [hww] at hR;obtain ⟨hE3, hbT0⟩ := hbT.setFirst 4 (.int .i32 (7 + 256 * (f : Int)));simp only [List.setIfInBounds_toArray, List.set_cons_succ, List.set_cons_zero] at hE3;have hb3 := hb2.setCell (p := ⟨T, 4, none⟩) hbT0 (.int .i32 (7 + 256 * (f : Int)));have kT := hbT.blk;have kt4 := bc kT 4;have ft4 := Blk.frozen kT 4;obtain ⟨HbT, Hb2, HR, HE3, Hb3, Hff, HkT, Hww⟩ := hd8 hbT hb2 hR hE3 hb3 hff kT hww;clear hww kT hff hb3 hE3 hR hb2 hbT;go_upto_region 8 with fail;obtain ⟨w3, hw3⟩ := nm (w2.setCell ⟨T, 4, none⟩ (.int .i32 (7 + 256 * (f : Int))));rw [<- hw3];rw [<- hw3] at HE3 Hb3;clear kt4 ft4 n0 n6;have Hw3 := Lib.hid hw3;clear hw3;have kT := HE3.out.blk;have lT := kT.lt;obtain ⟨f0, _⟩ := HE3.out.fn;have hfpl := HE3.out.fpb.2.1;have kt0 := bc kT 0;have kt1 := bc kT 1;have kt2 := bc kT 2;have kt3 := bc kT 3;have kt4 := bc kT 4;have hput := za6 ((HE3.out.drew).alloc (.cells #[.int .u8 13, .int .i64 0, .int .i64 0, .int .i64 0, .int .i32 (7 + 256 * (f : Int))] 71)) (ms := [⟨13, 0, 0, 0, 7 + 256 * (f : Int)⟩]) (c := 1) (zal.newS _ rfl _ _ _ _ _ rfl rfl) rfl (by omega);have hb6 := (Hb3.out.drew).alloc HE3.out.drew.size (.cells #[.int .u8 13, .int .i64 0, .int .i64 0, .int .i64 0, .int .i32 (7 + 256 * (f : Int))] 71);obtain ⟨Hput, Hb6, HkT⟩ := hd3 hput hb6 kT;clear kT hb6 hput;refine zaf (S := fun W => W.cell? ⟨X.fp, 0, none⟩ = some (.pointer (some ⟨X.ep, 0, none⟩)) /\ W.cell? ⟨T, 0, none⟩ = some (.int .u8 13) /\ W.cell? ⟨T, 1, none⟩ = some (.int .i64 0) /\ W.cell? ⟨T, 2, none⟩ = some (.int .i64 0) /\ W.cell? ⟨T, 3, none⟩ = some (.int .i64 0) /\ W.cell? ⟨T, 4, none⟩ = some (.int .i32 (7 + 256 * (f : Int)))) #[false, false, false, false, false, false, true] (by kernel_rfl) ⟨f0, kt0, kt1, kt2, kt3, kt4⟩ (fun hHeld => ?_);refine zaa 0 ?_;refine zaa 1 ?_;refine zaa 2 ?_;refine zaa 3 ?_;refine zaa 4 ?_;refine zag 5 (fun K hK => ?_);go_simp;refine hK.out _ _ ⟨(World.cell?_alloc_lt _ _ ⟨X.fp, 0, none⟩ hfpl).trans f0, (World.cell?_alloc_lt _ _ ⟨T, 0, none⟩ lT).trans kt0, (World.cell?_alloc_lt _ _ ⟨T, 1, none⟩ lT).trans kt1, (World.cell?_alloc_lt _ _ ⟨T, 2, none⟩ lT).trans kt2, (World.cell?_alloc_lt _ _ ⟨T, 3, none⟩ lT).trans kt3, (World.cell?_alloc_lt _ _ ⟨T, 4, none⟩ lT).trans kt4⟩ (fun hHeld2 => ?_);clear hK K hHeld;refine lay ?_;refine zao 6 (fun K hK => ?_);go_simp;refine Hput.out.mono ?_;rintro e7 w7 ⟨rfl, hE7, hb7⟩;refine hK.out _ _ ?_;clear hK K;refine lay ?_;refine zai (by kernel_rfl) ?_ _;have hfin := Hb6.out.trans hb7;have hE9 := hE7.drop.drop;rw [HR.out] at hE9;obtain ⟨HE7, Hb7, Hfin, HE9⟩ := hd4 hE7 hb7 hfin hE9;clear hE9 hfin hb7 hE7;clear kt0 kt1 kt2 kt3 kt4 f0;go_wp2_with fail;go_end0;exact ⟨rfl, HE9.out, Hfin.out⟩
 ·rw [if_neg h13] at hR
  have hz13 : ((o : Int) == 13) = false := by simp; omega
  by_cases h16 : o = 16
  ·subst h16;rw [if_pos rfl] at hR;have hdd := Hd.out (.inl Hop.out)
   have g2 : ∀ W : World, Blk W N 55 NC -> W.cell? ⟨N, 2, none⟩ = some (.int .i64 (d : Nat)) := fun W hB => zan hB HNC.out 2 (by show some (Value.int .i64 x.d) = _; rw [hdd])
   have n2 := g2 _ hbT.drop'.blk;obtain ⟨rd, hrdd⟩ := mn (zax d 13);rw [hrdd] at hR;have hwr := zcP X.fp d w2;rw [hrdd] at hwr;obtain ⟨hE3, hbT0⟩ := hbT.setFirst 1 (.int .i64 (rd : Nat))
   replace hE3 := (hE3.setFirst 4 (.int .i32 3)).1
   simp only [List.setIfInBounds_toArray, List.set_cons_succ, List.set_cons_zero] at hE3;have hb3 := (hb2.setCell (p := ⟨T, 1, none⟩) hbT0 (.int .i64 (rd : Nat))).setCell (p := ⟨T, 4, none⟩) hbT0 (.int .i32 3);have kT := hbT.blk;have kt1 := bc kT 1;have kt4 := bc kT 4;have ft1 := Blk.frozen kT 1;have ft4 := Blk.frozen kT 4;obtain ⟨HbT, Hb2, HR, HE3, Hb3, Hdd, HkT, Hrdd⟩ := hd8 hbT hb2 hR hE3 hb3 hdd kT hrdd;obtain ⟨Hwr, Hg2⟩ := hd2 hwr g2;clear g2 hwr hrdd kT hdd hb3 hE3 hR hb2 hbT;go_wp2_with fail;refine Hwr.out.mono ?_;rintro e2 w2' ⟨rfl, rfl⟩;go_upto_region 11 with fail;obtain ⟨w3, hw3⟩ := nm ((w2.setCell ⟨T, 1, none⟩ (.int .i64 (rd : Nat))).setCell ⟨T, 4, none⟩ (.int .i32 3));rw [<- hw3];rw [<- hw3] at HE3 Hb3;clear kt1 kt4 ft1 ft4 n0 n2;have Hw3 := Lib.hid hw3;clear hw3;have kT := HE3.out.blk;have lT := kT.lt;obtain ⟨f0, _⟩ := HE3.out.fn;have hfpl := HE3.out.fpb.2.1;have kt0 := bc kT 0;have kt1 := bc kT 1;have kt2 := bc kT 2;have kt3 := bc kT 3;have kt4 := bc kT 4;have hput := za6 ((HE3.out.drew).alloc (.cells #[.int .u8 13, .int .i64 (rd : Nat), .int .i64 0, .int .i64 0, .int .i32 3] 71)) (ms := [⟨13, rd, 0, 0, 3⟩]) (c := 1) (zal.newS _ rfl _ _ _ _ _ rfl rfl) rfl (by omega);have hb6 := (Hb3.out.drew).alloc HE3.out.drew.size (.cells #[.int .u8 13, .int .i64 (rd : Nat), .int .i64 0, .int .i64 0, .int .i32 3] 71);obtain ⟨Hput, Hb6, HkT⟩ := hd3 hput hb6 kT;clear kT hb6 hput;refine zaf (S := fun W => W.cell? ⟨X.fp, 0, none⟩ = some (.pointer (some ⟨X.ep, 0, none⟩)) /\ W.cell? ⟨T, 0, none⟩ = some (.int .u8 13) /\ W.cell? ⟨T, 1, none⟩ = some (.int .i64 (rd : Nat)) /\ W.cell? ⟨T, 2, none⟩ = some (.int .i64 0) /\ W.cell? ⟨T, 3, none⟩ = some (.int .i64 0) /\ W.cell? ⟨T, 4, none⟩ = some (.int .i32 3)) #[false, false, false, false, false, false, true] (by kernel_rfl) ⟨f0, kt0, kt1, kt2, kt3, kt4⟩ (fun hHeld => ?_);refine zaa 0 ?_;refine zaa 1 ?_;refine zaa 2 ?_;refine zaa 3 ?_;refine zaa 4 ?_;refine zag 5 (fun K hK => ?_);go_simp;refine hK.out _ _ ⟨(World.cell?_alloc_lt _ _ ⟨X.fp, 0, none⟩ hfpl).trans f0, (World.cell?_alloc_lt _ _ ⟨T, 0, none⟩ lT).trans kt0, (World.cell?_alloc_lt _ _ ⟨T, 1, none⟩ lT).trans kt1, (World.cell?_alloc_lt _ _ ⟨T, 2, none⟩ lT).trans kt2, (World.cell?_alloc_lt _ _ ⟨T, 3, none⟩ lT).trans kt3, (World.cell?_alloc_lt _ _ ⟨T, 4, none⟩ lT).trans kt4⟩ (fun hHeld2 => ?_);clear hK K hHeld;refine lay ?_;refine zao 6 (fun K hK => ?_);go_simp;refine Hput.out.mono ?_;rintro e7 w7 ⟨rfl, hE7, hb7⟩;refine hK.out _ _ ?_;clear hK K;refine lay ?_;refine zai (by kernel_rfl) ?_ _;have q2 := Hg2.out _ hE7.drop'.blk;have kT7 := hE7.blk;have ku1 := bc kT7 1;have hdn2 := zdp hE7 d rd hdn (by rw [zbe]; simp only [List.length_singleton]; omega) hns;have hb8 := Hb6.out.trans hb7;clear kt0 kt1 kt2 kt3 kt4 f0;obtain ⟨HE7, Hb7, Hdn2, Hb8, HkT7⟩ := hd5 hE7 hb7 hdn2 hb8 kT7;clear kT7 hb8 hdn2 hb7 hE7;go_wp2_with fail;refine Hdn2.out.mono ?_;rintro e8 w8 ⟨rfl, hE8, hb9⟩;have hfin := Hb8.out.trans hb9;have hE9 := hE8.drop.drop;rw [HR.out] at hE9;obtain ⟨HE8, Hb9, Hfin, HE9⟩ := hd4 hE8 hb9 hfin hE9;clear hE9 hfin hb9 hE8;go_wp2_with fail;go_end0;exact ⟨rfl, HE9.out, Hfin.out⟩
  ·rw [if_neg h16] at hR
   have hz16 : ((o : Int) == 16) = false := by simp; omega
   by_cases h15 : o = 15
   ·subst h15;rw [if_pos rfl] at hR;have hdd := Hd.out (.inr Hop.out);have hee := He.out Hop.out
    have g2 : ∀ W : World, Blk W N 55 NC -> W.cell? ⟨N, 2, none⟩ = some (.int .i64 (d : Nat)) := fun W hB => zan hB HNC.out 2 (by show some (Value.int .i64 x.d) = _; rw [hdd])
    have g3 : ∀ W : World, Blk W N 55 NC -> W.cell? ⟨N, 3, none⟩ = some (.int .i64 (e : Nat)) := fun W hB => zan hB HNC.out 3 (by show some (Value.int .i64 x.e) = _; rw [hee])
    have n2 := g2 _ hbT.drop'.blk;have n3 := g3 _ hbT.drop'.blk;obtain ⟨rd, hrdd⟩ := mn (zax d 13);obtain ⟨re, hree⟩ := mn (zax e 13);obtain ⟨rb, hrbb⟩ := mn (zax e 15);rw [hrdd, hrbb] at hR;have hwr := zcP X.fp d w2.drew;have hwr2 := zcP X.fp e w2.drew;rw [hrdd] at hwr;rw [hree] at hwr2;obtain ⟨hA1, hbT0⟩ := hbT.drew.setFirst 1 (.int .i64 (rd : Nat));have hA2 := (hA1.setFirst 3 (.int .i64 (re : Nat))).1;have hE3 := (hA2.setFirst 4 (.int .i32 6)).1;simp only [List.setIfInBounds_toArray, List.set_cons_succ, List.set_cons_zero] at hE3;have hb3 := ((hb2.drew.setCell (p := ⟨T, 1, none⟩) hbT0 (.int .i64 (rd : Nat))).setCell (p := ⟨T, 3, none⟩) hbT0 (.int .i64 (re : Nat))).setCell (p := ⟨T, 4, none⟩) hbT0 (.int .i32 6);have kT := hbT.blk;have kt1 := bc kT 1;have kt3 := bc kT 3;have kt4 := bc kT 4;have ft1 := Blk.frozen kT 1;have ft3 := Blk.frozen kT 3;have ft4 := Blk.frozen kT 4
    have S1 : _ /\ _ := ⟨g2 _ hA1.drop'.blk, g3 _ hA1.drop'.blk⟩
    have S2 : _ /\ _ := ⟨g2 _ hA2.drop'.blk, g3 _ hA2.drop'.blk⟩
    obtain ⟨HbT, Hb2, HR, HE3, Hb3, Hdd, Hee, HkT⟩ := hd8 hbT hb2 hR hE3 hb3 hdd hee kT;obtain ⟨Hrdd, Hree, Hrbb, Hwr, Hwr2, Hg2, Hg3, HA1⟩ := hd8 hrdd hree hrbb hwr hwr2 g2 g3 hA1;obtain ⟨HA2, HS1, HS2⟩ := hd3 hA2 S1 S2;clear S2 S1 hA2 hA1 g3 g2 hwr2 hwr hrbb hree hrdd kT hee hdd hb3 hE3 hR hb2 hbT;go_upto_region 14 with fail;refine zaf (S := fun W => W.cell? ⟨N, 2, none⟩ = some (.int .i64 (d : Nat)) /\ W.cell? ⟨N, 3, none⟩ = some (.int .i64 (e : Nat))) #[false, false, false, false, false, false, false, false, false, false, false, false, false, true] (by kernel_rfl) ⟨n2, n3⟩ (fun hHeld => ?_);refine zaa 0 ?_;refine zaa 1 ?_;refine zaa 2 ?_;refine zaa 4 ?_;refine zaa 5 ?_;refine zaa 6 ?_;refine zag 3 (fun K hK => ?_);go_simp;refine Hwr.out.mono ?_;rintro e2 w2' ⟨rfl, rfl⟩;refine hK.out _ _ ⟨n2, n3⟩ (fun hHeld2 => ?_);clear hK K hHeld;refine lay ?_;refine zaa 8 ?_;refine zag 7 (fun K hK => ?_);go_simp;refine Hwr2.out.mono ?_;rintro e2 w2' ⟨rfl, rfl⟩;refine hK.out _ _ ⟨n2, n3⟩ (fun hHeld3 => ?_);clear hK K hHeld2;refine lay ?_;refine zag 9 (fun K hK => ?_);go_simp;refine hK.out _ _ HS1.out (fun hHeld4 => ?_);clear hK K hHeld3;refine lay ?_;refine zaa 10 ?_;refine zag 11 (fun K hK => ?_);go_simp;refine hK.out _ _ HS2.out (fun hHeld5 => ?_);clear hK K hHeld4;refine lay ?_;refine zaa 12 ?_;refine zao 13 (fun K hK => ?_);go_simp;refine hK.out _ _ ?_;clear hK K;refine lay ?_;refine zai (by kernel_rfl) ?_ _;obtain ⟨w3, hw3⟩ := nm ((((w2.setCell ⟨T, 1, none⟩ (.int .i64 (rd : Nat))).setCell ⟨T, 3, none⟩ (.int .i64 (re : Nat))).setCell ⟨T, 4, none⟩ (.int .i32 6)).drew);rw [<- hw3]
    have hF3 : zaz w3 base X E (.blk T 71 #[.int .u8 13, .int .i64 (rd : Nat), .int .i64 0, .int .i64 (re : Nat), .int .i32 6] :: .blk N 55 NC :: rest) := by rw [hw3]; exact HE3.out
    have hB3 : Below base w w3 := by rw [hw3]; exact Hb3.out
    have q3 := Hg3.out _ hF3.drop'.blk;have kF := hF3.blk;have kf3 := bc kF 3;have ff3 := Blk.frozen kF 3;clear n0 n2 n3 kt1 kt3 kt4 ft1 ft3 ft4 hHeld5 HE3 Hb3
    by_cases h16e : e < 16
    case' pos =>
     have hei : ¬ (16 : Int) <= e := by omega
     have h1 : re = e := by rw [<- Hree.out]; unfold zax; rw [if_pos h16e]
     have h2 : rb = e := by rw [<- Hrbb.out]; unfold zax; rw [if_pos h16e]
     have hE3 : zaz w3 base X E (.blk T 71 #[.int .u8 13, .int .i64 (rd : Nat), .int .i64 0, .int .i64 (rb : Nat), .int .i32 6] :: .blk N 55 NC :: rest) := by rw [h2, <- h1]; exact hF3
     have hb3 := hB3;obtain ⟨Hw3, HF3, HB3, HkF, HE3, Hb3, H1, H2⟩ := hd8 hw3 hF3 hB3 kF hE3 hb3 h1 h2;clear h2 h1 hb3 hE3 kF hB3 hF3 hw3;go_upto_region 17 with fail;obtain ⟨w4, hw4⟩ := nm (w3);rw [<- hw4];rw [<- hw4] at HE3 Hb3;have Hw4 := Lib.hid hw4;clear hw4
    case' neg =>
     have hei : (16 : Int) <= e := by omega
     have h2 : rb = 15 := by rw [<- Hrbb.out]; unfold zax; rw [if_neg h16e]
     have hE3 := (hF3.setFirst 3 (.int .i64 15)).1;simp only [List.setIfInBounds_toArray, List.set_cons_succ, List.set_cons_zero] at hE3
     replace hE3 : zaz (w3.setCell ⟨T, 3, none⟩ (.int .i64 15)) base X E (.blk T 71 #[.int .u8 13, .int .i64 (rd : Nat), .int .i64 0, .int .i64 (rb : Nat), .int .i32 6] :: .blk N 55 NC :: rest) := by rw [h2]; exact hE3
     have hb3 := hB3.setCell (p := ⟨T, 3, none⟩) hbT0 (.int .i64 15);obtain ⟨Hw3, HF3, HB3, HkF, HE3, Hb3, H2⟩ := hd7 hw3 hF3 hB3 kF hE3 hb3 h2;clear h2 hb3 hE3 kF hB3 hF3 hw3;go_upto_region 17 with fail;obtain ⟨w4, hw4⟩ := nm (w3.setCell ⟨T, 3, none⟩ (.int .i64 15));rw [<- hw4];rw [<- hw4] at HE3 Hb3;have Hw4 := Lib.hid hw4;clear hw4
    all_goals
     clear kf3 ff3 q3;have kT := HE3.out.blk;have lT := kT.lt;obtain ⟨f0, _⟩ := HE3.out.fn;have hfpl := HE3.out.fpb.2.1;have kt0 := bc kT 0;have kt1 := bc kT 1;have kt2 := bc kT 2;have kt3 := bc kT 3;have kt4 := bc kT 4;have hput := za6 ((HE3.out.drew).alloc (.cells #[.int .u8 13, .int .i64 (rd : Nat), .int .i64 0, .int .i64 (rb : Nat), .int .i32 6] 71)) (ms := [⟨13, rd, 0, rb, 6⟩]) (c := 1) (zal.newS _ rfl _ _ _ _ _ rfl rfl) rfl (by omega);have hb6 := (Hb3.out.drew).alloc HE3.out.drew.size (.cells #[.int .u8 13, .int .i64 (rd : Nat), .int .i64 0, .int .i64 (rb : Nat), .int .i32 6] 71);obtain ⟨Hput, Hb6, HkT⟩ := hd3 hput hb6 kT;clear kT hb6 hput;refine zaf (S := fun W => W.cell? ⟨X.fp, 0, none⟩ = some (.pointer (some ⟨X.ep, 0, none⟩)) /\ W.cell? ⟨T, 0, none⟩ = some (.int .u8 13) /\ W.cell? ⟨T, 1, none⟩ = some (.int .i64 (rd : Nat)) /\ W.cell? ⟨T, 2, none⟩ = some (.int .i64 0) /\ W.cell? ⟨T, 3, none⟩ = some (.int .i64 (rb : Nat)) /\ W.cell? ⟨T, 4, none⟩ = some (.int .i32 6)) #[false, false, false, false, false, false, true] (by kernel_rfl) ⟨f0, kt0, kt1, kt2, kt3, kt4⟩ (fun hHeld => ?_);refine zaa 0 ?_;refine zaa 1 ?_;refine zaa 2 ?_;refine zaa 3 ?_;refine zaa 4 ?_;refine zag 5 (fun K hK => ?_);go_simp;refine hK.out _ _ ⟨(World.cell?_alloc_lt _ _ ⟨X.fp, 0, none⟩ hfpl).trans f0, (World.cell?_alloc_lt _ _ ⟨T, 0, none⟩ lT).trans kt0, (World.cell?_alloc_lt _ _ ⟨T, 1, none⟩ lT).trans kt1, (World.cell?_alloc_lt _ _ ⟨T, 2, none⟩ lT).trans kt2, (World.cell?_alloc_lt _ _ ⟨T, 3, none⟩ lT).trans kt3, (World.cell?_alloc_lt _ _ ⟨T, 4, none⟩ lT).trans kt4⟩ (fun hHeld2 => ?_);clear hK K hHeld;refine lay ?_;refine zao 6 (fun K hK => ?_);go_simp;refine Hput.out.mono ?_;rintro e7 w7 ⟨rfl, hE7, hb7⟩;refine hK.out _ _ ?_;clear hK K;refine lay ?_;refine zai (by kernel_rfl) ?_ _;have q2 := Hg2.out _ hE7.drop'.blk;have kT7 := hE7.blk;have ku1 := bc kT7 1;have hdn2 := zdp hE7 d rd hdn (by rw [zbe]; simp only [List.length_singleton]; omega) hns;have hb8 := Hb6.out.trans hb7;clear kt0 kt1 kt2 kt3 kt4 f0;obtain ⟨HE7, Hb7, Hdn2, Hb8, HkT7⟩ := hd5 hE7 hb7 hdn2 hb8 kT7;clear kT7 hb8 hdn2 hb7 hE7;go_wp2_with fail;refine Hdn2.out.mono ?_;rintro e8 w8 ⟨rfl, hE8, hb9⟩;have q3 := Hg3.out _ hE8.drop'.blk;have kT8 := hE8.blk;have kx3 := bc kT8 3;have hdn3 := zdp hE8 e rb hen (by have := zcV (E.put [⟨13, rd, 0, rb, 6⟩]) d rd; rw [zbe] at this; simp only [List.length_singleton] at this; omega) hns;have hb10 := Hb8.out.trans hb9;clear ku1 q2;obtain ⟨HE8, Hb9, Hdn3, Hb10, HkT8⟩ := hd5 hE8 hb9 hdn3 hb10 kT8;clear kT8 hb10 hdn3 hb9 hE8;go_wp2_with fail;refine Hdn3.out.mono ?_;rintro e9 w9 ⟨rfl, hE9, hb11⟩;have hfin := Hb10.out.trans hb11;have hE10 := hE9.drop.drop;rw [HR.out] at hE10;obtain ⟨HE9, Hb11, Hfin, HE10⟩ := hd4 hE9 hb11 hfin hE10;clear hE10 hfin hb11 hE9;go_wp2_with fail;go_end0;exact ⟨rfl, HE10.out, Hfin.out⟩
   ·rw [if_neg h15] at hR
    have hz15 : ((o : Int) == 15) = false := by simp; omega
    have haa := Ha.out (by rw [Hop.out]; omega)
    have g4 : ∀ W : World, Blk W N 55 NC -> W.cell? ⟨N, 4, none⟩ = some (.int .i64 (a : Nat)) := fun W hB => zan hB HNC.out 4 (by show some (Value.int .i64 x.a) = _; rw [haa])
    obtain ⟨ra, hraa⟩ := mn (zax a 13);rw [hraa] at hR;have hmap0 : (w2.alloc (.map #[] 0)).ownsMap Tryd.prog 51 (plainElem (H := Unit) Tryd.prog 21) w2.heap.size 0 (.map []) := World.ownsMap_made _ _ _ _;have hmm := @run_makeMap Tryd.prog;have hb00 := (Below.refl w2.heap.size w2).alloc (Nat.le_refl _) (.map #[] 0)
    have h3 : o = 14 ∨ o = 17 ∨ o = 18 := by omega
    have hkw : (Lit.int .u8 (o : Int)).wf = true := by rcases h3 with rfl | rfl | rfl <;> rfl
    have hc : ∀ c : Int, ((((DataW.map []).put (.int .u8 17) (.lit (.int .i32 2))).put (.int .u8 14) (.lit (.int .i32 5))).put (.int .u8 18) (.lit (.int .i32 4)) : DataW Unit).atKey (.int .u8 (o : Int)) (.lit (.int .i32 0)) = .lit (.int .i32 c) -> c = ziv o := by
     intro c hcc
     rcases h3 with rfl | rfl | rfl
     ·have e1 : ((((DataW.map []).put (.int .u8 17) (.lit (.int .i32 2))).put (.int .u8 14) (.lit (.int .i32 5))).put (.int .u8 18) (.lit (.int .i32 4)) : DataW Unit).atKey (.int .u8 ((14 : Nat) : Int)) (.lit (.int .i32 0)) = .lit (.int .i32 5) := by rfl
      rw [e1] at hcc; injection hcc with hcc; injection hcc with _ hcc; exact hcc.symm
     ·have e1 : ((((DataW.map []).put (.int .u8 17) (.lit (.int .i32 2))).put (.int .u8 14) (.lit (.int .i32 5))).put (.int .u8 18) (.lit (.int .i32 4)) : DataW Unit).atKey (.int .u8 ((17 : Nat) : Int)) (.lit (.int .i32 0)) = .lit (.int .i32 2) := by rfl
      rw [e1] at hcc; injection hcc with hcc; injection hcc with _ hcc; exact hcc.symm
     ·have e1 : ((((DataW.map []).put (.int .u8 17) (.lit (.int .i32 2))).put (.int .u8 14) (.lit (.int .i32 5))).put (.int .u8 18) (.lit (.int .i32 4)) : DataW Unit).atKey (.int .u8 ((18 : Nat) : Int)) (.lit (.int .i32 0)) = .lit (.int .i32 4) := by rfl
      rw [e1] at hcc; injection hcc with hcc; injection hcc with _ hcc; exact hcc.symm
    obtain ⟨v1, hrun1, hm1, hg1⟩ := hmap0.update (int_keyed Tryd.underlying51) Tryd.underlying148 (by unfold maxLen; omega) (keyOf_int_mk Tryd.underlying51 (q := .u8) (a := 17) (by rfl)) (plainElem_int Tryd.underlying21 (q := .i32) (a := 2) (by rfl));obtain ⟨v2, hrun2, hm2, hg2⟩ := hm1.update (int_keyed Tryd.underlying51) Tryd.underlying148 (by unfold maxLen; omega) (keyOf_int_mk Tryd.underlying51 (q := .u8) (a := 14) (by rfl)) (plainElem_int Tryd.underlying21 (q := .i32) (a := 5) (by rfl));obtain ⟨v3, hrun3, hm3, hg3⟩ := hm2.update (int_keyed Tryd.underlying51) Tryd.underlying148 (by unfold maxLen; omega) (keyOf_int_mk Tryd.underlying51 (q := .u8) (a := 18) (by rfl)) (plainElem_int Tryd.underlying21 (q := .i32) (a := 4) (by rfl));obtain ⟨c, hlk, hcc, _⟩ := hm3.lookup_int (int_keyed Tryd.underlying51) Tryd.underlying148 Tryd.underlying21 (q := .i32) (by rfl) (keyOf_int_mk Tryd.underlying51 hkw);obtain rfl := hc c hcc;have hgA := (hg1.trans hg2).trans hg3;have hB5 := hb00.grown hgA (by simp) (fun b e => by injection e with e; omega);have hE4 := hbT.below hB5;have hb4 := hb2.trans (hB5.mono hbT.size);obtain ⟨im, him⟩ := mn (ziv o);rw [him] at hR hlk;have m0 := Hg0.out _ hE4.drop'.blk;have kT := hE4.blk;have kt4 := bc kT 4;have ft4 := Blk.frozen kT 4;obtain ⟨hE5, hbT0⟩ := hE4.setFirst 4 (.int .i32 im);simp only [List.setIfInBounds_toArray, List.set_cons_succ, List.set_cons_zero] at hE5;have hb5 := hb4.setCell (p := ⟨T, 4, none⟩) hbT0 (.int .i32 im);obtain ⟨HbT, Hb2, HR, Haa, Hraa, Hg4, Hb00, Hc⟩ := hd8 hbT hb2 hR haa hraa g4 hb00 hc;obtain ⟨HgA, HB5, HE4, Hb4, Him, HkT, HE5, Hb5⟩ := hd8 hgA hB5 hE4 hb4 him kT hE5 hb5;obtain ⟨Hg1, Hg2, Hg3, Hm1, Hm2, Hm3, Hmap0, Hcc⟩ := hd8 hg1 hg2 hg3 hm1 hm2 hm3 hmap0 hcc;have H3 := Lib.hid h3;clear h3 hcc hmap0 hm3 hm2 hm1 hg3 hg2 hg1 hb5 hE5 kT him hb4 hE4 hB5 hgA hc hb00 g4 hraa haa hR hb2 hbT;go_upto_region 4 with fail;obtain ⟨w5, hw5⟩ := nm (v3.setCell ⟨T, 4, none⟩ (.int .i32 im));rw [<- hw5];rw [<- hw5] at HE5 Hb5;have n4 := Hg4.out _ HE5.out.drop'.blk;have hrd := zcW HE5.out a 13 han (by omega) hns;rw [Hraa.out] at hrd;clear m0 n0 kt4 ft4 hrun1 hrun2 hrun3 hlk hmm;obtain ⟨Hw5, Hrd⟩ := hd2 hw5 hrd;clear hrd hw5;go_wp2_with fail;refine Hrd.out.mono ?_;rintro e5 w6 ⟨rfl, hE6, hb56⟩;have kT6 := hE6.blk;have kt2 := bc kT6 2;have ft2 := Blk.frozen kT6 2;have hE3 := (hE6.setFirst 2 (.int .i64 (ra : Nat))).1;simp only [List.setIfInBounds_toArray, List.set_cons_succ, List.set_cons_zero] at hE3;have hb3 := (Hb5.out.trans hb56).setCell (p := ⟨T, 2, none⟩) hbT0 (.int .i64 (ra : Nat));obtain ⟨HE6, Hb56, HkT6, HE3, Hb3⟩ := hd5 hE6 hb56 kT6 hE3 hb3;clear hb3 hE3 kT6 hb56 hE6;go_upto_region 5 with fail;obtain ⟨w3, hw3⟩ := nm (w6.setCell ⟨T, 2, none⟩ (.int .i64 (ra : Nat)));rw [<- hw3];rw [<- hw3] at HE3 Hb3;clear kt2 ft2 n4;have Hw3 := Lib.hid hw3;clear hw3;have kT := HE3.out.blk;have lT := kT.lt;obtain ⟨f0, _⟩ := HE3.out.fn;have hfpl := HE3.out.fpb.2.1;have kt0 := bc kT 0;have kt1 := bc kT 1;have kt2 := bc kT 2;have kt3 := bc kT 3;have kt4 := bc kT 4;have hput := za6 ((HE3.out.drew).alloc (.cells #[.int .u8 13, .int .i64 0, .int .i64 (ra : Nat), .int .i64 0, .int .i32 im] 71)) (ms := [⟨13, 0, ra, 0, im⟩]) (c := 1) (zal.newS _ rfl _ _ _ _ _ rfl rfl) rfl (by have := zbq E a 13; omega);have hb6 := (Hb3.out.drew).alloc HE3.out.drew.size (.cells #[.int .u8 13, .int .i64 0, .int .i64 (ra : Nat), .int .i64 0, .int .i32 im] 71);obtain ⟨Hput, Hb6, HkT⟩ := hd3 hput hb6 kT;clear kT hb6 hput;refine zaf (S := fun W => W.cell? ⟨X.fp, 0, none⟩ = some (.pointer (some ⟨X.ep, 0, none⟩)) /\ W.cell? ⟨T, 0, none⟩ = some (.int .u8 13) /\ W.cell? ⟨T, 1, none⟩ = some (.int .i64 0) /\ W.cell? ⟨T, 2, none⟩ = some (.int .i64 (ra : Nat)) /\ W.cell? ⟨T, 3, none⟩ = some (.int .i64 0) /\ W.cell? ⟨T, 4, none⟩ = some (.int .i32 im)) #[false, false, false, false, false, false, true] (by kernel_rfl) ⟨f0, kt0, kt1, kt2, kt3, kt4⟩ (fun hHeld => ?_);refine zaa 0 ?_;refine zaa 1 ?_;refine zaa 2 ?_;refine zaa 3 ?_;refine zaa 4 ?_;refine zag 5 (fun K hK => ?_);go_simp;refine hK.out _ _ ⟨(World.cell?_alloc_lt _ _ ⟨X.fp, 0, none⟩ hfpl).trans f0, (World.cell?_alloc_lt _ _ ⟨T, 0, none⟩ lT).trans kt0, (World.cell?_alloc_lt _ _ ⟨T, 1, none⟩ lT).trans kt1, (World.cell?_alloc_lt _ _ ⟨T, 2, none⟩ lT).trans kt2, (World.cell?_alloc_lt _ _ ⟨T, 3, none⟩ lT).trans kt3, (World.cell?_alloc_lt _ _ ⟨T, 4, none⟩ lT).trans kt4⟩ (fun hHeld2 => ?_);clear hK K hHeld;refine lay ?_;refine zao 6 (fun K hK => ?_);go_simp;refine Hput.out.mono ?_;rintro e7 w7 ⟨rfl, hE7, hb7⟩;refine hK.out _ _ ?_;clear hK K;refine lay ?_;refine zai (by kernel_rfl) ?_ _;have hfin := Hb6.out.trans hb7;have hE9 := hE7.drop.drop;rw [HR.out] at hE9;obtain ⟨HE7, Hb7, Hfin, HE9⟩ := hd4 hE7 hb7 hfin hE9;clear hE9 hfin hb7 hE7;clear kt0 kt1 kt2 kt3 kt4 f0;go_wp2_with fail;go_end0;exact ⟨rfl, HE9.out, Hfin.out⟩
end
def EmS.site (E : EmS) (L : List Int) : EmS := { E with sites := E.sites ++ [(E.code.length, L)] }
def zdi (K : Nat -> Int) (l : List Nat) : List Int := (l.filter fun p => decide (16 <= p) && decide (K p = 1)).map zdW
theorem zjj (K : Nat -> Int) (l : List Nat) (p : Nat) : zdi K (l ++ [p]) = zdi K l ++ (if 16 <= p /\ K p = 1 then [zdW p] else []) := by
 unfold zdi;rw [List.filter_append, List.map_append]
 by_cases h : 16 <= p /\ K p = 1
 ·rw [if_pos h]; simp [h.1, h.2]
 ·rw [if_neg h]
  have : (decide (16 <= p) && decide (K p = 1)) = false := by simpa using h
  simp [this]
theorem zmd (E : EmS) (L : List Int) : (E.site L).sz = E.sz + 1 := by unfold EmS.sz EmS.site; simp only [List.length_append, List.length_singleton]; omega
theorem zlt : (Tryd.prog.info? 112).map (fun i => (i.zero, i.size, i.bytes)) = some (some (.agg #[.int .i64 0, .slice none 0 0]), 2, 32) := by kernel_rfl
section
variable {w : World} {base : Nat} {X : EmX} {E : EmS} {rest : List It}
theorem zfQ {l : List (Nat × List Int)} {vs : List Value} (h : vs.length = l.length) (x : Nat × List Int) (v : Value) : zaC (l ++ [x]) (vs ++ [v]) = zaC l vs ++ [.int .i64 (x.1 : Nat), v] := by
 unfold zaC;rw [List.zip_append h.symm, List.flatMap_append]; rfl
theorem zgE {l : List (Nat × List Int)} {vs : List Value} (h : vs.length = l.length) (x : Nat × List Int) (v : Value) : zaM (l ++ [x]) (vs ++ [v]) = zaM l vs ++ [.row v 3 1 x.2.length (x.2.map (Value.int .i64))] := by
 unfold zaM;rw [List.zip_append h.symm, List.map_append]; rfl
theorem zaz.site_ {lv : Value} {L : List Int} (h : zaz w base X E (.row lv 3 1 L.length (L.map (Value.int .i64)) :: rest)) : ∃ v xs, w.cell? ⟨X.ep, 4, none⟩ = some v /\ w.ownsRow base 112 2 v E.sites.length xs /\ (∀ u ∈ xs, u.oneCell' = true -> True) /\
  ∀ w', w.grownBy w' v.ownBlock -> (∀ g, g = X.fp ∨ g = X.ep -> ∀ j, w'.cell? ⟨g, j, none⟩ = w.cell? ⟨g, j, none⟩) /\ w'.frozen? ⟨X.ep, 4, none⟩ = false /\ (∀ g t cs, It.blk g t cs ∈ rest -> Blk w' g t cs) /\
   ∀ A c, w'.ownsRow base 112 2 (.slice A (E.sites.length + 1) c) (E.sites.length + 1) (xs ++ [.int .i64 (E.code.length : Nat), lv]) -> ((Value.slice A (E.sites.length + 1) c).ownBlock = v.ownBlock ∨ ∀ b, (Value.slice A (E.sites.length + 1) c).ownBlock = some b -> w.heap.size <= b) ->
    zaz (w'.setCell ⟨X.ep, 4, none⟩ (.slice A (E.sites.length + 1) c)) base X (E.site L) rest /\ Below base w (w'.setCell ⟨X.ep, 4, none⟩ (.slice A (E.sites.length + 1) c)) := by
 obtain ⟨cv, sv, zv, nv, Mc, J, L', lvs, h1, hI⟩ := h;have hb := hI.blk (i := 3) rfl;have he := hI.blk (i := 0) rfl;have ho := hI.own (i := 11) rfl;have heb := (hI.at_ (i := 0) rfl).lt X.ep rfl;refine ⟨_, _, he.cell 4, ho, fun _ _ _ => trivial, fun w' hg => ?_⟩;have hn3 := hI.ne_row (i := 3) (j := 11) rfl rfl (by omega);have hn0 := hI.ne_row (i := 0) (j := 11) rfl rfl (by omega);have hb' := hb.grown hg hn3;have he' := he.grown hg hn0;refine ⟨fun g hgg j => ?_, he'.frozen 4, fun g t cs hm => ?_, fun A c ho' hat => ?_⟩
 ·rcases hgg with rfl | rfl
  ·rw [hb'.cell j, hb.cell j]
  ·rw [he'.cell j, he.cell j]
 ·obtain ⟨k, hk⟩ := List.mem_iff_getElem?.1 (List.mem_append_right (za1 X E cv sv zv nv Mc J L' lvs) (List.mem_append_right (zaM E.sites lvs) (List.mem_cons_of_mem (.row lv 3 1 L.length (L.map (Value.int .i64))) hm)))
  have hk11 : k ≠ 11 := by
   rintro rfl;have e11 : (za1 X E cv sv zv nv Mc J L' lvs ++ (zaM E.sites lvs ++ .row lv 3 1 L.length (L.map (Value.int .i64)) :: rest))[11]? = some (.row sv 112 2 E.sites.length (zaC E.sites lvs)) := rfl;rw [e11] at hk
   cases hk
  exact (hI.blk hk).grown hg (hI.ne_row (i := k) (j := 11) hk rfl hk11)
 ·have hI2 := hI.push (i := 11) rfl ho' hg hat;have hI3 := hI2.set_ (i := 0) rfl 4 (.slice A (E.sites.length + 1) c);refine ⟨⟨cv, .slice A (E.sites.length + 1) c, zv, nv, Mc, J, L', lvs ++ [lv], ?_, ?_⟩, ?_⟩
  ·unfold EmS.site; simp only [List.length_append, List.length_singleton]; omega
  ·have e : (E.site L).sites.length = E.sites.length + 1 := by unfold EmS.site; simp only [List.length_append, List.length_singleton]
   have e2 : zaC (E.site L).sites (lvs ++ [lv]) = zaC E.sites lvs ++ [.int .i64 (E.code.length : Nat), lv] := zfQ h1 _ _;have e3 : zaM (E.site L).sites (lvs ++ [lv]) = zaM E.sites lvs ++ [.row lv 3 1 L.length (L.map (Value.int .i64))] := zgE h1 _ _;unfold za1;rw [e, e2, e3, List.append_assoc];exact hI3
  ·exact ((Below.refl base w).grown hg (by omega) fun b e => (ho.lt b e).1).setCell (p := ⟨X.ep, 4, none⟩) heb.1 _
end
section
variable {w w' : World} {base : Nat} {X : EmX} {E : EmS} {rest rest' : List It}
theorem zaz.permR (h : zaz w base X E rest) (hp : rest.Perm rest') : zaz w base X E rest' := by
 obtain ⟨cv, sv, zv, nv, Mc, J, L, lvs, h1, hI⟩ := h;exact ⟨cv, sv, zv, nv, Mc, J, L, lvs, h1, hI.perm ((hp.append_left _).append_left _)⟩
theorem zaz.pushFirst {v v' : Value} {e : TypeId} {size n n' : Nat} {xs xs' : List Value} (h : zaz w base X E (.row v e size n xs :: rest)) (ho : w'.ownsRow base e size v' n' xs') (hg : w.grownBy w' v.ownBlock) (hat : v'.ownBlock = v.ownBlock ∨ ∀ b, v'.ownBlock = some b -> w.heap.size <= b) : zaz w' base X E (.row v' e size n' xs' :: rest) := by
 obtain ⟨cv, sv, zv, nv, Mc, J, L, lvs, h1, hI⟩ := h
 have e1 : (za1 X E cv sv zv nv Mc J L lvs).length + (zaM E.sites lvs).length - (za1 X E cv sv zv nv Mc J L lvs).length - (zaM E.sites lvs).length = 0 := by omega
 have hi : (za1 X E cv sv zv nv Mc J L lvs ++ (zaM E.sites lvs ++ .row v e size n xs :: rest))[(za1 X E cv sv zv nv Mc J L lvs).length + (zaM E.sites lvs).length]? = some (.row v e size n xs) := by
  rw [List.getElem?_append_right (by omega), List.getElem?_append_right (by omega), e1]; rfl
 have hI2 := hI.push hi ho hg hat;refine ⟨cv, sv, zv, nv, Mc, J, L, lvs, h1, ?_⟩;rw [List.set_append_right _ _ (by omega), List.set_append_right _ _ (by omega), e1] at hI2;exact hI2
theorem zaz.own {v : Value} {e : TypeId} {size n : Nat} {xs : List Value} (h : zaz w base X E (.row v e size n xs :: rest)) : w.ownsRow base e size v n xs := h.first
theorem zmg {gb go n i : Nat} {S : Nat -> Bool} {KD : Nat -> Int} (h : zaz w base X E rest) (hga : X.ga = ⟨gb, (go : Nat), none⟩)
  (hP : ∀ W E', zaz W base X E' rest -> ∃ pA N pc g h', X.pv = .slice (some pA) N pc /\ i < N /\ W.cell? (pA.add i) = some (.pointer (some ⟨g, 0, none⟩)) /\ zcF W g h' n S)
  (hS : ∀ k, n <= k -> S k = false) (hn : n <= 16 + X.ns)
  (hK : ∀ W, Below base w W -> ∃ kv, W.cell? ⟨gb, ((go + 1 : Nat) : Nat), none⟩ = some kv /\ ∀ k, k < n -> ∃ kA kc, kv = .slice (some kA) n kc /\ W.cell? (kA.add k) = some (.int .u8 (KD k)))
  (hT : ∀ W, Below base w W -> TabX W) (hns : X.ns <= 1048560) (hi : i < 1048576) (hsz : E.sz + 2 <= 1099511627776) :
  Calls Tryd.prog 76 #[.pointer (some ⟨X.fp, 0, none⟩), .int .i64 (i : Nat)] w fun e w' => zbK base X rest w (.tuple #[]) (E.site (zdi KD (zbB n S))) e w' := by
 obtain ⟨iS, hiS, sz0, sz1, sz2⟩ := info_parts zlt;obtain ⟨iI, hiI, iz0, iz1, iz2⟩ := info_parts zdk;obtain ⟨l, hl⟩ := mn (zbB n S);obtain ⟨R, hR⟩ := mn (E.site (zdi KD l))
 have hll : l.length <= n := by rw [<- hl]; exact zfz n S
 have hlm : ∀ p ∈ l, p < n := fun p hp => by rw [<- hl] at hp; exact (zdF.1 hp).1
 rw [hl, hR];obtain ⟨f0, f1, _, f3, _, _, _, _, f12⟩ := h.fn;obtain ⟨CA, cc, k0⟩ := h.code;have hE1 := h.box 112 #[.int .i64 (E.code.length : Nat), .slice none 0 0];have hb1 := (Below.refl base w).alloc h.size (.cells #[.int .i64 (E.code.length : Nat), .slice none 0 0] 112);obtain ⟨T, hT'⟩ := nm (w.heap.size);obtain ⟨w1, hw1⟩ := nm (w.alloc (.cells #[.int .i64 (E.code.length : Nat), .slice none 0 0] 112));rw [<- hw1, <- hT'] at hE1;rw [<- hw1] at hb1;obtain ⟨pA, N, pc, g, h', hpv, hiN, hpc, hset⟩ := hP _ _ hE1.drop;have f12' := hE1.fn.2.2.2.2.2.2.2.2;rw [hpv] at f12';have hlist := zhn hset hS (hT w1 hb1);rw [hl, show zdE n S = l.map (fun i => ((i : Nat) : Int)) by unfold zdE; rw [hl]] at hlist
 have hin : (i : Int) < N := by omega
 obtain ⟨H, HE1, Hb1, HT', Hw1, HP, HS, HK⟩ := hd8 h hE1 hb1 hT' hw1 hP hS hK;obtain ⟨HT, Hset, Hlist, Hl, HR, Hlm, Hpv, Hga⟩ := hd8 hT hset hlist hl hR hlm hpv hga;obtain ⟨Hf1, Hf3, Hf12⟩ := hd3 f1 f3 f12;clear f12 f3 f1 hga hpv hlm hR hl hlist hset hT hK hS hP hw1 hT' hb1 hE1 h;go_enter Tryd.func76, Tryd.ntmps76;go_upto_region 1 with fail;rw [<- Hw1.out, <- HT'.out];go_wp2_with fail;refine Hlist.out.mono ?_;rintro e w2 ⟨LA, lc, rfl, hown, hb2⟩;obtain ⟨m, hm⟩ := mn (l.length);rw [hm] at hown hll ⊢;have hE2 := HE1.out.extend (x := .row (.slice LA m lc) 3 1 m ((l.map (fun i => ((i : Nat) : Int))).map (Value.int .i64))) (zah hb2 none) (It.At.lower (x := .row (.slice LA m lc) 3 1 m ((l.map (fun i => ((i : Nat) : Int))).map (Value.int .i64))) hown HE1.out.size) (fun b e => (hown.lt b e).1);have hE3 := hE2.extend (x := .row (.slice none 0 0) 3 1 0 []) (World.grownBy.refl _ _) (World.ownsRow_nil _ _ _ _) (fun b e => by cases e);have hb3 := Hb1.out.trans (hb2.mono HE1.out.size);obtain ⟨Hown, Hb2, HE2, HE3, Hb3, Hm⟩ := hd6 hown hb2 hE2 hE3 hb3 hm;clear hm hb3 hE3 hE2 hb2 hown;go_wp2_with fail;clear f0 k0 f12' hpc
 go_loopg [25] m (fun gk iv wr => ∃ (j : Nat) (lv : Value), j + gk = m /\ iv = .int .i64 j /\ Hid (zaz wr base X E (.row lv 3 1 (zdi KD (l.take j)).length ((zdi KD (l.take j)).map (Value.int .i64)) :: .row (.slice LA m lc) 3 1 m ((l.map (fun i => ((i : Nat) : Int))).map (Value.int .i64)) :: .blk T 112 #[.int .i64 (E.code.length : Nat), lv] :: rest)) /\ Hid (Below base w wr))
 case atStart => exact ⟨0, .slice none 0 0, by omega, rfl, HE3, Hb3⟩
 case round =>
  obtain ⟨j, lv, hj, rfl, hEj, hbj⟩ := hrel;have hbz := hEj.out.size;obtain ⟨A, c, hlv, _⟩ := zak hEj.out.own;obtain ⟨nl, hnl⟩ := mn ((zdi KD (l.take j)).length);have hEj2 := hEj.out;rw [hnl] at hlv hEj2
  have hpT : ∀ (a b c : It) (r : List It), (a :: b :: c :: r).Perm (c :: a :: b :: r) := fun a b c r => List.perm_middle (l₁ := [a, b])
  by_cases hjm : j < m
  ·have hjl : j < l.length := by rw [Hm.out]; exact hjm
   obtain ⟨p, hp⟩ : ∃ p, l[j]? = some p := ⟨_, List.getElem?_eq_getElem hjl⟩
   have hpn := Hlm.out p (List.mem_of_getElem? hp);obtain ⟨ad, u, hA, _, hu, hcu⟩ := (zal.of_own hEj2.drop.own).at_ hjm;subst hA
   have hu2 : u = .int .i64 (p : Nat) := by
    rw [List.getElem?_map, List.getElem?_map, hp] at hu;injection hu with hu;exact hu.symm
   subst hu2
   have htk : l.take (j + 1) = l.take j ++ [p] := by rw [List.take_add_one, hp]; rfl
   have hsn := zjj KD (l.take j) p;rw [<- htk] at hsn
   have hji : (j : Int) < m := by omega
   by_cases h16 : p < 16
   ·rw [if_neg (by omega), List.append_nil] at hsn
    have h16i : ¬ (16 : Int) <= p := by omega
    have hEq := hEj.out;rw [<- hsn] at hEq;obtain ⟨Hp, Hu, Htk, Hsn, HEj2, HEq, Hlv, Hnl⟩ := hd8 hp hu htk hsn hEj2 hEq hlv hnl;clear hnl hlv hEq hEj2 hsn htk hu hp;go_wp2_with fail
    go_roundg (gk - 1)
    case measure => omega
    case rel => exact ⟨j + 1, lv, by omega, by simp, HEq, hbj⟩
   ·have h16i : (16 : Int) <= p := by omega
    obtain ⟨f0, f1, _, f3, _⟩ := hEj2.fn;rw [Hga.out] at f1;obtain ⟨kv, hkv, hkk⟩ := HK.out wr hbj.out;obtain ⟨kA, kc, rfl, hkp⟩ := hkk p hpn
    have hpni : (p : Int) < n := by omega
    by_cases hk1 : KD p = 1
    ·rw [if_pos ⟨by omega, hk1⟩] at hsn
     have hkb : (KD p == 1) = true := by rw [hk1]; rfl
     obtain ⟨sd, sc, hsl, hsc⟩ := hEj2.slot (k := p - 16) (by omega);rw [hsl] at f3
     have hk0 : (p : Int) - 16 = ((p - 16 : Nat) : Int) := by omega
     obtain ⟨k, hk⟩ := mn (p - 16);rw [hk] at hsc hk0
     have hkX : (k : Int) < X.ns := by omega
     have hT1 := (hEj2.permR (hpT _ _ _ _)).blk;have kt1 := bc hT1 1;subst hlv
     have hso : zdW p = 8 * (k : Int) := by unfold zdW; omega
     rw [hso] at hsn
     have hnl2 : (zdi KD (l.take (j + 1))).length = nl + 1 := by rw [hsn, List.length_append, hnl]; rfl
     have hnlj : nl <= j := by
      rw [<- hnl]; unfold zdi; rw [List.length_map];exact Nat.le_trans (List.length_filter_le _ _) (by rw [List.length_take]; omega)
     have hfpl := hEj2.fpb.2.1;have hTl := hT1.lt
     have hsdl : sd.block < wr.heap.size := World.block_lt_of_cell? wr (sd.add k) hsc |> fun hh => by rw [zas] at hh; exact hh
     have hkw : IntKind.i64.wrap (k : Int) = k := by rw [IntKind.wrap_i64]; omega
     obtain ⟨Hp, Hu, Htk, Hsn, HEj2, Hnl, Hkk, HT1⟩ := hd8 hp hu htk hsn hEj2 hnl hkk hT1;obtain ⟨Hsl, Hk, Hso, Hnl2⟩ := hd4 hsl hk hso hnl2;clear hnl2 hso hk hsl hT1 hkk hnl hEj2 hsn htk hu hp;go_upto_region 5 with fail;refine zaf (S := fun W => W.cell? ⟨X.fp, 3, none⟩ = some (.slice (some sd) X.ns sc) /\ W.cell? (sd.add k) = some (.int .i64 (8 * (k : Int))) /\ W.cell? ⟨T, 1, none⟩ = some (.slice A nl c)) #[false, false, false, false, false, false, false, false, false, false, false, false, false, false, true] (by kernel_rfl) ⟨f3, hsc, kt1⟩ (fun hHeld => ?_);refine zaa 0 ?_;refine zaa 1 ?_;refine zaa 2 ?_;refine zaa 3 ?_;refine zaa 4 ?_;refine zaa 5 ?_;refine zaa 6 ?_;refine zaa 7 ?_;refine zaa 8 ?_;refine zaa 9 ?_;refine zaa 10 ?_;refine zag 11 (fun K hK => ?_);go_simp;refine hK.out _ _ ⟨(World.cell?_alloc_lt _ _ ⟨X.fp, 3, none⟩ hfpl).trans f3, (World.cell?_alloc_lt _ _ (sd.add k) (by rw [zas]; exact hsdl)).trans hsc, (World.cell?_alloc_lt _ _ ⟨T, 1, none⟩ hTl).trans kt1⟩ (fun hHeld2 => ?_);clear hK K hHeld;refine lay ?_;refine zag 12 (fun K hK => ?_);refine zaB _ rfl (.tmp 45) (.tmp 55) _ rfl base 3 iI _ 1 8 Tryd.underlying40 hiI iz0 iz1 iz2 rfl (by omega) (.slice A nl c) nl ((zdi KD (l.take j)).map (Value.int .i64)) rfl ((HEj2.out.drew.alloc _).own) (wr.heap.size + 1) (some ⟨wr.heap.size, 0, none⟩) 1 1 [.int .i64 (8 * (k : Int))] rfl (zal.new1 _ _ _) ?c1 ?c2 ?c3 ?c4 ?_
     case c1 => intro u hu; simp at hu; rw [hu]; rfl
     case c2 => simp only [maxLen]; omega
     case c3 => omega
     case c4 => simp; omega
     intro v4 w4 hown4 hg4 hat4;obtain ⟨A4, c4, rfl, _⟩ := zak hown4
     have hEp := (HEj2.out.drew.alloc (.cells #[.int .i64 (8 * (k : Int))] 3)).pushFirst hown4 hg4 (by
      rcases hat4 with e | e
      ·exact .inl e
      ·exact .inr fun b hb => by rw [e] at hb; injection hb with hb; simp at hb; simp; omega)
     have hb4 := (hbj.out.drew.alloc HEj2.out.drew.size (.cells #[.int .i64 (8 * (k : Int))] 3)).grown hg4 (by simp; omega) (fun b e => ((HEj2.out.drew.alloc (.cells #[.int .i64 (8 * (k : Int))] 3)).own.lt b e).1);have hT4 := (hEp.permR (hpT _ _ _ _)).blk;have kx1 := bc hT4 1;have fx1 := Blk.frozen hT4 1;obtain ⟨hEs, hTb⟩ := (hEp.permR (hpT _ _ _ _)).setFirst 1 (.slice A4 (nl + 1) c4);simp only [List.setIfInBounds_toArray, List.set_cons_succ, List.set_cons_zero] at hEs;have hEn := hEs.permR (hpT _ _ _ _).symm;rw [show (zdi KD (l.take j)).map (Value.int .i64) ++ [Value.int .i64 (8 * (k : Int))] = (zdi KD (l.take (j + 1))).map (Value.int .i64) by rw [Hsn.out, List.map_append]; rfl, <- Hnl2.out] at hEn;have hbn := hb4.setCell (p := ⟨T, 1, none⟩) hTb (.slice A4 (nl + 1) c4);obtain ⟨_, _, _, f3', _⟩ := hEp.fn;rw [Hsl.out] at f3';obtain ⟨sd', sc', hsl', hsc'⟩ := hEp.slot (k := k) (by omega);rw [Hsl.out] at hsl';injection hsl' with h1 _ h2;injection h1 with h1;subst h1;subst h2;rw [Hnl2.out] at hEn;refine hK.out _ _ ⟨f3', hsc', kx1⟩ (fun hHeld3 => ?_);clear hK K hHeld2;obtain ⟨HEp, Hb4, HT4, HEs, HEn, Hbn, Hown4, Hg4⟩ := hd8 hEp hb4 hT4 hEs hEn hbn hown4 hg4;have Hat4 := Lib.hid hat4;clear hat4 hg4 hown4 hbn hEn hEs hT4 hb4 hEp;refine lay ?_;refine zaa 13 ?_;refine zao 14 (fun K hK => ?_);go_simp;refine hK.out _ _ ?_;clear hK K;refine lay ?_;refine zai (by kernel_rfl) ?_ _;clear f3' hsc' kx1 fx1 f0 f1 f3 hsc kt1 hHeld3 hkv hcu hkp;go_wp2_with fail
     go_roundg (gk - 1)
     case measure => omega
     case rel => exact ⟨j + 1, .slice A4 (nl + 1) c4, by omega, by simp, by rw [Hnl2.out]; exact HEn, Lib.hid Hbn.out⟩
    ·rw [if_neg (fun hh => hk1 hh.2), List.append_nil] at hsn
     have hkb : (KD p == 1) = false := by simpa using hk1
     have hEq := hEj.out;rw [<- hsn] at hEq;obtain ⟨Hp, Hu, Htk, Hsn, HEj2, HEq, Hlv, Hnl⟩ := hd8 hp hu htk hsn hEj2 hEq hlv hnl;obtain ⟨Hkk, Hf3⟩ := hd2 hkk f3;clear f3 hkk hnl hlv hEq hEj2 hsn htk hu hp;go_wp2_with fail
     go_roundg (gk - 1)
     case measure => omega
     case rel => exact ⟨j + 1, lv, by omega, by simp, HEq, hbj⟩
  ·obtain rfl : j = m := by omega
   rw [List.take_of_length_le (by rw [Hm.out]; exact Nat.le_refl _)] at hEj2 hnl
   have hji : ¬ (j : Int) < j := by omega
   subst hlv;have hT1 := (hEj2.permR (hpT _ _ _ _)).blk;have kt0 := bc hT1 0;have kt1 := bc hT1 1;have hEf := hEj2.drew;rw [<- hnl] at hEf;obtain ⟨v, xs, e4, vo, _, vk⟩ := hEf.site_;obtain ⟨VA, vc, rfl, _⟩ := zak vo
   replace e4 : wr.cell? ⟨X.ep, 4, none⟩ = some (.slice VA E.sites.length vc) := e4
   obtain ⟨f0, _⟩ := hEj2.fn;have hfpl := hEj2.fpb.2.1;have hepl := hEj2.fpb.2.2.2;have hTl := hT1.lt
   have hsE : E.sites.length <= E.sz := by unfold EmS.sz; omega
   obtain ⟨HEj2, HEf, Hvo, Hvk, Hnl, HT1⟩ := hd6 hEj2 hEf vo vk hnl hT1;clear hT1 hnl vk vo hEf hEj2;go_upto_region 7 with fail;refine zaf (S := fun W => W.cell? ⟨X.fp, 0, none⟩ = some (.pointer (some ⟨X.ep, 0, none⟩)) /\ W.cell? ⟨X.ep, 4, none⟩ = some (.slice VA E.sites.length vc) /\ W.cell? ⟨T, 0, none⟩ = some (.int .i64 (E.code.length : Nat)) /\ W.cell? ⟨T, 1, none⟩ = some (.slice A nl c)) #[false, false, false, false, false, false, false, false, false, false, false, false, false, false, false, false, false, false, true] (by kernel_rfl) ⟨f0, e4, kt0, kt1⟩ (fun hHeld => ?_);refine zaa 0 ?_;refine zaa 1 ?_;refine zaa 2 ?_;refine zaa 3 ?_;refine zaa 4 ?_;refine zaa 5 ?_;refine zaa 6 ?_;refine zaa 7 ?_;refine zaa 8 ?_;refine zaa 9 ?_;refine zaa 10 ?_;refine zaa 11 ?_;refine zaa 12 ?_;refine zag 13 (fun K hK => ?_);go_simp;refine hK.out _ _ ⟨(World.cell?_alloc_lt _ _ ⟨X.fp, 0, none⟩ hfpl).trans f0, (World.cell?_alloc_lt _ _ ⟨X.ep, 4, none⟩ hepl).trans e4, (World.cell?_alloc_lt _ _ ⟨T, 0, none⟩ hTl).trans kt0, (World.cell?_alloc_lt _ _ ⟨T, 1, none⟩ hTl).trans kt1⟩ (fun hHeld2 => ?_);clear hK K hHeld;refine lay ?_;refine zag 14 (fun K hK => ?_);refine zaB _ rfl (.tmp 70) (.tmp 72) _ rfl base 112 iS _ 2 32 Tryd.underlying29 hiS sz0 sz1 sz2 rfl (by omega) (.slice VA E.sites.length vc) E.sites.length xs rfl (Hvo.out.alloc _) (wr.heap.size + 1) (some ⟨wr.heap.size, 0, none⟩) 1 1 [.int .i64 (E.code.length : Nat), .slice A nl c] rfl (zal.newS _ rfl _ _ _ _ _ rfl rfl) ?c1 ?c2 ?c3 ?c4 ?_
   case c1 => intro u hu; simp at hu; rcases hu with rfl | rfl <;> rfl
   case c2 => simp only [maxLen]; omega
   case c3 => omega
   case c4 => simp; omega
   intro v4 w4 hown4 hg4 hat4;obtain ⟨A4, c4, rfl, _⟩ := zak hown4;have hg4' := (World.grownBy_alloc wr.drew (.cells #[.int .i64 (E.code.length : Nat), .slice A nl c] 112) _).trans hg4;obtain ⟨zc', zf, zb, zn⟩ := Hvk.out w4 hg4';have hown5 := hown4;rw [<- Hnl.out] at hown5
   obtain ⟨hE4, hb4⟩ := zn A4 c4 hown5 (by
    rcases hat4 with e | e
    ·exact .inl e
    ·exact .inr fun b hb => by rw [e] at hb; injection hb with hb; simp at hb; simp; omega)
   have y0 := (zc' X.fp (.inl rfl) 0).trans f0;have ye := (zc' X.ep (.inr rfl) 4).trans e4;have hT5 := zb T _ _ (List.mem_cons_of_mem _ List.mem_cons_self);have ku0 := bc hT5 0;have ku1 := bc hT5 1;rw [Hnl.out] at ku1;have hfin := (hbj.out.drew).trans hb4;have hE9 := hE4.drop.drop;rw [HR.out] at hE9;refine hK.out _ _ ⟨y0, ye, ku0, ku1⟩ (fun hHeld3 => ?_);clear hK K hHeld2;obtain ⟨HE4, Hb4, HT5, Hfin, HE9, Hown4, Hown5, Hg4⟩ := hd8 hE4 hb4 hT5 hfin hE9 hown4 hown5 hg4;obtain ⟨Hg4', Hat4, Hzc', Hzb, Hzn⟩ := hd5 hg4' hat4 zc' zb zn;clear zn zb zc' hat4 hg4' hg4 hown5 hown4 hE9 hfin hT5 hb4 hE4;refine lay ?_;refine zaa 15 ?_;refine zaa 16 ?_;refine zaa 17 ?_;refine zao 18 (fun K hK => ?_);go_simp;refine hK.out _ _ ?_;clear hK K;refine lay ?_;refine zai (by kernel_rfl) ?_ _;clear y0 ye zf ku0 ku1 f0 e4 kt0 kt1 hHeld3;go_wp2_with fail;go_end0;exact ⟨rfl, HE9.out, Hfin.out⟩
end
end Go.Proofs.YtnfjjliiajaijaaDoor
