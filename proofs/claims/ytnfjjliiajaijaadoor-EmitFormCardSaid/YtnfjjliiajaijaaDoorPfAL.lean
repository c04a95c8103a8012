/- Part of the proof, named by its texts: EmA EmB LvP EmC. No condition of its own. -/
import Derived.Test.YtnfjjliiajaijaaDoorPfAA
import Derived.Test.YtnfjjliiajaijaaDoorPfAK
import Derived.Test.YtnfjjliiajaijaaDoorPfAG
import Derived.Test.YtnfjjliiajaijaaDoorPfAE
set_option linter.unusedVariables false
set_option linter.unusedSimpArgs false
set_option maxRecDepth 100000
set_option maxHeartbeats 16000000
namespace Go.Proofs.YtnfjjliiajaijaaDoor
open Go.RowKit
section
variable {w : World} {base : Nat} {X : EmX} {E : EmS} {rest : List It}
theorem zlg {gb go i : Nat} {g : zad} {x : zam} (h : zaz w base X E rest) (hga : X.ga = ⟨gb, (go : Nat), none⟩) (hG : GrF w base gb go g) (hx : g.nodes[i]? = some x) (hop : x.op = 10) (t : Nat) (ht : x.next = (t : Int)) (htl : t < 1048576)
  (hns : X.ns <= 1048560) (hi : i < 1048576) (hsz : E.sz + 9 <= 1099511627776) :
  Calls Tryd.prog 40 #[.pointer (some ⟨X.fp, 0, none⟩), .int .i64 (i : Nat)] w fun e w' => zbK base X rest w (.tuple #[]) ((E.mark i).jump 7 0 t) e w' := by
 obtain ⟨R, hR⟩ := mn ((E.mark i).jump 7 0 t);rw [hR];obtain ⟨f0, f1, _⟩ := h.fn;rw [hga] at f1;obtain ⟨_, pv, kv, iv, nv, hgc, _, _, _, hN⟩ := hG;have c6 := hgc 6 nv rfl;obtain ⟨NA, nc, rfl, _, _⟩ := hN.slice;obtain ⟨nad, cs, hna, _, _, _, ⟨av, hcs, hav⟩, z0, nj⟩ := zaE.at_ hN hx;subst hna hcs;obtain ⟨AA, aac, hava, _, _, _⟩ := hav.slice;subst hava;have n0 : w.cell? (nad.add (i * 12)) = some (.int .u8 x.op) := z0 _ rfl;have n1 := nj 1 _ (by omega) rfl;have n2 := nj 2 _ (by omega) rfl;have n3 := nj 3 _ (by omega) rfl;have n4 := nj 4 _ (by omega) rfl;have n5 := nj 5 _ (by omega) rfl;have n6 := nj 6 _ (by omega) rfl;have n7 := nj 7 _ (by omega) rfl;have n8 := nj 8 _ (by omega) rfl;have n9 := nj 9 _ (by omega) rfl;have n10 := nj 10 _ (by omega) rfl;have n11 := nj 11 _ (by omega) rfl;clear nj z0;obtain ⟨nn, hnn⟩ := mn (g.nodes.length)
 have hin : (i : Int) < nn := by
  have := (List.getElem?_eq_some_iff.1 hx).1
  omega
 rw [hnn] at c6;have hbx := h.box 55 (zae x (.slice AA x.args.length aac)).toArray;have hb := (Below.refl base w).alloc h.size (.cells (zae x (.slice AA x.args.length aac)).toArray 55);obtain ⟨N, hNN⟩ := nm (w.heap.size);obtain ⟨w1, hw1⟩ := nm (w.alloc (.cells (zae x (.slice AA x.args.length aac)).toArray 55));rw [<- hw1, <- hNN] at hbx;rw [<- hw1] at hb;have hw1' : w.alloc (.cells #[.int .u8 x.op, .int .u8 x.byo, .int .i64 x.d, .int .i64 x.e, .int .i64 x.a, .int .i64 x.b, .int .i64 x.f, .int .i64 x.cell, .int .u64 x.imm, .slice AA x.args.length aac, .int .i64 x.next, .int .i64 x.els] 55) = w1 := hw1.symm;have hmk := zba hbx i (by omega) (by omega);obtain ⟨H, Hga, Hgc, HN, Hx, Hav, Hnn, Hbx⟩ := hd8 h hga hgc hN hx hav hnn hbx;obtain ⟨Hb, HNN, Hw1, HW1E, Hmk, HR, Hop, Ht⟩ := hd8 hb hNN hw1 hw1' hmk hR hop ht;clear ht hop hR hmk hw1' hw1 hNN hb hbx hnn hav hx hN hgc hga h;go_enter Tryd.func40, Tryd.ntmps40;go_upto_region 1 with fail;rw [HW1E.out, <- HNN.out];clear n0 n1 n2 n3 n4 n5 n6 n7 n8 n9 n10 n11 c6 f0 f1;go_wp2_with fail;refine Hmk.out.mono ?_;rintro e w2 ⟨rfl, hE2, hb12⟩;have hb2 := Hb.out.trans hb12;have hB2 := hE2.blk;have m0 := zan hB2 rfl 0 (u := .int .u8 10) (by show some (Value.int .u8 x.op) = _; rw [Hop.out]);have m10 := zan hB2 rfl 10 (u := .int .i64 (t : Nat)) (by show some (Value.int .i64 x.next) = _; rw [Ht.out]);have hj := zdj hE2 7 0 t (by omega) (by omega) (by rw [zaJ]; omega);obtain ⟨HE2, Hb12, Hb2, HB2, Hj⟩ := hd5 hE2 hb12 hb2 hB2 hj;clear hj hB2 hb2 hb12 hE2;go_wp2_with fail;refine Hj.out.mono ?_;rintro e w3 ⟨rfl, hE3, hb23⟩;have hfin := Hb2.out.trans hb23;have hE4 := hE3.drop;rw [HR.out] at hE4;obtain ⟨HE3, Hb23, Hfin, HE4⟩ := hd4 hE3 hb23 hfin hE4;clear hE4 hfin hb23 hE3;go_wp2_with fail;go_end0;exact ⟨rfl, HE4.out, Hfin.out⟩
theorem zjc {gb go i : Nat} {g : zad} {x : zam} (h : zaz w base X E rest) (hga : X.ga = ⟨gb, (go : Nat), none⟩) (hG : GrF w base gb go g) (hx : g.nodes[i]? = some x) (hop : x.op = 1) (d : Nat) (hd : x.d = (d : Int)) (hdn : d < 16 + X.ns) (himm : U64 x.imm)
  (hns : X.ns <= 1048560) (hi : i < 1048576) (hsz : E.sz + 9 <= 1099511627776) :
  Calls Tryd.prog 40 #[.pointer (some ⟨X.fp, 0, none⟩), .int .i64 (i : Nat)] w fun e w' => zbK base X rest w (.tuple #[]) (((E.mark i).number (zax d 13) x.imm).done d (zax d 13)) e w' := by
 obtain ⟨R, hR⟩ := mn (((E.mark i).number (zax d 13) x.imm).done d (zax d 13));rw [hR];obtain ⟨f0, f1, _⟩ := h.fn;rw [hga] at f1;obtain ⟨_, pv, kv, iv, nv, hgc, _, _, _, hN⟩ := hG;have c6 := hgc 6 nv rfl;obtain ⟨NA, nc, rfl, _, _⟩ := hN.slice;obtain ⟨nad, cs, hna, _, _, _, ⟨av, hcs, hav⟩, z0, nj⟩ := zaE.at_ hN hx;subst hna hcs;obtain ⟨AA, aac, hava, _, _, _⟩ := hav.slice;subst hava;have n0 : w.cell? (nad.add (i * 12)) = some (.int .u8 x.op) := z0 _ rfl;have n1 := nj 1 _ (by omega) rfl;have n2 := nj 2 _ (by omega) rfl;have n3 := nj 3 _ (by omega) rfl;have n4 := nj 4 _ (by omega) rfl;have n5 := nj 5 _ (by omega) rfl;have n6 := nj 6 _ (by omega) rfl;have n7 := nj 7 _ (by omega) rfl;have n8 := nj 8 _ (by omega) rfl;have n9 := nj 9 _ (by omega) rfl;have n10 := nj 10 _ (by omega) rfl;have n11 := nj 11 _ (by omega) rfl;clear nj z0;obtain ⟨nn, hnn⟩ := mn (g.nodes.length)
 have hin : (i : Int) < nn := by
  have := (List.getElem?_eq_some_iff.1 hx).1
  omega
 rw [hnn] at c6;have hbx := h.box 55 (zae x (.slice AA x.args.length aac)).toArray;have hb := (Below.refl base w).alloc h.size (.cells (zae x (.slice AA x.args.length aac)).toArray 55);obtain ⟨N, hNN⟩ := nm (w.heap.size);obtain ⟨w1, hw1⟩ := nm (w.alloc (.cells (zae x (.slice AA x.args.length aac)).toArray 55));rw [<- hw1, <- hNN] at hbx;rw [<- hw1] at hb;have hw1' : w.alloc (.cells #[.int .u8 x.op, .int .u8 x.byo, .int .i64 x.d, .int .i64 x.e, .int .i64 x.a, .int .i64 x.b, .int .i64 x.f, .int .i64 x.cell, .int .u64 x.imm, .slice AA x.args.length aac, .int .i64 x.next, .int .i64 x.els] 55) = w1 := hw1.symm;have hmk := zba hbx i (by omega) (by omega);obtain ⟨H, Hga, Hgc, HN, Hx, Hav, Hnn, Hbx⟩ := hd8 h hga hgc hN hx hav hnn hbx;obtain ⟨Hb, HNN, Hw1, HW1E, Hmk, HR, Hop, Hd⟩ := hd8 hb hNN hw1 hw1' hmk hR hop hd;clear hd hop hR hmk hw1' hw1 hNN hb hbx hnn hav hx hN hgc hga h;go_enter Tryd.func40, Tryd.ntmps40;go_upto_region 1 with fail;rw [HW1E.out, <- HNN.out];clear n0 n1 n2 n3 n4 n5 n6 n7 n8 n9 n10 n11 c6 f0 f1;go_wp2_with fail;refine Hmk.out.mono ?_;rintro e w2 ⟨rfl, hE2, hb12⟩;have hb2 := Hb.out.trans hb12;have hB2 := hE2.blk;have m0 := zan hB2 rfl 0 (u := .int .u8 1) (by show some (Value.int .u8 x.op) = _; rw [Hop.out]);have m2 := zan hB2 rfl 2 (u := .int .i64 (d : Nat)) (by show some (Value.int .i64 x.d) = _; rw [Hd.out]);have m8 := zan hB2 rfl 8 (u := .int .u64 x.imm) rfl;obtain ⟨rd, hrdd⟩ := mn (zax d 13);have hwr := zcP X.fp d w2;rw [hrdd] at hwr;obtain ⟨f0, _⟩ := hE2.fn;have hnum := zer hE2.drew rd x.imm himm (by rw [zaJ]; omega);obtain ⟨HE2, Hb12, Hb2, HB2, Hwr, Hnum, Hrdd, Himm⟩ := hd8 hE2 hb12 hb2 hB2 hwr hnum hrdd himm;clear himm hrdd hnum hwr hB2 hb2 hb12 hE2;go_wp2_with fail;refine Hwr.out.mono ?_;rintro e w2' ⟨rfl, rfl⟩;go_upto_region 6 with fail;refine zaf (S := fun W => W.cell? ⟨X.fp, 0, none⟩ = some (.pointer (some ⟨X.ep, 0, none⟩)) /\ W.cell? ⟨N, 8, none⟩ = some (.int .u64 x.imm)) #[false, false, false, false, false, false, false, true] (by kernel_rfl) ⟨f0, m8⟩ (fun hHeld => ?_);refine zaa 0 ?_;refine zaa 1 ?_;refine zaa 2 ?_;refine zaa 3 ?_;refine zaa 4 ?_;refine zaa 5 ?_;refine zaa 6 ?_;refine zao 7 (fun K hK => ?_);go_simp;refine Hnum.out.mono ?_;rintro e w4 ⟨rfl, hE5, hb24⟩;refine hK.out _ _ ?_;clear hK K;refine lay ?_;refine zai (by kernel_rfl) ?_ _;have hb4 := (Hb2.out.drew).trans hb24;have hdn2 := zdp hE5 d rd hdn (by have := zcr (E.mark i) rd x.imm; rw [zaJ] at this; omega) (by omega);have q2 := zan hE5.blk rfl 2 (u := .int .i64 (d : Nat)) (by show some (Value.int .i64 x.d) = _; rw [Hd.out]);clear f0 m0 m2 m8 hHeld;obtain ⟨HE5, Hb24, Hb4, Hdn2⟩ := hd4 hE5 hb24 hb4 hdn2;clear hdn2 hb4 hb24 hE5;go_wp2_with fail;refine Hdn2.out.mono ?_;rintro e w3 ⟨rfl, hE3, hb23⟩;have hfin := Hb4.out.trans hb23;rw [<- Hrdd.out] at hE3;have hE4 := hE3.drop;rw [HR.out] at hE4;obtain ⟨HE3, Hb23, Hfin, HE4⟩ := hd4 hE3 hb23 hfin hE4;clear hE4 hfin hb23 hE3;go_wp2_with fail;go_end0;exact ⟨rfl, HE4.out, Hfin.out⟩
theorem zlh {gb go i : Nat} {g : zad} {x : zam} (h : zaz w base X E rest) (hga : X.ga = ⟨gb, (go : Nat), none⟩) (hG : GrF w base gb go g) (hx : g.nodes[i]? = some x) (hop : x.op = 4) (d k : Nat) (hd : x.d = (d : Int)) (hkc : x.cell = (k : Int)) (hdn : d < 16 + X.ns) (hkn : k < X.nc) (hnc : X.nc <= 1048576)
  (hns : X.ns <= 1048560) (hi : i < 1048576) (hsz : E.sz + 9 <= 1099511627776) :
  Calls Tryd.prog 40 #[.pointer (some ⟨X.fp, 0, none⟩), .int .i64 (i : Nat)] w fun e w' => zbK base X rest w (.tuple #[]) (((E.mark i).put [⟨4, zax d 13, 14, 0, 8 * ((X.ns + k : Nat) : Int)⟩]).done d (zax d 13)) e w' := by
 obtain ⟨R, hR⟩ := mn (((E.mark i).put [⟨4, zax d 13, 14, 0, 8 * ((X.ns + k : Nat) : Int)⟩]).done d (zax d 13));rw [hR];obtain ⟨f0, f1, _⟩ := h.fn;rw [hga] at f1;obtain ⟨_, pv, kv, iv, nv, hgc, _, _, _, hN⟩ := hG;have c6 := hgc 6 nv rfl;obtain ⟨NA, nc, rfl, _, _⟩ := hN.slice;obtain ⟨nad, cs, hna, _, _, _, ⟨av, hcs, hav⟩, z0, nj⟩ := zaE.at_ hN hx;subst hna hcs;obtain ⟨AA, aac, hava, _, _, _⟩ := hav.slice;subst hava;have n0 : w.cell? (nad.add (i * 12)) = some (.int .u8 x.op) := z0 _ rfl;have n1 := nj 1 _ (by omega) rfl;have n2 := nj 2 _ (by omega) rfl;have n3 := nj 3 _ (by omega) rfl;have n4 := nj 4 _ (by omega) rfl;have n5 := nj 5 _ (by omega) rfl;have n6 := nj 6 _ (by omega) rfl;have n7 := nj 7 _ (by omega) rfl;have n8 := nj 8 _ (by omega) rfl;have n9 := nj 9 _ (by omega) rfl;have n10 := nj 10 _ (by omega) rfl;have n11 := nj 11 _ (by omega) rfl;clear nj z0;obtain ⟨nn, hnn⟩ := mn (g.nodes.length)
 have hin : (i : Int) < nn := by
  have := (List.getElem?_eq_some_iff.1 hx).1
  omega
 rw [hnn] at c6;have hbx := h.box 55 (zae x (.slice AA x.args.length aac)).toArray;have hb := (Below.refl base w).alloc h.size (.cells (zae x (.slice AA x.args.length aac)).toArray 55);obtain ⟨N, hNN⟩ := nm (w.heap.size);obtain ⟨w1, hw1⟩ := nm (w.alloc (.cells (zae x (.slice AA x.args.length aac)).toArray 55));rw [<- hw1, <- hNN] at hbx;rw [<- hw1] at hb;have hw1' : w.alloc (.cells #[.int .u8 x.op, .int .u8 x.byo, .int .i64 x.d, .int .i64 x.e, .int .i64 x.a, .int .i64 x.b, .int .i64 x.f, .int .i64 x.cell, .int .u64 x.imm, .slice AA x.args.length aac, .int .i64 x.next, .int .i64 x.els] 55) = w1 := hw1.symm;have hmk := zba hbx i (by omega) (by omega);obtain ⟨H, Hga, Hgc, HN, Hx, Hav, Hnn, Hbx⟩ := hd8 h hga hgc hN hx hav hnn hbx;obtain ⟨Hb, HNN, Hw1, HW1E, Hmk, HR, Hop, Hd⟩ := hd8 hb hNN hw1 hw1' hmk hR hop hd;have Hkc := Lib.hid hkc;clear hkc hd hop hR hmk hw1' hw1 hNN hb hbx hnn hav hx hN hgc hga h;go_enter Tryd.func40, Tryd.ntmps40;go_upto_region 1 with fail;rw [HW1E.out, <- HNN.out];clear n0 n1 n2 n3 n4 n5 n6 n7 n8 n9 n10 n11 c6 f0 f1;go_wp2_with fail;refine Hmk.out.mono ?_;rintro e w2 ⟨rfl, hE2, hb12⟩;have hb2 := Hb.out.trans hb12;have hB2 := hE2.blk;have m0 := zan hB2 rfl 0 (u := .int .u8 4) (by show some (Value.int .u8 x.op) = _; rw [Hop.out]);have m2 := zan hB2 rfl 2 (u := .int .i64 (d : Nat)) (by show some (Value.int .i64 x.d) = _; rw [Hd.out]);have m7 := zan hB2 rfl 7 (u := .int .i64 (k : Nat)) (by show some (Value.int .i64 x.cell) = _; rw [Hkc.out]);obtain ⟨rd, hrdd⟩ := mn (zax d 13);have hwr := zcP X.fp d w2;rw [hrdd] at hwr;obtain ⟨f0, _, _, _, f4, _⟩ := hE2.fn;obtain ⟨sd, sc, hsl, hsc⟩ := hE2.cellOff hkn;rw [hsl] at f4;obtain ⟨q, hq⟩ := mn (X.ns + k);have hR2 := HR.out;rw [hq, hrdd] at hR2;rw [hq] at hsc
 have hql : q <= 2097152 := by omega
 have hkw8 : IntKind.i32.wrap (8 * (q : Int)) = 8 * q := by rw [IntKind.wrap_i32]; omega
 have hkX : (k : Int) < X.nc := by omega
 have hfpl := hE2.fpb.2.1;have hNl := hB2.lt
 have hsdl : sd.block < w2.heap.size := World.block_lt_of_cell? w2 (sd.add k) hsc |> fun hh => by rw [zas] at hh; exact hh
 have hput := za6 ((hE2.drew).alloc (.cells #[.int .u8 4, .int .i64 (rd : Nat), .int .i64 14, .int .i64 0, .int .i32 (8 * (q : Int))] 71)) (ms := [⟨4, rd, 14, 0, 8 * (q : Int)⟩]) (c := 1) (zal.newS _ rfl _ _ _ _ _ rfl rfl) rfl (by rw [zaJ]; omega);have hb3 := (hb2.drew).alloc hE2.drew.size (.cells #[.int .u8 4, .int .i64 (rd : Nat), .int .i64 14, .int .i64 0, .int .i32 (8 * (q : Int))] 71);obtain ⟨HE2, Hb12, Hb2, HB2, Hwr, Hrdd, Hsl, Hq⟩ := hd8 hE2 hb12 hb2 hB2 hwr hrdd hsl hq;obtain ⟨HR2, Hput, Hb3⟩ := hd3 hR2 hput hb3;clear hb3 hput hR2 hq hsl hrdd hwr hB2 hb2 hb12 hE2;go_wp2_with fail;refine Hwr.out.mono ?_;rintro e w2' ⟨rfl, rfl⟩;go_upto_region 12 with fail;refine zaf (S := fun W => W.cell? ⟨X.fp, 0, none⟩ = some (.pointer (some ⟨X.ep, 0, none⟩)) /\ W.cell? ⟨X.fp, 4, none⟩ = some (.slice (some sd) X.nc sc) /\ W.cell? (sd.add k) = some (.int .i64 (8 * (q : Int))) /\ W.cell? ⟨N, 7, none⟩ = some (.int .i64 (k : Nat))) #[false, false, false, false, false, false, false, false, false, false, false, false, false, false, false, false, false, true] (by kernel_rfl) ⟨f0, f4, hsc, m7⟩ (fun hHeld => ?_);refine zaa 0 ?_;refine zaa 1 ?_;refine zaa 2 ?_;refine zaa 3 ?_;refine zaa 4 ?_;refine zaa 5 ?_;refine zaa 6 ?_;refine zaa 7 ?_;refine zaa 8 ?_;refine zaa 9 ?_;refine zaa 10 ?_;refine zaa 11 ?_;refine zaa 12 ?_;refine zaa 13 ?_;refine zaa 14 ?_;refine zaa 15 ?_;refine zag 16 (fun K hK => ?_);go_simp;refine hK.out _ _ ⟨(World.cell?_alloc_lt _ _ ⟨X.fp, 0, none⟩ hfpl).trans f0, (World.cell?_alloc_lt _ _ ⟨X.fp, 4, none⟩ hfpl).trans f4, (World.cell?_alloc_lt _ _ (sd.add k) (by rw [zas]; exact hsdl)).trans hsc, (World.cell?_alloc_lt _ _ ⟨N, 7, none⟩ hNl).trans m7⟩ (fun hHeld2 => ?_);clear hK K hHeld;refine lay ?_;refine zao 17 (fun K hK => ?_);go_simp;refine Hput.out.mono ?_;rintro e w4 ⟨rfl, hE5, hb24⟩;refine hK.out _ _ ?_;clear hK K;refine lay ?_;refine zai (by kernel_rfl) ?_ _;have hb4 := Hb3.out.trans hb24;have hdn2 := zdp hE5 d rd hdn (by rw [zbe, zaJ]; simp only [List.length_singleton]; omega) (by omega);have q2 := zan hE5.blk rfl 2 (u := .int .i64 (d : Nat)) (by show some (Value.int .i64 x.d) = _; rw [Hd.out]);clear f0 f4 hsc m0 m2 m7 hHeld2;obtain ⟨HE5, Hb24, Hb4, Hdn2⟩ := hd4 hE5 hb24 hb4 hdn2;clear hdn2 hb4 hb24 hE5;go_wp2_with fail;refine Hdn2.out.mono ?_;rintro e w3 ⟨rfl, hE3, hb23⟩;have hfin := Hb4.out.trans hb23;have hE4 := hE3.drop;rw [HR2.out] at hE4;obtain ⟨HE3, Hb23, Hfin, HE4⟩ := hd4 hE3 hb23 hfin hE4;clear hE4 hfin hb23 hE3;go_wp2_with fail;go_end0;exact ⟨rfl, HE4.out, Hfin.out⟩
theorem zkl {gb go i : Nat} {g : zad} {x : zam} (h : zaz w base X E rest) (hga : X.ga = ⟨gb, (go : Nat), none⟩) (hG : GrF w base gb go g) (hx : g.nodes[i]? = some x) (hop : x.op = 6) (d k : Nat) (hd : x.d = (d : Int)) (hkc : x.cell = (k : Int)) (hdn : d < 16 + X.ns) (hkn : k < X.nc) (hnc : X.nc <= 1048576)
  (hns : X.ns <= 1048560) (hi : i < 1048576) (hsz : E.sz + 9 <= 1099511627776) :
  Calls Tryd.prog 40 #[.pointer (some ⟨X.fp, 0, none⟩), .int .i64 (i : Nat)] w fun e w' => zbK base X rest w (.tuple #[]) (((E.mark i).put [⟨6, zax d 13, 14, 0, 8 * ((X.ns + k : Nat) : Int)⟩]).done d (zax d 13)) e w' := by
 obtain ⟨R, hR⟩ := mn (((E.mark i).put [⟨6, zax d 13, 14, 0, 8 * ((X.ns + k : Nat) : Int)⟩]).done d (zax d 13));rw [hR];obtain ⟨f0, f1, _⟩ := h.fn;rw [hga] at f1;obtain ⟨_, pv, kv, iv, nv, hgc, _, _, _, hN⟩ := hG;have c6 := hgc 6 nv rfl;obtain ⟨NA, nc, rfl, _, _⟩ := hN.slice;obtain ⟨nad, cs, hna, _, _, _, ⟨av, hcs, hav⟩, z0, nj⟩ := zaE.at_ hN hx;subst hna hcs;obtain ⟨AA, aac, hava, _, _, _⟩ := hav.slice;subst hava;have n0 : w.cell? (nad.add (i * 12)) = some (.int .u8 x.op) := z0 _ rfl;have n1 := nj 1 _ (by omega) rfl;have n2 := nj 2 _ (by omega) rfl;have n3 := nj 3 _ (by omega) rfl;have n4 := nj 4 _ (by omega) rfl;have n5 := nj 5 _ (by omega) rfl;have n6 := nj 6 _ (by omega) rfl;have n7 := nj 7 _ (by omega) rfl;have n8 := nj 8 _ (by omega) rfl;have n9 := nj 9 _ (by omega) rfl;have n10 := nj 10 _ (by omega) rfl;have n11 := nj 11 _ (by omega) rfl;clear nj z0;obtain ⟨nn, hnn⟩ := mn (g.nodes.length)
 have hin : (i : Int) < nn := by
  have := (List.getElem?_eq_some_iff.1 hx).1
  omega
 rw [hnn] at c6;have hbx := h.box 55 (zae x (.slice AA x.args.length aac)).toArray;have hb := (Below.refl base w).alloc h.size (.cells (zae x (.slice AA x.args.length aac)).toArray 55);obtain ⟨N, hNN⟩ := nm (w.heap.size);obtain ⟨w1, hw1⟩ := nm (w.alloc (.cells (zae x (.slice AA x.args.length aac)).toArray 55));rw [<- hw1, <- hNN] at hbx;rw [<- hw1] at hb;have hw1' : w.alloc (.cells #[.int .u8 x.op, .int .u8 x.byo, .int .i64 x.d, .int .i64 x.e, .int .i64 x.a, .int .i64 x.b, .int .i64 x.f, .int .i64 x.cell, .int .u64 x.imm, .slice AA x.args.length aac, .int .i64 x.next, .int .i64 x.els] 55) = w1 := hw1.symm;have hmk := zba hbx i (by omega) (by omega);obtain ⟨H, Hga, Hgc, HN, Hx, Hav, Hnn, Hbx⟩ := hd8 h hga hgc hN hx hav hnn hbx;obtain ⟨Hb, HNN, Hw1, HW1E, Hmk, HR, Hop, Hd⟩ := hd8 hb hNN hw1 hw1' hmk hR hop hd;have Hkc := Lib.hid hkc;clear hkc hd hop hR hmk hw1' hw1 hNN hb hbx hnn hav hx hN hgc hga h;go_enter Tryd.func40, Tryd.ntmps40;go_upto_region 1 with fail;rw [HW1E.out, <- HNN.out];clear n0 n1 n2 n3 n4 n5 n6 n7 n8 n9 n10 n11 c6 f0 f1;go_wp2_with fail;refine Hmk.out.mono ?_;rintro e w2 ⟨rfl, hE2, hb12⟩;have hb2 := Hb.out.trans hb12;have hB2 := hE2.blk;have m0 := zan hB2 rfl 0 (u := .int .u8 6) (by show some (Value.int .u8 x.op) = _; rw [Hop.out]);have m2 := zan hB2 rfl 2 (u := .int .i64 (d : Nat)) (by show some (Value.int .i64 x.d) = _; rw [Hd.out]);have m7 := zan hB2 rfl 7 (u := .int .i64 (k : Nat)) (by show some (Value.int .i64 x.cell) = _; rw [Hkc.out]);obtain ⟨rd, hrdd⟩ := mn (zax d 13);have hwr := zcP X.fp d w2;rw [hrdd] at hwr;obtain ⟨f0, _, _, _, f4, _⟩ := hE2.fn;obtain ⟨sd, sc, hsl, hsc⟩ := hE2.cellOff hkn;rw [hsl] at f4;obtain ⟨q, hq⟩ := mn (X.ns + k);have hR2 := HR.out;rw [hq, hrdd] at hR2;rw [hq] at hsc
 have hql : q <= 2097152 := by omega
 have hkw8 : IntKind.i32.wrap (8 * (q : Int)) = 8 * q := by rw [IntKind.wrap_i32]; omega
 have hkX : (k : Int) < X.nc := by omega
 have hfpl := hE2.fpb.2.1;have hNl := hB2.lt
 have hsdl : sd.block < w2.heap.size := World.block_lt_of_cell? w2 (sd.add k) hsc |> fun hh => by rw [zas] at hh; exact hh
 have hput := za6 ((hE2.drew).alloc (.cells #[.int .u8 6, .int .i64 (rd : Nat), .int .i64 14, .int .i64 0, .int .i32 (8 * (q : Int))] 71)) (ms := [⟨6, rd, 14, 0, 8 * (q : Int)⟩]) (c := 1) (zal.newS _ rfl _ _ _ _ _ rfl rfl) rfl (by rw [zaJ]; omega);have hb3 := (hb2.drew).alloc hE2.drew.size (.cells #[.int .u8 6, .int .i64 (rd : Nat), .int .i64 14, .int .i64 0, .int .i32 (8 * (q : Int))] 71);obtain ⟨HE2, Hb12, Hb2, HB2, Hwr, Hrdd, Hsl, Hq⟩ := hd8 hE2 hb12 hb2 hB2 hwr hrdd hsl hq;obtain ⟨HR2, Hput, Hb3⟩ := hd3 hR2 hput hb3;clear hb3 hput hR2 hq hsl hrdd hwr hB2 hb2 hb12 hE2;go_wp2_with fail;refine Hwr.out.mono ?_;rintro e w2' ⟨rfl, rfl⟩;go_upto_region 18 with fail;refine zaf (S := fun W => W.cell? ⟨X.fp, 0, none⟩ = some (.pointer (some ⟨X.ep, 0, none⟩)) /\ W.cell? ⟨X.fp, 4, none⟩ = some (.slice (some sd) X.nc sc) /\ W.cell? (sd.add k) = some (.int .i64 (8 * (q : Int))) /\ W.cell? ⟨N, 7, none⟩ = some (.int .i64 (k : Nat))) #[false, false, false, false, false, false, false, false, false, false, false, false, false, false, false, false, false, true] (by kernel_rfl) ⟨f0, f4, hsc, m7⟩ (fun hHeld => ?_);refine zaa 0 ?_;refine zaa 1 ?_;refine zaa 2 ?_;refine zaa 3 ?_;refine zaa 4 ?_;refine zaa 5 ?_;refine zaa 6 ?_;refine zaa 7 ?_;refine zaa 8 ?_;refine zaa 9 ?_;refine zaa 10 ?_;refine zaa 11 ?_;refine zaa 12 ?_;refine zaa 13 ?_;refine zaa 14 ?_;refine zaa 15 ?_;refine zag 16 (fun K hK => ?_);go_simp;refine hK.out _ _ ⟨(World.cell?_alloc_lt _ _ ⟨X.fp, 0, none⟩ hfpl).trans f0, (World.cell?_alloc_lt _ _ ⟨X.fp, 4, none⟩ hfpl).trans f4, (World.cell?_alloc_lt _ _ (sd.add k) (by rw [zas]; exact hsdl)).trans hsc, (World.cell?_alloc_lt _ _ ⟨N, 7, none⟩ hNl).trans m7⟩ (fun hHeld2 => ?_);clear hK K hHeld;refine lay ?_;refine zao 17 (fun K hK => ?_);go_simp;refine Hput.out.mono ?_;rintro e w4 ⟨rfl, hE5, hb24⟩;refine hK.out _ _ ?_;clear hK K;refine lay ?_;refine zai (by kernel_rfl) ?_ _;have hb4 := Hb3.out.trans hb24;have hdn2 := zdp hE5 d rd hdn (by rw [zbe, zaJ]; simp only [List.length_singleton]; omega) (by omega);have q2 := zan hE5.blk rfl 2 (u := .int .i64 (d : Nat)) (by show some (Value.int .i64 x.d) = _; rw [Hd.out]);clear f0 f4 hsc m0 m2 m7 hHeld2;obtain ⟨HE5, Hb24, Hb4, Hdn2⟩ := hd4 hE5 hb24 hb4 hdn2;clear hdn2 hb4 hb24 hE5;go_wp2_with fail;refine Hdn2.out.mono ?_;rintro e w3 ⟨rfl, hE3, hb23⟩;have hfin := Hb4.out.trans hb23;have hE4 := hE3.drop;rw [HR2.out] at hE4;obtain ⟨HE3, Hb23, Hfin, HE4⟩ := hd4 hE3 hb23 hfin hE4;clear hE4 hfin hb23 hE3;go_wp2_with fail;go_end0;exact ⟨rfl, HE4.out, Hfin.out⟩
end
section
variable {w : World} {base : Nat} {X : EmX} {E : EmS} {rest : List It}
theorem zh5 {gb go i : Nat} {g : zad} {x : zam} (h : zaz w base X E rest) (hga : X.ga = ⟨gb, (go : Nat), none⟩) (hG : GrF w base gb go g) (hx : g.nodes[i]? = some x) (hop : x.op = 9) (a t : Nat) (ha : x.a = (a : Int)) (ht : x.els = (t : Int)) (htl : t < 1048576) (han : a < 16 + X.ns)
  (hns : X.ns <= 1048560) (hi : i < 1048576) (hsz : E.sz + 9 <= 1099511627776) :
  Calls Tryd.prog 40 #[.pointer (some ⟨X.fp, 0, none⟩), .int .i64 (i : Nat)] w fun e w' => zbK base X rest w (.tuple #[]) (((E.mark i).read a 13).jump 8 (zax a 13) t) e w' := by
 obtain ⟨R, hR⟩ := mn (((E.mark i).read a 13).jump 8 (zax a 13) t);rw [hR];obtain ⟨f0, f1, _⟩ := h.fn;rw [hga] at f1;obtain ⟨_, pv, kv, iv, nv, hgc, _, _, _, hN⟩ := hG;have c6 := hgc 6 nv rfl;obtain ⟨NA, nc, rfl, _, _⟩ := hN.slice;obtain ⟨nad, cs, hna, _, _, _, ⟨av, hcs, hav⟩, z0, nj⟩ := zaE.at_ hN hx;subst hna hcs;obtain ⟨AA, aac, hava, _, _, _⟩ := hav.slice;subst hava;have n0 : w.cell? (nad.add (i * 12)) = some (.int .u8 x.op) := z0 _ rfl;have n1 := nj 1 _ (by omega) rfl;have n2 := nj 2 _ (by omega) rfl;have n3 := nj 3 _ (by omega) rfl;have n4 := nj 4 _ (by omega) rfl;have n5 := nj 5 _ (by omega) rfl;have n6 := nj 6 _ (by omega) rfl;have n7 := nj 7 _ (by omega) rfl;have n8 := nj 8 _ (by omega) rfl;have n9 := nj 9 _ (by omega) rfl;have n10 := nj 10 _ (by omega) rfl;have n11 := nj 11 _ (by omega) rfl;clear nj z0;obtain ⟨nn, hnn⟩ := mn (g.nodes.length)
 have hin : (i : Int) < nn := by
  have := (List.getElem?_eq_some_iff.1 hx).1
  omega
 rw [hnn] at c6;have hbx := h.box 55 (zae x (.slice AA x.args.length aac)).toArray;have hb := (Below.refl base w).alloc h.size (.cells (zae x (.slice AA x.args.length aac)).toArray 55);obtain ⟨N, hNN⟩ := nm (w.heap.size);obtain ⟨w1, hw1⟩ := nm (w.alloc (.cells (zae x (.slice AA x.args.length aac)).toArray 55));rw [<- hw1, <- hNN] at hbx;rw [<- hw1] at hb;have hw1' : w.alloc (.cells #[.int .u8 x.op, .int .u8 x.byo, .int .i64 x.d, .int .i64 x.e, .int .i64 x.a, .int .i64 x.b, .int .i64 x.f, .int .i64 x.cell, .int .u64 x.imm, .slice AA x.args.length aac, .int .i64 x.next, .int .i64 x.els] 55) = w1 := hw1.symm;have hmk := zba hbx i (by omega) (by omega);obtain ⟨H, Hga, Hgc, HN, Hx, Hav, Hnn, Hbx⟩ := hd8 h hga hgc hN hx hav hnn hbx;obtain ⟨Hb, HNN, Hw1, HW1E, Hmk, HR, Hop, Ha⟩ := hd8 hb hNN hw1 hw1' hmk hR hop ha;have Ht := Lib.hid ht;clear ht ha hop hR hmk hw1' hw1 hNN hb hbx hnn hav hx hN hgc hga h;go_enter Tryd.func40, Tryd.ntmps40;go_upto_region 1 with fail;rw [HW1E.out, <- HNN.out];clear n0 n1 n2 n3 n4 n5 n6 n7 n8 n9 n10 n11 c6 f0 f1;go_wp2_with fail;refine Hmk.out.mono ?_;rintro e w2 ⟨rfl, hE2, hb12⟩;have hb2 := Hb.out.trans hb12;have hB2 := hE2.blk;have m0 := zan hB2 rfl 0 (u := .int .u8 9) (by show some (Value.int .u8 x.op) = _; rw [Hop.out]);have m4 := zan hB2 rfl 4 (u := .int .i64 (a : Nat)) (by show some (Value.int .i64 x.a) = _; rw [Ha.out]);have m11 := zan hB2 rfl 11 (u := .int .i64 (t : Nat)) (by show some (Value.int .i64 x.els) = _; rw [Ht.out]);obtain ⟨ra, hraa⟩ := mn (zax a 13);have hR2 := HR.out;rw [hraa] at hR2
 have hra16 : ra < 16 := by rw [<- hraa]; exact zdg (by omega) (by omega)
 have hrd := zcW hE2.drew a 13 han (by rw [zaJ]; omega) (by omega);rw [hraa] at hrd;obtain ⟨HE2, Hb12, Hb2, HB2, Hraa, HR2, Hrd⟩ := hd7 hE2 hb12 hb2 hB2 hraa hR2 hrd;clear hrd hR2 hraa hB2 hb2 hb12 hE2;go_upto_region 26 with fail;refine zaf (S := fun W => W.cell? ⟨N, 4, none⟩ = some (.int .i64 (a : Nat)) /\ W.cell? ⟨N, 11, none⟩ = some (.int .i64 (t : Nat))) #[false, false, false, false, false, false, false, true] (by kernel_rfl) ⟨m4, m11⟩ (fun hHeld => ?_);refine zaa 0 ?_;refine zaa 1 ?_;refine zaa 2 ?_;refine zaa 3 ?_;refine zaa 5 ?_;refine zaa 6 ?_;refine zag 4 (fun K hK => ?_);go_simp;refine Hrd.out.mono ?_;rintro e w4 ⟨rfl, hE5, hb24⟩;have k4 := zan hE5.blk rfl 4 (u := .int .i64 (a : Nat)) (by show some (Value.int .i64 x.a) = _; rw [Ha.out]);have k11 := zan hE5.blk rfl 11 (u := .int .i64 (t : Nat)) (by show some (Value.int .i64 x.els) = _; rw [Ht.out]);have hj := zdj hE5 8 ra t (by omega) (by omega) (by have := zbq (E.mark i) a 13; rw [zaJ] at this; omega);have hb4 := (Hb2.out.drew).trans hb24;refine hK.out _ _ ⟨k4, k11⟩ (fun hHeld2 => ?_);clear hK K hHeld;obtain ⟨HE5, Hb24, Hb4, Hj⟩ := hd4 hE5 hb24 hb4 hj;clear hj hb4 hb24 hE5;refine lay ?_;refine zao 7 (fun K hK => ?_);go_simp;refine Hj.out.mono ?_;rintro e w3 ⟨rfl, hE3, hb23⟩;refine hK.out _ _ ?_;clear hK K;refine lay ?_;refine zai (by kernel_rfl) ?_ _;have hfin := Hb4.out.trans hb23;clear m0 m4 m11 k4 k11 hHeld2;have hE4 := hE3.drop;rw [HR2.out] at hE4;obtain ⟨HE3, Hb23, Hfin, HE4⟩ := hd4 hE3 hb23 hfin hE4;clear hE4 hfin hb23 hE3;go_wp2_with fail;go_end0;exact ⟨rfl, HE4.out, Hfin.out⟩
theorem zlc {gb go i : Nat} {g : zad} {x : zam} (h : zaz w base X E rest) (hga : X.ga = ⟨gb, (go : Nat), none⟩) (hG : GrF w base gb go g) (hx : g.nodes[i]? = some x) (hop : x.op = 5) (a k : Nat) (ha : x.a = (a : Int)) (hkc : x.cell = (k : Int)) (han : a < 16 + X.ns) (hkn : k < X.nc) (hnc : X.nc <= 1048576)
  (hns : X.ns <= 1048560) (hi : i < 1048576) (hsz : E.sz + 9 <= 1099511627776) :
  Calls Tryd.prog 40 #[.pointer (some ⟨X.fp, 0, none⟩), .int .i64 (i : Nat)] w fun e w' => zbK base X rest w (.tuple #[]) (((E.mark i).read a 13).store (8 * ((X.ns + k : Nat) : Int)) (zax a 13)) e w' := by
 obtain ⟨R, hR⟩ := mn (((E.mark i).read a 13).store (8 * ((X.ns + k : Nat) : Int)) (zax a 13));rw [hR];obtain ⟨f0, f1, _⟩ := h.fn;rw [hga] at f1;obtain ⟨_, pv, kv, iv, nv, hgc, _, _, _, hN⟩ := hG;have c6 := hgc 6 nv rfl;obtain ⟨NA, nc, rfl, _, _⟩ := hN.slice;obtain ⟨nad, cs, hna, _, _, _, ⟨av, hcs, hav⟩, z0, nj⟩ := zaE.at_ hN hx;subst hna hcs;obtain ⟨AA, aac, hava, _, _, _⟩ := hav.slice;subst hava;have n0 : w.cell? (nad.add (i * 12)) = some (.int .u8 x.op) := z0 _ rfl;have n1 := nj 1 _ (by omega) rfl;have n2 := nj 2 _ (by omega) rfl;have n3 := nj 3 _ (by omega) rfl;have n4 := nj 4 _ (by omega) rfl;have n5 := nj 5 _ (by omega) rfl;have n6 := nj 6 _ (by omega) rfl;have n7 := nj 7 _ (by omega) rfl;have n8 := nj 8 _ (by omega) rfl;have n9 := nj 9 _ (by omega) rfl;have n10 := nj 10 _ (by omega) rfl;have n11 := nj 11 _ (by omega) rfl;clear nj z0;obtain ⟨nn, hnn⟩ := mn (g.nodes.length)
 have hin : (i : Int) < nn := by
  have := (List.getElem?_eq_some_iff.1 hx).1
  omega
 rw [hnn] at c6;have hbx := h.box 55 (zae x (.slice AA x.args.length aac)).toArray;have hb := (Below.refl base w).alloc h.size (.cells (zae x (.slice AA x.args.length aac)).toArray 55);obtain ⟨N, hNN⟩ := nm (w.heap.size);obtain ⟨w1, hw1⟩ := nm (w.alloc (.cells (zae x (.slice AA x.args.length aac)).toArray 55));rw [<- hw1, <- hNN] at hbx;rw [<- hw1] at hb;have hw1' : w.alloc (.cells #[.int .u8 x.op, .int .u8 x.byo, .int .i64 x.d, .int .i64 x.e, .int .i64 x.a, .int .i64 x.b, .int .i64 x.f, .int .i64 x.cell, .int .u64 x.imm, .slice AA x.args.length aac, .int .i64 x.next, .int .i64 x.els] 55) = w1 := hw1.symm;have hmk := zba hbx i (by omega) (by omega);obtain ⟨H, Hga, Hgc, HN, Hx, Hav, Hnn, Hbx⟩ := hd8 h hga hgc hN hx hav hnn hbx;obtain ⟨Hb, HNN, Hw1, HW1E, Hmk, HR, Hop, Ha⟩ := hd8 hb hNN hw1 hw1' hmk hR hop ha;have Hkc := Lib.hid hkc;clear hkc ha hop hR hmk hw1' hw1 hNN hb hbx hnn hav hx hN hgc hga h;go_enter Tryd.func40, Tryd.ntmps40;go_upto_region 1 with fail;rw [HW1E.out, <- HNN.out];clear n0 n1 n2 n3 n4 n5 n6 n7 n8 n9 n10 n11 c6 f0 f1;go_wp2_with fail;refine Hmk.out.mono ?_;rintro e w2 ⟨rfl, hE2, hb12⟩;have hb2 := Hb.out.trans hb12;have hB2 := hE2.blk;have m0 := zan hB2 rfl 0 (u := .int .u8 5) (by show some (Value.int .u8 x.op) = _; rw [Hop.out]);have m4 := zan hB2 rfl 4 (u := .int .i64 (a : Nat)) (by show some (Value.int .i64 x.a) = _; rw [Ha.out]);have m7 := zan hB2 rfl 7 (u := .int .i64 (k : Nat)) (by show some (Value.int .i64 x.cell) = _; rw [Hkc.out]);obtain ⟨ra, hraa⟩ := mn (zax a 13);have hR2 := HR.out;rw [hraa] at hR2
 have hra16 : ra < 16 := by rw [<- hraa]; exact zdg (by omega) (by omega)
 have hrd := zcW hE2.drew a 13 han (by rw [zaJ]; omega) (by omega);rw [hraa] at hrd;obtain ⟨_, _, _, _, f4, _⟩ := hE2.fn;obtain ⟨sd, sc, hsl, hsc⟩ := hE2.cellOff hkn;rw [hsl] at f4;obtain ⟨q, hq⟩ := mn (X.ns + k);rw [hq] at hR2 hsc
 have hkX : (k : Int) < X.nc := by omega
 obtain ⟨HE2, Hb12, Hb2, HB2, Hraa, HR2, Hrd, Hsl⟩ := hd8 hE2 hb12 hb2 hB2 hraa hR2 hrd hsl;have Hq := Lib.hid hq;clear hq hsl hrd hR2 hraa hB2 hb2 hb12 hE2;go_upto_region 15 with fail;refine zaf (S := fun W => W.cell? ⟨X.fp, 4, none⟩ = some (.slice (some sd) X.nc sc) /\ W.cell? (sd.add k) = some (.int .i64 (8 * (q : Int))) /\ W.cell? ⟨N, 7, none⟩ = some (.int .i64 (k : Nat)) /\ W.cell? ⟨N, 4, none⟩ = some (.int .i64 (a : Nat))) #[false, false, false, false, false, false, false, false, false, false, false, false, false, false, true] (by kernel_rfl) ⟨f4, hsc, m7, m4⟩ (fun hHeld => ?_);refine zaa 0 ?_;refine zaa 1 ?_;refine zaa 2 ?_;refine zaa 3 ?_;refine zaa 4 ?_;refine zaa 5 ?_;refine zaa 6 ?_;refine zaa 7 ?_;refine zaa 8 ?_;refine zaa 9 ?_;refine zaa 10 ?_;refine zaa 11 ?_;refine zaa 12 ?_;refine zag 13 (fun K hK => ?_);go_simp;refine Hrd.out.mono ?_;rintro e w4 ⟨rfl, hE5, hb24⟩;have k4 := zan hE5.blk rfl 4 (u := .int .i64 (a : Nat)) (by show some (Value.int .i64 x.a) = _; rw [Ha.out]);have k7 := zan hE5.blk rfl 7 (u := .int .i64 (k : Nat)) (by show some (Value.int .i64 x.cell) = _; rw [Hkc.out]);obtain ⟨_, _, _, _, y4, _⟩ := hE5.fn;rw [Hsl.out] at y4;obtain ⟨sd', sc', hsl', hsc'⟩ := hE5.cellOff (k := k) hkn;rw [Hsl.out] at hsl';injection hsl' with h1 _ h2;injection h1 with h1;subst h1;subst h2;rw [Hq.out] at hsc';have hst := zcQ hE5 (8 * (q : Int)) ra (by have := zbq (E.mark i) a 13; rw [zaJ] at this; omega);have hb4 := (Hb2.out.drew).trans hb24;refine hK.out _ _ ⟨y4, hsc', k7, k4⟩ (fun hHeld2 => ?_);clear hK K hHeld;obtain ⟨HE5, Hb24, Hb4, Hst⟩ := hd4 hE5 hb24 hb4 hst;clear hst hb4 hb24 hE5;refine lay ?_;refine zao 14 (fun K hK => ?_);go_simp;refine Hst.out.mono ?_;rintro e w3 ⟨rfl, hE3, hb23⟩;refine hK.out _ _ ?_;clear hK K;refine lay ?_;refine zai (by kernel_rfl) ?_ _;have hfin := Hb4.out.trans hb23;clear m0 m4 m7 k4 k7 f4 hsc y4 hsc' hHeld2;have hE4 := hE3.drop;rw [HR2.out] at hE4;obtain ⟨HE3, Hb23, Hfin, HE4⟩ := hd4 hE3 hb23 hfin hE4;clear hE4 hfin hb23 hE3;go_wp2_with fail;go_end0;exact ⟨rfl, HE4.out, Hfin.out⟩
theorem zld {gb go i : Nat} {g : zad} {x : zam} (h : zaz w base X E rest) (hga : X.ga = ⟨gb, (go : Nat), none⟩) (hG : GrF w base gb go g) (hx : g.nodes[i]? = some x) (hop : x.op = 12) (a : Nat) (ha : x.a = (a : Int)) (han : a < 16 + X.ns)
  (hns : X.ns <= 1048560) (hi : i < 1048576) (hsz : E.sz + 9 <= 1099511627776) :
  Calls Tryd.prog 40 #[.pointer (some ⟨X.fp, 0, none⟩), .int .i64 (i : Nat)] w fun e w' => zbK base X rest w (.tuple #[]) ((((E.mark i).read a 13).store X.res (zax a 13)).jump 7 0 1048576) e w' := by
 obtain ⟨R, hR⟩ := mn ((((E.mark i).read a 13).store X.res (zax a 13)).jump 7 0 1048576);rw [hR];obtain ⟨f0, f1, _⟩ := h.fn;rw [hga] at f1;obtain ⟨_, pv, kv, iv, nv, hgc, _, _, _, hN⟩ := hG;have c6 := hgc 6 nv rfl;obtain ⟨NA, nc, rfl, _, _⟩ := hN.slice;obtain ⟨nad, cs, hna, _, _, _, ⟨av, hcs, hav⟩, z0, nj⟩ := zaE.at_ hN hx;subst hna hcs;obtain ⟨AA, aac, hava, _, _, _⟩ := hav.slice;subst hava;have n0 : w.cell? (nad.add (i * 12)) = some (.int .u8 x.op) := z0 _ rfl;have n1 := nj 1 _ (by omega) rfl;have n2 := nj 2 _ (by omega) rfl;have n3 := nj 3 _ (by omega) rfl;have n4 := nj 4 _ (by omega) rfl;have n5 := nj 5 _ (by omega) rfl;have n6 := nj 6 _ (by omega) rfl;have n7 := nj 7 _ (by omega) rfl;have n8 := nj 8 _ (by omega) rfl;have n9 := nj 9 _ (by omega) rfl;have n10 := nj 10 _ (by omega) rfl;have n11 := nj 11 _ (by omega) rfl;clear nj z0;obtain ⟨nn, hnn⟩ := mn (g.nodes.length)
 have hin : (i : Int) < nn := by
  have := (List.getElem?_eq_some_iff.1 hx).1
  omega
 rw [hnn] at c6;have hbx := h.box 55 (zae x (.slice AA x.args.length aac)).toArray;have hb := (Below.refl base w).alloc h.size (.cells (zae x (.slice AA x.args.length aac)).toArray 55);obtain ⟨N, hNN⟩ := nm (w.heap.size);obtain ⟨w1, hw1⟩ := nm (w.alloc (.cells (zae x (.slice AA x.args.length aac)).toArray 55));rw [<- hw1, <- hNN] at hbx;rw [<- hw1] at hb;have hw1' : w.alloc (.cells #[.int .u8 x.op, .int .u8 x.byo, .int .i64 x.d, .int .i64 x.e, .int .i64 x.a, .int .i64 x.b, .int .i64 x.f, .int .i64 x.cell, .int .u64 x.imm, .slice AA x.args.length aac, .int .i64 x.next, .int .i64 x.els] 55) = w1 := hw1.symm;have hmk := zba hbx i (by omega) (by omega);obtain ⟨H, Hga, Hgc, HN, Hx, Hav, Hnn, Hbx⟩ := hd8 h hga hgc hN hx hav hnn hbx;obtain ⟨Hb, HNN, Hw1, HW1E, Hmk, HR, Hop, Ha⟩ := hd8 hb hNN hw1 hw1' hmk hR hop ha;clear ha hop hR hmk hw1' hw1 hNN hb hbx hnn hav hx hN hgc hga h;go_enter Tryd.func40, Tryd.ntmps40;go_upto_region 1 with fail;rw [HW1E.out, <- HNN.out];clear n0 n1 n2 n3 n4 n5 n6 n7 n8 n9 n10 n11 c6 f0 f1;go_wp2_with fail;refine Hmk.out.mono ?_;rintro e w2 ⟨rfl, hE2, hb12⟩;have hb2 := Hb.out.trans hb12;have hB2 := hE2.blk;have m0 := zan hB2 rfl 0 (u := .int .u8 12) (by show some (Value.int .u8 x.op) = _; rw [Hop.out]);have m4 := zan hB2 rfl 4 (u := .int .i64 (a : Nat)) (by show some (Value.int .i64 x.a) = _; rw [Ha.out]);obtain ⟨ra, hraa⟩ := mn (zax a 13);have hR2 := HR.out;rw [hraa] at hR2
 have hra16 : ra < 16 := by rw [<- hraa]; exact zdg (by omega) (by omega)
 have hrd := zcW hE2.drew a 13 han (by rw [zaJ]; omega) (by omega);rw [hraa] at hrd;obtain ⟨_, _, _, _, _, _, f6, _⟩ := hE2.fn
 have ha0 : (0 : Int) <= a := by omega
 obtain ⟨HE2, Hb12, Hb2, HB2, Hraa, HR2, Hrd⟩ := hd7 hE2 hb12 hb2 hB2 hraa hR2 hrd;clear hrd hR2 hraa hB2 hb2 hb12 hE2;go_upto_region 35 with fail;refine zaf (S := fun W => W.cell? ⟨X.fp, 6, none⟩ = some (.int .i64 X.res) /\ W.cell? ⟨N, 4, none⟩ = some (.int .i64 (a : Nat))) #[false, false, false, false, false, false, false, false, false, false, true] (by kernel_rfl) ⟨f6, m4⟩ (fun hHeld => ?_);refine zaa 0 ?_;refine zaa 1 ?_;refine zaa 2 ?_;refine zaa 3 ?_;refine zaa 4 ?_;refine zaa 5 ?_;refine zaa 6 ?_;refine zaa 7 ?_;refine zaa 8 ?_;refine zag 9 (fun K hK => ?_);go_simp;refine Hrd.out.mono ?_;rintro e w4 ⟨rfl, hE5, hb24⟩;have k4 := zan hE5.blk rfl 4 (u := .int .i64 (a : Nat)) (by show some (Value.int .i64 x.a) = _; rw [Ha.out]);obtain ⟨_, _, _, _, _, _, y6, _⟩ := hE5.fn;have hst := zcQ hE5 X.res ra (by have := zbq (E.mark i) a 13; rw [zaJ] at this; omega);have hb4 := (Hb2.out.drew).trans hb24;refine hK.out _ _ ⟨y6, k4⟩ (fun hHeld2 => ?_);clear hK K hHeld;obtain ⟨HE5, Hb24, Hb4, Hst⟩ := hd4 hE5 hb24 hb4 hst;clear hst hb4 hb24 hE5;refine lay ?_;refine zao 10 (fun K hK => ?_);go_simp;refine Hst.out.mono ?_;rintro e w5 ⟨rfl, hE6, hb26⟩;refine hK.out _ _ ?_;clear hK K;refine lay ?_;refine zai (by kernel_rfl) ?_ _;have hb5 := Hb4.out.trans hb26
 have hj := zdj hE6 7 0 1048576 (by omega) (by omega) (by
  have e1 : (((E.mark i).read a 13).store X.res ra).sz = ((E.mark i).read a 13).sz + 1 := by unfold EmS.store; rw [zbe]; rfl
  have := zbq (E.mark i) a 13;rw [zaJ] at this
  omega)
 clear m0 m4 k4 f6 y6 hHeld2;obtain ⟨HE6, Hb26, Hb5, Hj⟩ := hd4 hE6 hb26 hb5 hj;clear hj hb5 hb26 hE6;go_wp2_with fail;refine Hj.out.mono ?_;rintro e w3 ⟨rfl, hE3, hb23⟩;have hfin := Hb5.out.trans hb23;have hE4 := hE3.drop;rw [HR2.out] at hE4;obtain ⟨HE3, Hb23, Hfin, HE4⟩ := hd4 hE3 hb23 hfin hE4;clear hE4 hfin hb23 hE3;go_wp2_with fail;go_end0;exact ⟨rfl, HE4.out, Hfin.out⟩
theorem zli {gb go i : Nat} {g : zad} {x : zam} (h : zaz w base X E rest) (hga : X.ga = ⟨gb, (go : Nat), none⟩) (hG : GrF w base gb go g) (hx : g.nodes[i]? = some x) (hop : x.op = 12) (ha : x.a < 0)
  (hns : X.ns <= 1048560) (hi : i < 1048576) (hsz : E.sz + 9 <= 1099511627776) :
  Calls Tryd.prog 40 #[.pointer (some ⟨X.fp, 0, none⟩), .int .i64 (i : Nat)] w fun e w' => zbK base X rest w (.tuple #[]) ((E.mark i).jump 7 0 1048576) e w' := by
 obtain ⟨R, hR⟩ := mn ((E.mark i).jump 7 0 1048576);rw [hR];obtain ⟨f0, f1, _⟩ := h.fn;rw [hga] at f1;obtain ⟨_, pv, kv, iv, nv, hgc, _, _, _, hN⟩ := hG;have c6 := hgc 6 nv rfl;obtain ⟨NA, nc, rfl, _, _⟩ := hN.slice;obtain ⟨nad, cs, hna, _, _, _, ⟨av, hcs, hav⟩, z0, nj⟩ := zaE.at_ hN hx;subst hna hcs;obtain ⟨AA, aac, hava, _, _, _⟩ := hav.slice;subst hava;have n0 : w.cell? (nad.add (i * 12)) = some (.int .u8 x.op) := z0 _ rfl;have n1 := nj 1 _ (by omega) rfl;have n2 := nj 2 _ (by omega) rfl;have n3 := nj 3 _ (by omega) rfl;have n4 := nj 4 _ (by omega) rfl;have n5 := nj 5 _ (by omega) rfl;have n6 := nj 6 _ (by omega) rfl;have n7 := nj 7 _ (by omega) rfl;have n8 := nj 8 _ (by omega) rfl;have n9 := nj 9 _ (by omega) rfl;have n10 := nj 10 _ (by omega) rfl;have n11 := nj 11 _ (by omega) rfl;clear nj z0;obtain ⟨nn, hnn⟩ := mn (g.nodes.length)
 have hin : (i : Int) < nn := by
  have := (List.getElem?_eq_some_iff.1 hx).1
  omega
 rw [hnn] at c6;have hbx := h.box 55 (zae x (.slice AA x.args.length aac)).toArray;have hb := (Below.refl base w).alloc h.size (.cells (zae x (.slice AA x.args.length aac)).toArray 55);obtain ⟨N, hNN⟩ := nm (w.heap.size);obtain ⟨w1, hw1⟩ := nm (w.alloc (.cells (zae x (.slice AA x.args.length aac)).toArray 55));rw [<- hw1, <- hNN] at hbx;rw [<- hw1] at hb;have hw1' : w.alloc (.cells #[.int .u8 x.op, .int .u8 x.byo, .int .i64 x.d, .int .i64 x.e, .int .i64 x.a, .int .i64 x.b, .int .i64 x.f, .int .i64 x.cell, .int .u64 x.imm, .slice AA x.args.length aac, .int .i64 x.next, .int .i64 x.els] 55) = w1 := hw1.symm;have hmk := zba hbx i (by omega) (by omega);obtain ⟨H, Hga, Hgc, HN, Hx, Hav, Hnn, Hbx⟩ := hd8 h hga hgc hN hx hav hnn hbx;obtain ⟨Hb, HNN, Hw1, HW1E, Hmk, HR, Hop⟩ := hd7 hb hNN hw1 hw1' hmk hR hop;clear hop hR hmk hw1' hw1 hNN hb hbx hnn hav hx hN hgc hga h;go_enter Tryd.func40, Tryd.ntmps40;go_upto_region 1 with fail;rw [HW1E.out, <- HNN.out];clear n0 n1 n2 n3 n4 n5 n6 n7 n8 n9 n10 n11 c6 f0 f1;go_wp2_with fail;refine Hmk.out.mono ?_;rintro e w2 ⟨rfl, hE2, hb12⟩;have hb2 := Hb.out.trans hb12;have hB2 := hE2.blk;have m0 := zan hB2 rfl 0 (u := .int .u8 12) (by show some (Value.int .u8 x.op) = _; rw [Hop.out]);have m4 := zan hB2 rfl 4 (u := .int .i64 x.a) rfl
 have ha0 : ¬ (0 : Int) <= x.a := by omega
 have hj := zdj hE2 7 0 1048576 (by omega) (by omega) (by rw [zaJ]; omega);obtain ⟨HE2, Hb12, Hb2, HB2, Hj⟩ := hd5 hE2 hb12 hb2 hB2 hj;clear hj hB2 hb2 hb12 hE2;go_wp2_with fail;refine Hj.out.mono ?_;rintro e w3 ⟨rfl, hE3, hb23⟩;have hfin := Hb2.out.trans hb23;have hE4 := hE3.drop;rw [HR.out] at hE4;obtain ⟨HE3, Hb23, Hfin, HE4⟩ := hd4 hE3 hb23 hfin hE4;clear hE4 hfin hb23 hE3;go_wp2_with fail;go_end0;exact ⟨rfl, HE4.out, Hfin.out⟩
end
def zfX (S : Nat -> Bool) : Nat -> Nat
 | 0 => 0
 | n + 1 => zfX S n + if S n then 1 else 0
section
variable {S T : Nat -> Bool} {n : Nat}
theorem zmF : zfX S n <= n := by
 induction n with
 | zero => exact Nat.le_refl _
 | succ n ih => show zfX S n + _ <= _; split <;> omega
theorem zkP : zfX S n <= zfX (orS S T) n := by
 induction n with
 | zero => exact Nat.le_refl _
 | succ n ih =>
  show zfX S n + _ <= zfX (orS S T) n + _;unfold orS at ih ⊢
  cases hs : S n <;> cases ht : T n <;> simp <;> omega
theorem zlM (h : newS n S T = true) : zfX S n < zfX (orS S T) n := by
 unfold newS at h;rw [List.any_eq_true] at h;obtain ⟨i, hi, hb⟩ := h;rw [List.mem_range] at hi;simp only [Bool.and_eq_true, Bool.not_eq_true'] at hb
 have key : ∀ m, i < m -> zfX S m < zfX (orS S T) m := by
  intro m
  induction m with
  | zero => intro h; omega
  | succ m ih =>
   intro hm;show zfX S m + _ < zfX (orS S T) m + _
   by_cases him : i = m
   ·subst him;have := zkP (S := S) (T := T) (n := i);unfold orS at this ⊢;rw [hb.1, hb.2];simp
    omega
   ·have := ih (by omega);unfold orS at this ⊢
    cases hs : S m <;> cases ht : T m <;> simp <;> omega
 exact key n hi
end
def zbN {α : Type} (f : Nat -> α) (k : Nat) (v : α) : Nat -> α := fun i => if i = k then v else f i
theorem zei {α : Type} (f : Nat -> α) (k : Nat) (v : α) : zbN f k v k = v := by simp [zbN]
theorem zdL {α : Type} {f : Nat -> α} {k i : Nat} {v : α} (h : i ≠ k) : zbN f k v i = f i := by simp [zbN, h]
abbrev ze4 := Nat -> Nat -> Bool
def zgV (S : ze4) (i : Nat) (l : List Int) : ze4 := l.foldl (fun S t => zbN S (2 * i + 1) (orS (S (2 * i + 1)) (S (2 * t.toNat)))) S
def zgQ (P : Nat -> Bool) (l : List Int) : Nat -> Bool := l.foldl (fun P p => zjB P p.toNat) P
def zfN (P : Nat -> Bool) (l : List Int) : Nat -> Bool := l.foldl (fun P p => ziO P p.toNat) P
def zkU (P : Nat -> Bool) (x : zam) : Nat -> Bool := zfN (zgQ P (zaD x)) (zaT x)
def zgu (S : ze4) (i : Nat) (x : zam) : ze4 :=
 let S1 := zgV S i (zaR x)
 zbN S1 (2 * i) (orS (S1 (2 * i)) (zkU (S1 (2 * i + 1)) x))
def zmH (n : Nat) (S : ze4) (i : Nat) (x : zam) : Bool :=
 let S1 := zgV S i (zaR x)
 newS n (S1 (2 * i)) (zkU (S1 (2 * i + 1)) x)
def zbm (n : Nat) (l : List zam) (S : ze4) : Nat -> ze4 × Bool
 | 0 => (S, false)
 | j + 1 => match l[l.length - (j + 1)]? with
  | none => zbm n l S j
  | some x => let r := zbm n l S j; (zgu r.1 (l.length - (j + 1)) x, r.2 || zmH n r.1 (l.length - (j + 1)) x)
def zfE (n : Nat) (l : List zam) : Nat -> ze4 -> ze4
 | 0, S => S
 | f + 1, S => let r := zbm n l S l.length; if r.2 then zfE n l f r.1 else r.1
def zhl (n : Nat) (l : List zam) : ze4 := zfE n l (l.length * n + 1) (fun _ _ => false)
def ze0 (n : Nat) (S : ze4) : Nat -> Nat
 | 0 => 0
 | N + 1 => ze0 n S N + zfX (S (2 * N)) n
section
variable {S : ze4} {n N i j : Nat} {l : List zam} {x : zam}
theorem zmG : ze0 n S N <= N * n := by
 induction N with
 | zero => exact Nat.zero_le _
 | succ N ih =>
  show ze0 n S N + zfX (S (2 * N)) n <= _;have := zmF (S := S (2 * N)) (n := n);rw [Nat.succ_mul N n]; omega
theorem zlP {P : Nat -> Bool} : ze0 n (zbN S (2 * i + 1) P) N = ze0 n S N := by
 induction N with
 | zero => rfl
 | succ N ih =>
  show ze0 n (zbN S (2 * i + 1) P) N + zfX (zbN S (2 * i + 1) P (2 * N)) n = _;rw [ih, zdL (by omega)]; rfl
theorem zlQ {P : Nat -> Bool} (h : N <= i) : ze0 n (zbN S (2 * i) P) N = ze0 n S N := by
 induction N with
 | zero => rfl
 | succ N ih =>
  show ze0 n (zbN S (2 * i) P) N + zfX (zbN S (2 * i) P (2 * N)) n = _;rw [ih (by omega), zdL (by omega)]; rfl
theorem zlN {P : Nat -> Bool} (h : i < N) : ze0 n (zbN S (2 * i) P) N + zfX (S (2 * i)) n = ze0 n S N + zfX P n := by
 induction N with
 | zero => omega
 | succ N ih =>
  show ze0 n (zbN S (2 * i) P) N + zfX (zbN S (2 * i) P (2 * N)) n + _ = ze0 n S N + zfX (S (2 * N)) n + _
  by_cases hN : i = N
  ·subst hN;rw [zei, zlQ (Nat.le_refl _)]; omega
  ·have := ih (by omega);rw [zdL (show 2 * N ≠ 2 * i by omega)]; omega
theorem zlO (ls : List Int) : ∀ S : ze4, ze0 n (zgV S i ls) N = ze0 n S N := by
 induction ls with
 | nil => intro S; rfl
 | cons t ls ih => intro S; show ze0 n (zgV (zbN S (2 * i + 1) _) i ls) N = _; rw [ih, zlP]
theorem zkQ (hi : i < N) : ze0 n S N <= ze0 n (zgu S i x) N /\ (zmH n S i x = true -> ze0 n S N < ze0 n (zgu S i x) N) := by
 unfold zgu zmH;dsimp only;obtain ⟨S1, hS1⟩ := mn (zgV S i (zaR x));rw [hS1];have h0 := zlO (n := n) (N := N) (i := i) (zaR x) S;rw [hS1] at h0;have h1 := zlN (S := S1) (n := n) (P := orS (S1 (2 * i)) (zkU (S1 (2 * i + 1)) x)) hi;have h2 := zkP (S := S1 (2 * i)) (T := zkU (S1 (2 * i + 1)) x) (n := n);refine ⟨by omega, fun h => ?_⟩;have h3 := zlM h
 omega
theorem zjC (hj : j <= l.length) : ze0 n S l.length <= ze0 n (zbm n l S j).1 l.length /\ ((zbm n l S j).2 = true -> ze0 n S l.length < ze0 n (zbm n l S j).1 l.length) := by
 induction j with
 | zero => exact ⟨Nat.le_refl _, by intro h; cases h⟩
 | succ j ih =>
  obtain ⟨x, hx⟩ : ∃ x, l[l.length - (j + 1)]? = some x := ⟨_, List.getElem?_eq_getElem (by omega)⟩
  obtain ⟨h1, h2⟩ := ih (by omega);obtain ⟨h3, h4⟩ := zkQ (S := (zbm n l S j).1) (n := n) (x := x) (show l.length - (j + 1) < l.length by omega)
  have e : zbm n l S (j + 1) = (zgu (zbm n l S j).1 (l.length - (j + 1)) x, (zbm n l S j).2 || zmH n (zbm n l S j).1 (l.length - (j + 1)) x) := by
   rw [zbm, hx]
  rw [e];refine ⟨by dsimp only; omega, ?_⟩;dsimp only;intro h;rw [Bool.or_eq_true] at h
  rcases h with h | h
  ·have := h2 h; omega
  ·have := h4 h; omega
def BdL (n : Nat) (S : ze4) : Prop := ∀ k p, n <= p -> S k p = false
theorem BdL.set (h : BdL n S) {k : Nat} {P : Nat -> Bool} (hP : ∀ p, n <= p -> P p = false) : BdL n (zbN S k P) := by
 intro k' p hp;unfold zbN
 split
 ·exact hP p hp
 ·exact h k' p hp
theorem BdL.ors (ls : List Int) : ∀ {S : ze4}, BdL n S -> BdL n (zgV S i ls) := by
 induction ls with
 | nil => intro S h; exact h
 | cons t ls ih =>
  intro S h;refine ih (h.set fun p hp => ?_);unfold orS;rw [h _ p hp, h _ p hp]; rfl
theorem zkS (ls : List Int) : ∀ {P : Nat -> Bool}, (∀ p, n <= p -> P p = false) -> ∀ p, n <= p -> zgQ P ls p = false := by
 induction ls with
 | nil => intro P h; exact h
 | cons t ls ih =>
  intro P h
  refine ih fun p hp => ?_
  have e := h p hp;simp [zjB, e]
theorem zkT (ls : List Int) : ∀ {P : Nat -> Bool}, (∀ p, n <= p -> P p = false) -> (∀ t ∈ ls, 0 <= t /\ t < n) -> ∀ p, n <= p -> zfN P ls p = false := by
 induction ls with
 | nil => intro P h _; exact h
 | cons t ls ih =>
  intro P h hl;refine ih (fun p hp => ?_) (fun u hu => hl u (List.mem_cons_of_mem _ hu));have h2 := hl t List.mem_cons_self;have e := h p hp;simp [ziO, e]; omega
theorem BdL.step (h : BdL n S) (hr : ∀ t ∈ zaT x, 0 <= t /\ t < n) : BdL n (zgu S i x) := by
 have h1 := h.ors (i := i) (zaR x)
 refine h1.set fun p hp => ?_
 unfold orS zkU;rw [h1 _ p hp, zkT (zaT x) (zkS (zaD x) (fun p hp => h1 _ p hp)) hr p hp]; rfl
theorem BdL.sweep (h : BdL n S) (hr : ∀ x ∈ l, ∀ t ∈ zaT x, 0 <= t /\ t < n) : BdL n (zbm n l S j).1 := by
 induction j with
 | zero => exact h
 | succ j ih =>
  rw [zbm]
  split
  ·exact ih
  ·next x hx => exact ih.step (hr x (List.mem_of_getElem? hx))
theorem zhM (hj : j < l.length) (hx : l[l.length - (j + 1)]? = some x) : zbm n l S (j + 1) = (zgu (zbm n l S j).1 (l.length - (j + 1)) x, (zbm n l S j).2 || zmH n (zbm n l S j).1 (l.length - (j + 1)) x) := by
 rw [zbm, hx]
theorem zjp {f : Nat} (h : (zbm n l S l.length).2 = true) : zfE n l (f + 1) S = zfE n l f (zbm n l S l.length).1 := by
 rw [zfE]; simp only [h, if_true]
theorem zjq {f : Nat} (h : (zbm n l S l.length).2 = false) : zfE n l (f + 1) S = (zbm n l S l.length).1 := by
 rw [zfE]; simp only [h]; rfl
theorem zka (S : ze4) (i : Nat) (ls : List Int) (t : Int) : zgV S i (ls ++ [t]) = zbN (zgV S i ls) (2 * i + 1) (orS (zgV S i ls (2 * i + 1)) (zgV S i ls (2 * t.toNat))) := by
 unfold zgV; rw [List.foldl_append]; rfl
theorem zjA (P : Nat -> Bool) (ls : List Int) (t : Int) : zgQ P (ls ++ [t]) = zjB (zgQ P ls) t.toNat := by unfold zgQ; rw [List.foldl_append]; rfl
theorem zjL (P : Nat -> Bool) (ls : List Int) (t : Int) : zfN P (ls ++ [t]) = ziO (zfN P ls) t.toNat := by unfold zfN; rw [List.foldl_append]; rfl
end
theorem BdL.none (n : Nat) : BdL n (fun _ _ => false) := fun _ _ _ => rfl
def EmS.call (E : EmS) (f : Nat) : EmS := { E with calls := upd E.calls E.code.length f, cn := E.cn + 1 }
theorem zhL (E : EmS) (f : Nat) : (E.call f).sz = E.sz + 1 := by unfold EmS.sz EmS.call; simp only; omega
section
variable {w : World} {base : Nat} {X : EmX} {E : EmS} {rest : List It}
theorem zaz.putCall (h : zaz w base X E rest) (f : Nat) (hl : f < 4611686018427387904) (hsz : E.sz + 1 <= 1099511627776) : ∃ J w1, w.cell? ⟨X.ep, 2, none⟩ = some (.map (some J)) /\ (Instr.mapUpdate 64 (.map (some J)) (.int .i64 (E.code.length : Nat)) (.int .i64 (f : Nat))).run Tryd.prog w = .ok () w1 /\ zaz w1 base X (E.call f) rest /\ Below base w w1 := by
 obtain ⟨cv, sv, zv, nv, Mc, J, L, lvs, h1, hI⟩ := h;have hb := hI.blk (i := 0) rfl;have hm := hI.imap (i := 2) rfl;have hlt := (hI.at_ (i := 2) rfl).lt Mc rfl;unfold EmS.sz at hsz;obtain ⟨w1, hrun, hm1, hg⟩ := hm.put E.code.length f (by omega) (by omega) (by unfold maxLen; omega);refine ⟨Mc, w1, hb.cell 2, hrun, ⟨cv, sv, zv, nv, Mc, J, L, lvs, h1, hI.put (i := 2) rfl hm1 hg⟩, (Below.refl base w).grown hg (by omega) fun b e => by injection e with e; omega⟩
theorem zkk {gb go i : Nat} {g : zad} {x : zam} (h : zaz w base X E rest) (hga : X.ga = ⟨gb, (go : Nat), none⟩) (hG : GrF w base gb go g) (hx : g.nodes[i]? = some x) (hop : x.op = 11) (f : Nat) (hf : x.f = (f : Int)) (hfl : f <= 1048576) {n : Nat} {S : Nat -> Bool} {KD : Nat -> Int}
  (hP : ∀ W E', zaz W base X E' rest -> ∃ pA N pc g h', X.pv = .slice (some pA) N pc /\ i < N /\ W.cell? (pA.add i) = some (.pointer (some ⟨g, 0, none⟩)) /\ zcF W g h' n S)
  (hS : ∀ k, n <= k -> S k = false) (hn : n <= 16 + X.ns)
  (hKD : ∀ W, Below base w W -> ∃ kv, W.cell? ⟨gb, ((go + 1 : Nat) : Nat), none⟩ = some kv /\ ∀ k, k < n -> ∃ kA kc, kv = .slice (some kA) n kc /\ W.cell? (kA.add k) = some (.int .u8 (KD k)))
  (hT : ∀ W, Below base w W -> TabX W)
  (hns : X.ns <= 1048560) (hi : i < 1048576) (hsz : E.sz + 9 <= 1099511627776) :
  Calls Tryd.prog 40 #[.pointer (some ⟨X.fp, 0, none⟩), .int .i64 (i : Nat)] w fun e w' => zbK base X rest w (.tuple #[]) (((((E.mark i).call f).put [⟨9, 0, 0, 0, 0⟩]).site (zdi KD (zbB n S)))) e w' := by
 obtain ⟨R, hR⟩ := mn (((((E.mark i).call f).put [⟨9, 0, 0, 0, 0⟩]).site (zdi KD (zbB n S))));rw [hR];obtain ⟨f0, f1, _⟩ := h.fn;rw [hga] at f1;obtain ⟨_, pv, kv, iv, nv, hgc, _, _, _, hN⟩ := hG;have c6 := hgc 6 nv rfl;obtain ⟨NA, nc, rfl, _, _⟩ := hN.slice;obtain ⟨nad, cs, hna, _, _, _, ⟨av, hcs, hav⟩, z0, nj⟩ := zaE.at_ hN hx;subst hna hcs;obtain ⟨AA, aac, hava, _, _, _⟩ := hav.slice;subst hava;have n0 : w.cell? (nad.add (i * 12)) = some (.int .u8 x.op) := z0 _ rfl;have n1 := nj 1 _ (by omega) rfl;have n2 := nj 2 _ (by omega) rfl;have n3 := nj 3 _ (by omega) rfl;have n4 := nj 4 _ (by omega) rfl;have n5 := nj 5 _ (by omega) rfl;have n6 := nj 6 _ (by omega) rfl;have n7 := nj 7 _ (by omega) rfl;have n8 := nj 8 _ (by omega) rfl;have n9 := nj 9 _ (by omega) rfl;have n10 := nj 10 _ (by omega) rfl;have n11 := nj 11 _ (by omega) rfl;clear nj z0;obtain ⟨nn, hnn⟩ := mn (g.nodes.length)
 have hin : (i : Int) < nn := by
  have := (List.getElem?_eq_some_iff.1 hx).1
  omega
 rw [hnn] at c6;have hbx := h.box 55 (zae x (.slice AA x.args.length aac)).toArray;have hb := (Below.refl base w).alloc h.size (.cells (zae x (.slice AA x.args.length aac)).toArray 55);obtain ⟨N, hNN⟩ := nm (w.heap.size);obtain ⟨w1, hw1⟩ := nm (w.alloc (.cells (zae x (.slice AA x.args.length aac)).toArray 55));rw [<- hw1, <- hNN] at hbx;rw [<- hw1] at hb;have hw1' : w.alloc (.cells #[.int .u8 x.op, .int .u8 x.byo, .int .i64 x.d, .int .i64 x.e, .int .i64 x.a, .int .i64 x.b, .int .i64 x.f, .int .i64 x.cell, .int .u64 x.imm, .slice AA x.args.length aac, .int .i64 x.next, .int .i64 x.els] 55) = w1 := hw1.symm;have hmk := zba hbx i (by omega) (by omega);obtain ⟨H, Hga, Hgc, HN, Hx, Hav, Hnn, Hbx⟩ := hd8 h hga hgc hN hx hav hnn hbx;obtain ⟨Hb, HNN, Hw1, HW1E, Hmk, HR, Hop, Hf⟩ := hd8 hb hNN hw1 hw1' hmk hR hop hf;obtain ⟨HP, HS, HKD, HT⟩ := hd4 hP hS hKD hT;clear hT hKD hS hP hf hop hR hmk hw1' hw1 hNN hb hbx hnn hav hx hN hgc hga h;go_enter Tryd.func40, Tryd.ntmps40;go_upto_region 1 with fail;rw [HW1E.out, <- HNN.out];clear n0 n1 n2 n3 n4 n5 n6 n7 n8 n9 n10 n11 c6 f0 f1;go_wp2_with fail;refine Hmk.out.mono ?_;rintro e w2 ⟨rfl, hE2, hb12⟩;have hb2 := Hb.out.trans hb12;have hB2 := hE2.blk;have m0 := zan hB2 rfl 0 (u := .int .u8 11) (by show some (Value.int .u8 x.op) = _; rw [Hop.out]);have m6 := zan hB2 rfl 6 (u := .int .i64 (f : Nat)) (by show some (Value.int .i64 x.f) = _; rw [Hf.out]);obtain ⟨J, w4, e2, hrun, hE4, hb4⟩ := hE2.drew.putCall f (by omega) (by rw [zaJ]; omega);obtain ⟨f0, _⟩ := hE2.fn;obtain ⟨CA, cc, k0⟩ := hE2.code
 replace e2 : w2.cell? ⟨X.ep, 2, none⟩ = some (.map (some J)) := e2
 obtain ⟨g0, _⟩ := hE4.fn;have hb4' := (hb2.drew).trans hb4;have hput := za6 (hE4.alloc (.cells #[.int .u8 9, .int .i64 0, .int .i64 0, .int .i64 0, .int .i32 0] 71)) (ms := [⟨9, 0, 0, 0, 0⟩]) (c := 1) (zal.newS _ rfl _ _ _ _ _ rfl rfl) rfl (by rw [zhL, zaJ]; omega);have hb5 := hb4'.alloc hE4.size (.cells #[.int .u8 9, .int .i64 0, .int .i64 0, .int .i64 0, .int .i32 0] 71);obtain ⟨HE2, Hb12, Hb2, HB2, HE4, Hb4, Hb4', Hput⟩ := hd8 hE2 hb12 hb2 hB2 hE4 hb4 hb4' hput;have Hb5 := Lib.hid hb5;clear hb5 hput hb4' hb4 hE4 hB2 hb2 hb12 hE2;go_upto_region 30 with fail;refine zaf (S := fun W => W.cell? ⟨X.fp, 0, none⟩ = some (.pointer (some ⟨X.ep, 0, none⟩)) /\ W.cell? ⟨X.ep, 2, none⟩ = some (.map (some J)) /\ W.cell? ⟨X.ep, 0, none⟩ = some (.slice CA ((E.mark i).code.length) cc) /\ W.cell? ⟨N, 6, none⟩ = some (.int .i64 (f : Nat))) #[false, false, false, false, false, false, false, false, false, false, false, false, false, false, false, false, false, true] (by kernel_rfl) ⟨f0, e2, k0, m6⟩ (fun hHeld => ?_);refine zaa 0 ?_;refine zaa 1 ?_;refine zaa 2 ?_;refine zaa 3 ?_;refine zaa 4 ?_;refine zaa 5 ?_;refine zaa 6 ?_;refine zaa 7 ?_;refine zaa 8 ?_;refine zaa 9 ?_;refine zaa 10 ?_;refine zaa 11 ?_;refine zaa 12 ?_;refine zaa 13 ?_;refine zaa 14 ?_;refine zaa 15 ?_;refine zaa 16 ?_;refine zao 17 (fun K hK => ?_);go_simp;refine hK.out _ _ ?_;clear hK K;refine lay ?_;refine zai (by kernel_rfl) ?_ _;clear f0 e2 k0 m0 m6 hHeld;go_wp2_with fail;refine Hput.out.mono ?_;rintro e w5 ⟨rfl, hE6, hb26⟩;have hb6 := Hb5.out.trans hb26;have hst := zmg (i := i) hE6 Hga.out (fun W E' hW => HP.out W E' hW.drop) HS.out hn (fun W hW => HKD.out W (hb6.trans hW)) (fun W hW => HT.out W (hb6.trans hW)) hns hi (by rw [zbe, zhL, zaJ]; simp only [List.length_singleton]; omega);clear g0 hrun;obtain ⟨HE6, Hb26, Hb6, Hst⟩ := hd4 hE6 hb26 hb6 hst;clear hst hb6 hb26 hE6;go_wp2_with fail;refine Hst.out.mono ?_;rintro e w3 ⟨rfl, hE3, hb23⟩;have hfin := Hb6.out.trans hb23;have hE4 := hE3.drop;rw [HR.out] at hE4;obtain ⟨HE3, Hb23, Hfin, HE4⟩ := hd4 hE3 hb23 hfin hE4;clear hE4 hfin hb23 hE3;go_wp2_with fail;go_end0;exact ⟨rfl, HE4.out, Hfin.out⟩
end
end Go.Proofs.YtnfjjliiajaijaaDoor
