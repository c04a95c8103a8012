/- Walk of the emitter's nodes of constants and cells. Conditions: the emitter and the graph lie in memory, places are there. Walk of the emitter's nodes that store, branch, return. Conditions: the emitter and the graph lie in memory, places are there. What lives behind the nodes of a graph, plainly: sweeps until nothing grows. No condition. -/
import Derived.Test.YtnfjjliiajaijaaDoorPkAA
import Derived.Test.YtnfjjliiajaijaaDoorPkAK
import Derived.Test.YtnfjjliiajaijaaDoorPkAH
import Derived.Test.YtnfjjliiajaijaaDoorPkAD
set_option linter.unusedVariables false
set_option linter.unusedSimpArgs false
set_option maxRecDepth 100000
set_option maxHeartbeats 10000000
namespace Go.Proofs.YtnfjjliiajaijaaDoor
open Go.RowKit
section
variable {w : World} {base : Nat} {X : EmX} {E : EmS} {rest : List It}
theorem node_nop {gb go i : Nat} {g : GraphD} {x : NodeD} (h : EmAt w base X E rest) (hga : X.ga = ⟨gb, (go : Nat), none⟩) (hG : GrF w base gb go g) (hx : g.nodes[i]? = some x) (hop : x.op = 10) (t : Nat) (ht : x.next = (t : Int)) (htl : t < 1048576)
  (hns : X.ns ≤ 1048560) (hi : i < 1048576) (hsz : E.sz + 9 ≤ 1099511627776) :
  Calls Tryd.prog 40 #[.pointer (some ⟨X.fp, 0, none⟩), .int .i64 (i : Nat)] w fun e w' => EmGot base X rest w (.tuple #[]) ((E.mark i).jump 7 0 t) e w' := by
 obtain ⟨R, hR⟩ : ∃ R, (E.mark i).jump 7 0 t = R := ⟨_, rfl⟩
 rw [hR]
 obtain ⟨f0, f1, _⟩ := h.fn
 rw [hga] at f1
 obtain ⟨_, pv, kv, iv, nv, hgc, _, _, _, hN⟩ := hG
 have c6 := hgc 6 nv rfl
 obtain ⟨NA, nc, rfl, _, _⟩ := hN.slice
 obtain ⟨nad, cs, hna, _, _, _, ⟨av, hcs, hav⟩, z0, nj⟩ := RowsAt.at_ hN hx
 subst hna hcs
 obtain ⟨AA, aac, hava, _, _, _⟩ := hav.slice
 subst hava
 have n0 : w.cell? (nad.add (i * 12)) = some (.int .u8 x.op) := z0 _ rfl
 have n1 := nj 1 _ (by omega) rfl
 have n2 := nj 2 _ (by omega) rfl
 have n3 := nj 3 _ (by omega) rfl
 have n4 := nj 4 _ (by omega) rfl
 have n5 := nj 5 _ (by omega) rfl
 have n6 := nj 6 _ (by omega) rfl
 have n7 := nj 7 _ (by omega) rfl
 have n8 := nj 8 _ (by omega) rfl
 have n9 := nj 9 _ (by omega) rfl
 have n10 := nj 10 _ (by omega) rfl
 have n11 := nj 11 _ (by omega) rfl
 clear nj z0
 obtain ⟨nn, hnn⟩ : ∃ nn, g.nodes.length = nn := ⟨_, rfl⟩
 have hin : (i : Int) < nn := by
  have := (List.getElem?_eq_some_iff.1 hx).1
  omega
 rw [hnn] at c6
 have hbx := h.box 55 (ncells x (.slice AA x.args.length aac)).toArray
 have hb := (Below.refl base w).alloc h.size (.cells (ncells x (.slice AA x.args.length aac)).toArray 55)
 obtain ⟨N, hNN⟩ : ∃ N, N = w.heap.size := ⟨_, rfl⟩
 obtain ⟨w1, hw1⟩ : ∃ w1, w1 = w.alloc (.cells (ncells x (.slice AA x.args.length aac)).toArray 55) := ⟨_, rfl⟩
 rw [← hw1, ← hNN] at hbx
 rw [← hw1] at hb
 have hw1' : w.alloc (.cells #[.int .u8 x.op, .int .u8 x.byo, .int .i64 x.d, .int .i64 x.e, .int .i64 x.a, .int .i64 x.b, .int .i64 x.f, .int .i64 x.cell, .int .u64 x.imm, .slice AA x.args.length aac, .int .i64 x.next, .int .i64 x.els] 55) = w1 := hw1.symm
 have hmk := mark_em hbx i (by omega) (by omega)
 obtain ⟨H, Hga, Hgc, HN, Hx, Hav, Hnn, Hbx⟩ := hd8 h hga hgc hN hx hav hnn hbx
 obtain ⟨Hb, HNN, Hw1, HW1E, Hmk, HR, Hop, Ht⟩ := hd8 hb hNN hw1 hw1' hmk hR hop ht
 clear ht hop hR hmk hw1' hw1 hNN hb hbx hnn hav hx hN hgc hga h
 go_enter Tryd.func40, Tryd.ntmps40
 go_upto_region 1 with fail
 rw [HW1E.out, ← HNN.out]
 clear n0 n1 n2 n3 n4 n5 n6 n7 n8 n9 n10 n11 c6 f0 f1
 go_wp2_with fail
 refine Hmk.out.mono ?_
 rintro e w2 ⟨rfl, hE2, hb12⟩
 have hb2 := Hb.out.trans hb12
 have hB2 := hE2.blk
 have m0 := node_cell hB2 rfl 0 (u := .int .u8 10) (by show some (Value.int .u8 x.op) = _; rw [Hop.out])
 have m10 := node_cell hB2 rfl 10 (u := .int .i64 (t : Nat)) (by show some (Value.int .i64 x.next) = _; rw [Ht.out])
 have hj := jump_em hE2 7 0 t (by omega) (by omega) (by rw [sz_mark]; omega)
 obtain ⟨HE2, Hb12, Hb2, HB2, Hj⟩ := hd5 hE2 hb12 hb2 hB2 hj
 clear hj hB2 hb2 hb12 hE2
 go_wp2_with fail
 refine Hj.out.mono ?_
 rintro e w3 ⟨rfl, hE3, hb23⟩
 have hfin := Hb2.out.trans hb23
 have hE4 := hE3.drop
 rw [HR.out] at hE4
 obtain ⟨HE3, Hb23, Hfin, HE4⟩ := hd4 hE3 hb23 hfin hE4
 clear hE4 hfin hb23 hE3
 go_wp2_with fail
 go_end0
 exact ⟨rfl, HE4.out, Hfin.out⟩
theorem node_const {gb go i : Nat} {g : GraphD} {x : NodeD} (h : EmAt w base X E rest) (hga : X.ga = ⟨gb, (go : Nat), none⟩) (hG : GrF w base gb go g) (hx : g.nodes[i]? = some x) (hop : x.op = 1) (d : Nat) (hd : x.d = (d : Int)) (hdn : d < 16 + X.ns) (himm : U64 x.imm)
  (hns : X.ns ≤ 1048560) (hi : i < 1048576) (hsz : E.sz + 9 ≤ 1099511627776) :
  Calls Tryd.prog 40 #[.pointer (some ⟨X.fp, 0, none⟩), .int .i64 (i : Nat)] w fun e w' => EmGot base X rest w (.tuple #[]) (((E.mark i).number (regOf d 13) x.imm).done d (regOf d 13)) e w' := by
 obtain ⟨R, hR⟩ : ∃ R, ((E.mark i).number (regOf d 13) x.imm).done d (regOf d 13) = R := ⟨_, rfl⟩
 rw [hR]
 obtain ⟨f0, f1, _⟩ := h.fn
 rw [hga] at f1
 obtain ⟨_, pv, kv, iv, nv, hgc, _, _, _, hN⟩ := hG
 have c6 := hgc 6 nv rfl
 obtain ⟨NA, nc, rfl, _, _⟩ := hN.slice
 obtain ⟨nad, cs, hna, _, _, _, ⟨av, hcs, hav⟩, z0, nj⟩ := RowsAt.at_ hN hx
 subst hna hcs
 obtain ⟨AA, aac, hava, _, _, _⟩ := hav.slice
 subst hava
 have n0 : w.cell? (nad.add (i * 12)) = some (.int .u8 x.op) := z0 _ rfl
 have n1 := nj 1 _ (by omega) rfl
 have n2 := nj 2 _ (by omega) rfl
 have n3 := nj 3 _ (by omega) rfl
 have n4 := nj 4 _ (by omega) rfl
 have n5 := nj 5 _ (by omega) rfl
 have n6 := nj 6 _ (by omega) rfl
 have n7 := nj 7 _ (by omega) rfl
 have n8 := nj 8 _ (by omega) rfl
 have n9 := nj 9 _ (by omega) rfl
 have n10 := nj 10 _ (by omega) rfl
 have n11 := nj 11 _ (by omega) rfl
 clear nj z0
 obtain ⟨nn, hnn⟩ : ∃ nn, g.nodes.length = nn := ⟨_, rfl⟩
 have hin : (i : Int) < nn := by
  have := (List.getElem?_eq_some_iff.1 hx).1
  omega
 rw [hnn] at c6
 have hbx := h.box 55 (ncells x (.slice AA x.args.length aac)).toArray
 have hb := (Below.refl base w).alloc h.size (.cells (ncells x (.slice AA x.args.length aac)).toArray 55)
 obtain ⟨N, hNN⟩ : ∃ N, N = w.heap.size := ⟨_, rfl⟩
 obtain ⟨w1, hw1⟩ : ∃ w1, w1 = w.alloc (.cells (ncells x (.slice AA x.args.length aac)).toArray 55) := ⟨_, rfl⟩
 rw [← hw1, ← hNN] at hbx
 rw [← hw1] at hb
 have hw1' : w.alloc (.cells #[.int .u8 x.op, .int .u8 x.byo, .int .i64 x.d, .int .i64 x.e, .int .i64 x.a, .int .i64 x.b, .int .i64 x.f, .int .i64 x.cell, .int .u64 x.imm, .slice AA x.args.length aac, .int .i64 x.next, .int .i64 x.els] 55) = w1 := hw1.symm
 have hmk := mark_em hbx i (by omega) (by omega)
 obtain ⟨H, Hga, Hgc, HN, Hx, Hav, Hnn, Hbx⟩ := hd8 h hga hgc hN hx hav hnn hbx
 obtain ⟨Hb, HNN, Hw1, HW1E, Hmk, HR, Hop, Hd⟩ := hd8 hb hNN hw1 hw1' hmk hR hop hd
 clear hd hop hR hmk hw1' hw1 hNN hb hbx hnn hav hx hN hgc hga h
 go_enter Tryd.func40, Tryd.ntmps40
 go_upto_region 1 with fail
 rw [HW1E.out, ← HNN.out]
 clear n0 n1 n2 n3 n4 n5 n6 n7 n8 n9 n10 n11 c6 f0 f1
 go_wp2_with fail
 refine Hmk.out.mono ?_
 rintro e w2 ⟨rfl, hE2, hb12⟩
 have hb2 := Hb.out.trans hb12
 have hB2 := hE2.blk
 have m0 := node_cell hB2 rfl 0 (u := .int .u8 1) (by show some (Value.int .u8 x.op) = _; rw [Hop.out])
 have m2 := node_cell hB2 rfl 2 (u := .int .i64 (d : Nat)) (by show some (Value.int .i64 x.d) = _; rw [Hd.out])
 have m8 := node_cell hB2 rfl 8 (u := .int .u64 x.imm) rfl
 obtain ⟨rd, hrdd⟩ : ∃ rd, regOf d 13 = rd := ⟨_, rfl⟩
 have hwr := write_em X.fp d w2
 rw [hrdd] at hwr
 obtain ⟨f0, _⟩ := hE2.fn
 have hnum := number_em hE2.drew rd x.imm himm (by rw [sz_mark]; omega)
 obtain ⟨HE2, Hb12, Hb2, HB2, Hwr, Hnum, Hrdd, Himm⟩ := hd8 hE2 hb12 hb2 hB2 hwr hnum hrdd himm
 clear himm hrdd hnum hwr hB2 hb2 hb12 hE2
 go_wp2_with fail
 refine Hwr.out.mono ?_
 rintro e w2' ⟨rfl, rfl⟩
 go_upto_region 6 with fail
 refine wp_region_late (S := fun W => W.cell? ⟨X.fp, 0, none⟩ = some (.pointer (some ⟨X.ep, 0, none⟩)) ∧ W.cell? ⟨N, 8, none⟩ = some (.int .u64 x.imm)) #[false, false, false, false, false, false, false, true] (by kernel_rfl) ⟨f0, m8⟩ (fun hHeld => ?_)
 refine wpAnyL_tk 0 ?_
 refine wpAnyL_tk 1 ?_
 refine wpAnyL_tk 2 ?_
 refine wpAnyL_tk 3 ?_
 refine wpAnyL_tk 4 ?_
 refine wpAnyL_tk 5 ?_
 refine wpAnyL_tk 6 ?_
 refine wpAnyL_ready (rs := [7]) (by kernel_rfl) (by simp) ?_
 refine AllReadyL.last rfl (by kernel_rfl) (fun K hK => ?_) AllReadyL.nil
 go_simp
 refine Hnum.out.mono ?_
 rintro e w4 ⟨rfl, hE5, hb24⟩
 refine hK.out _ _ ?_
 clear hK K
 try simp only [Act.put, List.getElem_toArray, List.getElem_cons_zero, List.getElem_cons_succ, List.setIfInBounds_toArray, List.set_cons_zero, List.set_cons_succ]
 refine wpAnyL_done (by kernel_rfl) ?_ _
 have hb4 := (Hb2.out.drew).trans hb24
 have hdn2 := done_em hE5 d rd hdn (by have := sz_number (E.mark i) rd x.imm; rw [sz_mark] at this; omega) (by omega)
 have q2 := node_cell hE5.blk rfl 2 (u := .int .i64 (d : Nat)) (by show some (Value.int .i64 x.d) = _; rw [Hd.out])
 clear f0 m0 m2 m8 hHeld
 obtain ⟨HE5, Hb24, Hb4, Hdn2⟩ := hd4 hE5 hb24 hb4 hdn2
 clear hdn2 hb4 hb24 hE5
 go_wp2_with fail
 refine Hdn2.out.mono ?_
 rintro e w3 ⟨rfl, hE3, hb23⟩
 have hfin := Hb4.out.trans hb23
 rw [← Hrdd.out] at hE3
 have hE4 := hE3.drop
 rw [HR.out] at hE4
 obtain ⟨HE3, Hb23, Hfin, HE4⟩ := hd4 hE3 hb23 hfin hE4
 clear hE4 hfin hb23 hE3
 go_wp2_with fail
 go_end0
 exact ⟨rfl, HE4.out, Hfin.out⟩
theorem node_get {gb go i : Nat} {g : GraphD} {x : NodeD} (h : EmAt w base X E rest) (hga : X.ga = ⟨gb, (go : Nat), none⟩) (hG : GrF w base gb go g) (hx : g.nodes[i]? = some x) (hop : x.op = 4) (d k : Nat) (hd : x.d = (d : Int)) (hkc : x.cell = (k : Int)) (hdn : d < 16 + X.ns) (hkn : k < X.nc) (hnc : X.nc ≤ 1048576)
  (hns : X.ns ≤ 1048560) (hi : i < 1048576) (hsz : E.sz + 9 ≤ 1099511627776) :
  Calls Tryd.prog 40 #[.pointer (some ⟨X.fp, 0, none⟩), .int .i64 (i : Nat)] w fun e w' => EmGot base X rest w (.tuple #[]) (((E.mark i).put [⟨4, regOf d 13, 14, 0, 8 * ((X.ns + k : Nat) : Int)⟩]).done d (regOf d 13)) e w' := by
 obtain ⟨R, hR⟩ : ∃ R, ((E.mark i).put [⟨4, regOf d 13, 14, 0, 8 * ((X.ns + k : Nat) : Int)⟩]).done d (regOf d 13) = R := ⟨_, rfl⟩
 rw [hR]
 obtain ⟨f0, f1, _⟩ := h.fn
 rw [hga] at f1
 obtain ⟨_, pv, kv, iv, nv, hgc, _, _, _, hN⟩ := hG
 have c6 := hgc 6 nv rfl
 obtain ⟨NA, nc, rfl, _, _⟩ := hN.slice
 obtain ⟨nad, cs, hna, _, _, _, ⟨av, hcs, hav⟩, z0, nj⟩ := RowsAt.at_ hN hx
 subst hna hcs
 obtain ⟨AA, aac, hava, _, _, _⟩ := hav.slice
 subst hava
 have n0 : w.cell? (nad.add (i * 12)) = some (.int .u8 x.op) := z0 _ rfl
 have n1 := nj 1 _ (by omega) rfl
 have n2 := nj 2 _ (by omega) rfl
 have n3 := nj 3 _ (by omega) rfl
 have n4 := nj 4 _ (by omega) rfl
 have n5 := nj 5 _ (by omega) rfl
 have n6 := nj 6 _ (by omega) rfl
 have n7 := nj 7 _ (by omega) rfl
 have n8 := nj 8 _ (by omega) rfl
 have n9 := nj 9 _ (by omega) rfl
 have n10 := nj 10 _ (by omega) rfl
 have n11 := nj 11 _ (by omega) rfl
 clear nj z0
 obtain ⟨nn, hnn⟩ : ∃ nn, g.nodes.length = nn := ⟨_, rfl⟩
 have hin : (i : Int) < nn := by
  have := (List.getElem?_eq_some_iff.1 hx).1
  omega
 rw [hnn] at c6
 have hbx := h.box 55 (ncells x (.slice AA x.args.length aac)).toArray
 have hb := (Below.refl base w).alloc h.size (.cells (ncells x (.slice AA x.args.length aac)).toArray 55)
 obtain ⟨N, hNN⟩ : ∃ N, N = w.heap.size := ⟨_, rfl⟩
 obtain ⟨w1, hw1⟩ : ∃ w1, w1 = w.alloc (.cells (ncells x (.slice AA x.args.length aac)).toArray 55) := ⟨_, rfl⟩
 rw [← hw1, ← hNN] at hbx
 rw [← hw1] at hb
 have hw1' : w.alloc (.cells #[.int .u8 x.op, .int .u8 x.byo, .int .i64 x.d, .int .i64 x.e, .int .i64 x.a, .int .i64 x.b, .int .i64 x.f, .int .i64 x.cell, .int .u64 x.imm, .slice AA x.args.length aac, .int .i64 x.next, .int .i64 x.els] 55) = w1 := hw1.symm
 have hmk := mark_em hbx i (by omega) (by omega)
 obtain ⟨H, Hga, Hgc, HN, Hx, Hav, Hnn, Hbx⟩ := hd8 h hga hgc hN hx hav hnn hbx
 obtain ⟨Hb, HNN, Hw1, HW1E, Hmk, HR, Hop, Hd⟩ := hd8 hb hNN hw1 hw1' hmk hR hop hd
 have Hkc := Lib.hid hkc
 clear hkc hd hop hR hmk hw1' hw1 hNN hb hbx hnn hav hx hN hgc hga h
 go_enter Tryd.func40, Tryd.ntmps40
 go_upto_region 1 with fail
 rw [HW1E.out, ← HNN.out]
 clear n0 n1 n2 n3 n4 n5 n6 n7 n8 n9 n10 n11 c6 f0 f1
 go_wp2_with fail
 refine Hmk.out.mono ?_
 rintro e w2 ⟨rfl, hE2, hb12⟩
 have hb2 := Hb.out.trans hb12
 have hB2 := hE2.blk
 have m0 := node_cell hB2 rfl 0 (u := .int .u8 4) (by show some (Value.int .u8 x.op) = _; rw [Hop.out])
 have m2 := node_cell hB2 rfl 2 (u := .int .i64 (d : Nat)) (by show some (Value.int .i64 x.d) = _; rw [Hd.out])
 have m7 := node_cell hB2 rfl 7 (u := .int .i64 (k : Nat)) (by show some (Value.int .i64 x.cell) = _; rw [Hkc.out])
 obtain ⟨rd, hrdd⟩ : ∃ rd, regOf d 13 = rd := ⟨_, rfl⟩
 have hwr := write_em X.fp d w2
 rw [hrdd] at hwr
 obtain ⟨f0, _, _, _, f4, _⟩ := hE2.fn
 obtain ⟨sd, sc, hsl, hsc⟩ := hE2.cellOff hkn
 rw [hsl] at f4
 obtain ⟨q, hq⟩ : ∃ q, X.ns + k = q := ⟨_, rfl⟩
 have hR2 := HR.out
 rw [hq, hrdd] at hR2
 rw [hq] at hsc
 have hql : q ≤ 2097152 := by omega
 have hkw8 : IntKind.i32.wrap (8 * (q : Int)) = 8 * q := by rw [IntKind.wrap_i32]; omega
 have hkX : (k : Int) < X.nc := by omega
 have hfpl := hE2.fpb.2.1
 have hNl := hB2.lt
 have hsdl : sd.block < w2.heap.size := World.block_lt_of_cell? w2 (sd.add k) hsc |> fun hh => by rw [block_of_add] at hh; exact hh
 have hput := put_em ((hE2.drew).alloc (.cells #[.int .u8 4, .int .i64 (rd : Nat), .int .i64 14, .int .i64 0, .int .i32 (8 * (q : Int))] 71)) (ms := [⟨4, rd, 14, 0, 8 * (q : Int)⟩]) (c := 1) (Reads.newS _ rfl _ _ _ _ _ rfl rfl) rfl (by rw [sz_mark]; omega)
 have hb3 := (hb2.drew).alloc hE2.drew.size (.cells #[.int .u8 4, .int .i64 (rd : Nat), .int .i64 14, .int .i64 0, .int .i32 (8 * (q : Int))] 71)
 obtain ⟨HE2, Hb12, Hb2, HB2, Hwr, Hrdd, Hsl, Hq⟩ := hd8 hE2 hb12 hb2 hB2 hwr hrdd hsl hq
 obtain ⟨HR2, Hput, Hb3⟩ := hd3 hR2 hput hb3
 clear hb3 hput hR2 hq hsl hrdd hwr hB2 hb2 hb12 hE2
 go_wp2_with fail
 refine Hwr.out.mono ?_
 rintro e w2' ⟨rfl, rfl⟩
 go_upto_region 12 with fail
 refine wp_region_late (S := fun W => W.cell? ⟨X.fp, 0, none⟩ = some (.pointer (some ⟨X.ep, 0, none⟩)) ∧ W.cell? ⟨X.fp, 4, none⟩ = some (.slice (some sd) X.nc sc) ∧ W.cell? (sd.add k) = some (.int .i64 (8 * (q : Int))) ∧ W.cell? ⟨N, 7, none⟩ = some (.int .i64 (k : Nat))) #[false, false, false, false, false, false, false, false, false, false, false, false, false, false, false, false, false, true] (by kernel_rfl) ⟨f0, f4, hsc, m7⟩ (fun hHeld => ?_)
 refine wpAnyL_tk 0 ?_
 refine wpAnyL_tk 1 ?_
 refine wpAnyL_tk 2 ?_
 refine wpAnyL_tk 3 ?_
 refine wpAnyL_tk 4 ?_
 refine wpAnyL_tk 5 ?_
 refine wpAnyL_tk 6 ?_
 refine wpAnyL_tk 7 ?_
 refine wpAnyL_tk 8 ?_
 refine wpAnyL_tk 9 ?_
 refine wpAnyL_tk 10 ?_
 refine wpAnyL_tk 11 ?_
 refine wpAnyL_tk 12 ?_
 refine wpAnyL_tk 13 ?_
 refine wpAnyL_tk 14 ?_
 refine wpAnyL_tk 15 ?_
 refine wpAnyL_ready (rs := [16]) (by kernel_rfl) (by simp) ?_
 refine AllReadyL.cons rfl (fun K hK => ?_) AllReadyL.nil
 go_simp
 refine hK.out _ _ ⟨(World.cell?_alloc_lt _ _ ⟨X.fp, 0, none⟩ hfpl).trans f0, (World.cell?_alloc_lt _ _ ⟨X.fp, 4, none⟩ hfpl).trans f4, (World.cell?_alloc_lt _ _ (sd.add k) (by rw [block_of_add]; exact hsdl)).trans hsc, (World.cell?_alloc_lt _ _ ⟨N, 7, none⟩ hNl).trans m7⟩ (fun hHeld2 => ?_)
 clear hK K hHeld
 try simp only [Act.put, List.getElem_toArray, List.getElem_cons_zero, List.getElem_cons_succ, List.setIfInBounds_toArray, List.set_cons_zero, List.set_cons_succ]
 refine wpAnyL_ready (rs := [17]) (by kernel_rfl) (by simp) ?_
 refine AllReadyL.last rfl (by kernel_rfl) (fun K hK => ?_) AllReadyL.nil
 go_simp
 refine Hput.out.mono ?_
 rintro e w4 ⟨rfl, hE5, hb24⟩
 refine hK.out _ _ ?_
 clear hK K
 try simp only [Act.put, List.getElem_toArray, List.getElem_cons_zero, List.getElem_cons_succ, List.setIfInBounds_toArray, List.set_cons_zero, List.set_cons_succ]
 refine wpAnyL_done (by kernel_rfl) ?_ _
 have hb4 := Hb3.out.trans hb24
 have hdn2 := done_em hE5 d rd hdn (by rw [sz_put, sz_mark]; simp only [List.length_singleton]; omega) (by omega)
 have q2 := node_cell hE5.blk rfl 2 (u := .int .i64 (d : Nat)) (by show some (Value.int .i64 x.d) = _; rw [Hd.out])
 clear f0 f4 hsc m0 m2 m7 hHeld2
 obtain ⟨HE5, Hb24, Hb4, Hdn2⟩ := hd4 hE5 hb24 hb4 hdn2
 clear hdn2 hb4 hb24 hE5
 go_wp2_with fail
 refine Hdn2.out.mono ?_
 rintro e w3 ⟨rfl, hE3, hb23⟩
 have hfin := Hb4.out.trans hb23
 have hE4 := hE3.drop
 rw [HR2.out] at hE4
 obtain ⟨HE3, Hb23, Hfin, HE4⟩ := hd4 hE3 hb23 hfin hE4
 clear hE4 hfin hb23 hE3
 go_wp2_with fail
 go_end0
 exact ⟨rfl, HE4.out, Hfin.out⟩
theorem node_addr {gb go i : Nat} {g : GraphD} {x : NodeD} (h : EmAt w base X E rest) (hga : X.ga = ⟨gb, (go : Nat), none⟩) (hG : GrF w base gb go g) (hx : g.nodes[i]? = some x) (hop : x.op = 6) (d k : Nat) (hd : x.d = (d : Int)) (hkc : x.cell = (k : Int)) (hdn : d < 16 + X.ns) (hkn : k < X.nc) (hnc : X.nc ≤ 1048576)
  (hns : X.ns ≤ 1048560) (hi : i < 1048576) (hsz : E.sz + 9 ≤ 1099511627776) :
  Calls Tryd.prog 40 #[.pointer (some ⟨X.fp, 0, none⟩), .int .i64 (i : Nat)] w fun e w' => EmGot base X rest w (.tuple #[]) (((E.mark i).put [⟨6, regOf d 13, 14, 0, 8 * ((X.ns + k : Nat) : Int)⟩]).done d (regOf d 13)) e w' := by
 obtain ⟨R, hR⟩ : ∃ R, ((E.mark i).put [⟨6, regOf d 13, 14, 0, 8 * ((X.ns + k : Nat) : Int)⟩]).done d (regOf d 13) = R := ⟨_, rfl⟩
 rw [hR]
 obtain ⟨f0, f1, _⟩ := h.fn
 rw [hga] at f1
 obtain ⟨_, pv, kv, iv, nv, hgc, _, _, _, hN⟩ := hG
 have c6 := hgc 6 nv rfl
 obtain ⟨NA, nc, rfl, _, _⟩ := hN.slice
 obtain ⟨nad, cs, hna, _, _, _, ⟨av, hcs, hav⟩, z0, nj⟩ := RowsAt.at_ hN hx
 subst hna hcs
 obtain ⟨AA, aac, hava, _, _, _⟩ := hav.slice
 subst hava
 have n0 : w.cell? (nad.add (i * 12)) = some (.int .u8 x.op) := z0 _ rfl
 have n1 := nj 1 _ (by omega) rfl
 have n2 := nj 2 _ (by omega) rfl
 have n3 := nj 3 _ (by omega) rfl
 have n4 := nj 4 _ (by omega) rfl
 have n5 := nj 5 _ (by omega) rfl
 have n6 := nj 6 _ (by omega) rfl
 have n7 := nj 7 _ (by omega) rfl
 have n8 := nj 8 _ (by omega) rfl
 have n9 := nj 9 _ (by omega) rfl
 have n10 := nj 10 _ (by omega) rfl
 have n11 := nj 11 _ (by omega) rfl
 clear nj z0
 obtain ⟨nn, hnn⟩ : ∃ nn, g.nodes.length = nn := ⟨_, rfl⟩
 have hin : (i : Int) < nn := by
  have := (List.getElem?_eq_some_iff.1 hx).1
  omega
 rw [hnn] at c6
 have hbx := h.box 55 (ncells x (.slice AA x.args.length aac)).toArray
 have hb := (Below.refl base w).alloc h.size (.cells (ncells x (.slice AA x.args.length aac)).toArray 55)
 obtain ⟨N, hNN⟩ : ∃ N, N = w.heap.size := ⟨_, rfl⟩
 obtain ⟨w1, hw1⟩ : ∃ w1, w1 = w.alloc (.cells (ncells x (.slice AA x.args.length aac)).toArray 55) := ⟨_, rfl⟩
 rw [← hw1, ← hNN] at hbx
 rw [← hw1] at hb
 have hw1' : w.alloc (.cells #[.int .u8 x.op, .int .u8 x.byo, .int .i64 x.d, .int .i64 x.e, .int .i64 x.a, .int .i64 x.b, .int .i64 x.f, .int .i64 x.cell, .int .u64 x.imm, .slice AA x.args.length aac, .int .i64 x.next, .int .i64 x.els] 55) = w1 := hw1.symm
 have hmk := mark_em hbx i (by omega) (by omega)
 obtain ⟨H, Hga, Hgc, HN, Hx, Hav, Hnn, Hbx⟩ := hd8 h hga hgc hN hx hav hnn hbx
 obtain ⟨Hb, HNN, Hw1, HW1E, Hmk, HR, Hop, Hd⟩ := hd8 hb hNN hw1 hw1' hmk hR hop hd
 have Hkc := Lib.hid hkc
 clear hkc hd hop hR hmk hw1' hw1 hNN hb hbx hnn hav hx hN hgc hga h
 go_enter Tryd.func40, Tryd.ntmps40
 go_upto_region 1 with fail
 rw [HW1E.out, ← HNN.out]
 clear n0 n1 n2 n3 n4 n5 n6 n7 n8 n9 n10 n11 c6 f0 f1
 go_wp2_with fail
 refine Hmk.out.mono ?_
 rintro e w2 ⟨rfl, hE2, hb12⟩
 have hb2 := Hb.out.trans hb12
 have hB2 := hE2.blk
 have m0 := node_cell hB2 rfl 0 (u := .int .u8 6) (by show some (Value.int .u8 x.op) = _; rw [Hop.out])
 have m2 := node_cell hB2 rfl 2 (u := .int .i64 (d : Nat)) (by show some (Value.int .i64 x.d) = _; rw [Hd.out])
 have m7 := node_cell hB2 rfl 7 (u := .int .i64 (k : Nat)) (by show some (Value.int .i64 x.cell) = _; rw [Hkc.out])
 obtain ⟨rd, hrdd⟩ : ∃ rd, regOf d 13 = rd := ⟨_, rfl⟩
 have hwr := write_em X.fp d w2
 rw [hrdd] at hwr
 obtain ⟨f0, _, _, _, f4, _⟩ := hE2.fn
 obtain ⟨sd, sc, hsl, hsc⟩ := hE2.cellOff hkn
 rw [hsl] at f4
 obtain ⟨q, hq⟩ : ∃ q, X.ns + k = q := ⟨_, rfl⟩
 have hR2 := HR.out
 rw [hq, hrdd] at hR2
 rw [hq] at hsc
 have hql : q ≤ 2097152 := by omega
 have hkw8 : IntKind.i32.wrap (8 * (q : Int)) = 8 * q := by rw [IntKind.wrap_i32]; omega
 have hkX : (k : Int) < X.nc := by omega
 have hfpl := hE2.fpb.2.1
 have hNl := hB2.lt
 have hsdl : sd.block < w2.heap.size := World.block_lt_of_cell? w2 (sd.add k) hsc |> fun hh => by rw [block_of_add] at hh; exact hh
 have hput := put_em ((hE2.drew).alloc (.cells #[.int .u8 6, .int .i64 (rd : Nat), .int .i64 14, .int .i64 0, .int .i32 (8 * (q : Int))] 71)) (ms := [⟨6, rd, 14, 0, 8 * (q : Int)⟩]) (c := 1) (Reads.newS _ rfl _ _ _ _ _ rfl rfl) rfl (by rw [sz_mark]; omega)
 have hb3 := (hb2.drew).alloc hE2.drew.size (.cells #[.int .u8 6, .int .i64 (rd : Nat), .int .i64 14, .int .i64 0, .int .i32 (8 * (q : Int))] 71)
 obtain ⟨HE2, Hb12, Hb2, HB2, Hwr, Hrdd, Hsl, Hq⟩ := hd8 hE2 hb12 hb2 hB2 hwr hrdd hsl hq
 obtain ⟨HR2, Hput, Hb3⟩ := hd3 hR2 hput hb3
 clear hb3 hput hR2 hq hsl hrdd hwr hB2 hb2 hb12 hE2
 go_wp2_with fail
 refine Hwr.out.mono ?_
 rintro e w2' ⟨rfl, rfl⟩
 go_upto_region 18 with fail
 refine wp_region_late (S := fun W => W.cell? ⟨X.fp, 0, none⟩ = some (.pointer (some ⟨X.ep, 0, none⟩)) ∧ W.cell? ⟨X.fp, 4, none⟩ = some (.slice (some sd) X.nc sc) ∧ W.cell? (sd.add k) = some (.int .i64 (8 * (q : Int))) ∧ W.cell? ⟨N, 7, none⟩ = some (.int .i64 (k : Nat))) #[false, false, false, false, false, false, false, false, false, false, false, false, false, false, false, false, false, true] (by kernel_rfl) ⟨f0, f4, hsc, m7⟩ (fun hHeld => ?_)
 refine wpAnyL_tk 0 ?_
 refine wpAnyL_tk 1 ?_
 refine wpAnyL_tk 2 ?_
 refine wpAnyL_tk 3 ?_
 refine wpAnyL_tk 4 ?_
 refine wpAnyL_tk 5 ?_
 refine wpAnyL_tk 6 ?_
 refine wpAnyL_tk 7 ?_
 refine wpAnyL_tk 8 ?_
 refine wpAnyL_tk 9 ?_
 refine wpAnyL_tk 10 ?_
 refine wpAnyL_tk 11 ?_
 refine wpAnyL_tk 12 ?_
 refine wpAnyL_tk 13 ?_
 refine wpAnyL_tk 14 ?_
 refine wpAnyL_tk 15 ?_
 refine wpAnyL_ready (rs := [16]) (by kernel_rfl) (by simp) ?_
 refine AllReadyL.cons rfl (fun K hK => ?_) AllReadyL.nil
 go_simp
 refine hK.out _ _ ⟨(World.cell?_alloc_lt _ _ ⟨X.fp, 0, none⟩ hfpl).trans f0, (World.cell?_alloc_lt _ _ ⟨X.fp, 4, none⟩ hfpl).trans f4, (World.cell?_alloc_lt _ _ (sd.add k) (by rw [block_of_add]; exact hsdl)).trans hsc, (World.cell?_alloc_lt _ _ ⟨N, 7, none⟩ hNl).trans m7⟩ (fun hHeld2 => ?_)
 clear hK K hHeld
 try simp only [Act.put, List.getElem_toArray, List.getElem_cons_zero, List.getElem_cons_succ, List.setIfInBounds_toArray, List.set_cons_zero, List.set_cons_succ]
 refine wpAnyL_ready (rs := [17]) (by kernel_rfl) (by simp) ?_
 refine AllReadyL.last rfl (by kernel_rfl) (fun K hK => ?_) AllReadyL.nil
 go_simp
 refine Hput.out.mono ?_
 rintro e w4 ⟨rfl, hE5, hb24⟩
 refine hK.out _ _ ?_
 clear hK K
 try simp only [Act.put, List.getElem_toArray, List.getElem_cons_zero, List.getElem_cons_succ, List.setIfInBounds_toArray, List.set_cons_zero, List.set_cons_succ]
 refine wpAnyL_done (by kernel_rfl) ?_ _
 have hb4 := Hb3.out.trans hb24
 have hdn2 := done_em hE5 d rd hdn (by rw [sz_put, sz_mark]; simp only [List.length_singleton]; omega) (by omega)
 have q2 := node_cell hE5.blk rfl 2 (u := .int .i64 (d : Nat)) (by show some (Value.int .i64 x.d) = _; rw [Hd.out])
 clear f0 f4 hsc m0 m2 m7 hHeld2
 obtain ⟨HE5, Hb24, Hb4, Hdn2⟩ := hd4 hE5 hb24 hb4 hdn2
 clear hdn2 hb4 hb24 hE5
 go_wp2_with fail
 refine Hdn2.out.mono ?_
 rintro e w3 ⟨rfl, hE3, hb23⟩
 have hfin := Hb4.out.trans hb23
 have hE4 := hE3.drop
 rw [HR2.out] at hE4
 obtain ⟨HE3, Hb23, Hfin, HE4⟩ := hd4 hE3 hb23 hfin hE4
 clear hE4 hfin hb23 hE3
 go_wp2_with fail
 go_end0
 exact ⟨rfl, HE4.out, Hfin.out⟩
end
end Go.Proofs.YtnfjjliiajaijaaDoor
namespace Go.Proofs.YtnfjjliiajaijaaDoor
open Go.RowKit
section
variable {w : World} {base : Nat} {X : EmX} {E : EmS} {rest : List It}
theorem node_branch {gb go i : Nat} {g : GraphD} {x : NodeD} (h : EmAt w base X E rest) (hga : X.ga = ⟨gb, (go : Nat), none⟩) (hG : GrF w base gb go g) (hx : g.nodes[i]? = some x) (hop : x.op = 9) (a t : Nat) (ha : x.a = (a : Int)) (ht : x.els = (t : Int)) (htl : t < 1048576) (han : a < 16 + X.ns)
  (hns : X.ns ≤ 1048560) (hi : i < 1048576) (hsz : E.sz + 9 ≤ 1099511627776) :
  Calls Tryd.prog 40 #[.pointer (some ⟨X.fp, 0, none⟩), .int .i64 (i : Nat)] w fun e w' => EmGot base X rest w (.tuple #[]) (((E.mark i).read a 13).jump 8 (regOf a 13) t) e w' := by
 obtain ⟨R, hR⟩ : ∃ R, ((E.mark i).read a 13).jump 8 (regOf a 13) t = R := ⟨_, rfl⟩
 rw [hR]
 obtain ⟨f0, f1, _⟩ := h.fn
 rw [hga] at f1
 obtain ⟨_, pv, kv, iv, nv, hgc, _, _, _, hN⟩ := hG
 have c6 := hgc 6 nv rfl
 obtain ⟨NA, nc, rfl, _, _⟩ := hN.slice
 obtain ⟨nad, cs, hna, _, _, _, ⟨av, hcs, hav⟩, z0, nj⟩ := RowsAt.at_ hN hx
 subst hna hcs
 obtain ⟨AA, aac, hava, _, _, _⟩ := hav.slice
 subst hava
 have n0 : w.cell? (nad.add (i * 12)) = some (.int .u8 x.op) := z0 _ rfl
 have n1 := nj 1 _ (by omega) rfl
 have n2 := nj 2 _ (by omega) rfl
 have n3 := nj 3 _ (by omega) rfl
 have n4 := nj 4 _ (by omega) rfl
 have n5 := nj 5 _ (by omega) rfl
 have n6 := nj 6 _ (by omega) rfl
 have n7 := nj 7 _ (by omega) rfl
 have n8 := nj 8 _ (by omega) rfl
 have n9 := nj 9 _ (by omega) rfl
 have n10 := nj 10 _ (by omega) rfl
 have n11 := nj 11 _ (by omega) rfl
 clear nj z0
 obtain ⟨nn, hnn⟩ : ∃ nn, g.nodes.length = nn := ⟨_, rfl⟩
 have hin : (i : Int) < nn := by
  have := (List.getElem?_eq_some_iff.1 hx).1
  omega
 rw [hnn] at c6
 have hbx := h.box 55 (ncells x (.slice AA x.args.length aac)).toArray
 have hb := (Below.refl base w).alloc h.size (.cells (ncells x (.slice AA x.args.length aac)).toArray 55)
 obtain ⟨N, hNN⟩ : ∃ N, N = w.heap.size := ⟨_, rfl⟩
 obtain ⟨w1, hw1⟩ : ∃ w1, w1 = w.alloc (.cells (ncells x (.slice AA x.args.length aac)).toArray 55) := ⟨_, rfl⟩
 rw [← hw1, ← hNN] at hbx
 rw [← hw1] at hb
 have hw1' : w.alloc (.cells #[.int .u8 x.op, .int .u8 x.byo, .int .i64 x.d, .int .i64 x.e, .int .i64 x.a, .int .i64 x.b, .int .i64 x.f, .int .i64 x.cell, .int .u64 x.imm, .slice AA x.args.length aac, .int .i64 x.next, .int .i64 x.els] 55) = w1 := hw1.symm
 have hmk := mark_em hbx i (by omega) (by omega)
 obtain ⟨H, Hga, Hgc, HN, Hx, Hav, Hnn, Hbx⟩ := hd8 h hga hgc hN hx hav hnn hbx
 obtain ⟨Hb, HNN, Hw1, HW1E, Hmk, HR, Hop, Ha⟩ := hd8 hb hNN hw1 hw1' hmk hR hop ha
 have Ht := Lib.hid ht
 clear ht ha hop hR hmk hw1' hw1 hNN hb hbx hnn hav hx hN hgc hga h
 go_enter Tryd.func40, Tryd.ntmps40
 go_upto_region 1 with fail
 rw [HW1E.out, ← HNN.out]
 clear n0 n1 n2 n3 n4 n5 n6 n7 n8 n9 n10 n11 c6 f0 f1
 go_wp2_with fail
 refine Hmk.out.mono ?_
 rintro e w2 ⟨rfl, hE2, hb12⟩
 have hb2 := Hb.out.trans hb12
 have hB2 := hE2.blk
 have m0 := node_cell hB2 rfl 0 (u := .int .u8 9) (by show some (Value.int .u8 x.op) = _; rw [Hop.out])
 have m4 := node_cell hB2 rfl 4 (u := .int .i64 (a : Nat)) (by show some (Value.int .i64 x.a) = _; rw [Ha.out])
 have m11 := node_cell hB2 rfl 11 (u := .int .i64 (t : Nat)) (by show some (Value.int .i64 x.els) = _; rw [Ht.out])
 obtain ⟨ra, hraa⟩ : ∃ ra, regOf a 13 = ra := ⟨_, rfl⟩
 have hR2 := HR.out
 rw [hraa] at hR2
 have hra16 : ra < 16 := by rw [← hraa]; exact regOf_lt (by omega) (by omega)
 have hrd := read_em hE2.drew a 13 han (by rw [sz_mark]; omega) (by omega)
 rw [hraa] at hrd
 obtain ⟨HE2, Hb12, Hb2, HB2, Hraa, HR2, Hrd⟩ := hd7 hE2 hb12 hb2 hB2 hraa hR2 hrd
 clear hrd hR2 hraa hB2 hb2 hb12 hE2
 go_upto_region 26 with fail
 refine wp_region_late (S := fun W => W.cell? ⟨N, 4, none⟩ = some (.int .i64 (a : Nat)) ∧ W.cell? ⟨N, 11, none⟩ = some (.int .i64 (t : Nat))) #[false, false, false, false, false, false, false, true] (by kernel_rfl) ⟨m4, m11⟩ (fun hHeld => ?_)
 refine wpAnyL_tk 0 ?_
 refine wpAnyL_tk 1 ?_
 refine wpAnyL_tk 2 ?_
 refine wpAnyL_tk 3 ?_
 refine wpAnyL_tk 5 ?_
 refine wpAnyL_tk 6 ?_
 refine wpAnyL_ready (rs := [4]) (by kernel_rfl) (by simp) ?_
 refine AllReadyL.cons rfl (fun K hK => ?_) AllReadyL.nil
 go_simp
 refine Hrd.out.mono ?_
 rintro e w4 ⟨rfl, hE5, hb24⟩
 have k4 := node_cell hE5.blk rfl 4 (u := .int .i64 (a : Nat)) (by show some (Value.int .i64 x.a) = _; rw [Ha.out])
 have k11 := node_cell hE5.blk rfl 11 (u := .int .i64 (t : Nat)) (by show some (Value.int .i64 x.els) = _; rw [Ht.out])
 have hj := jump_em hE5 8 ra t (by omega) (by omega) (by have := sz_read (E.mark i) a 13; rw [sz_mark] at this; omega)
 have hb4 := (Hb2.out.drew).trans hb24
 refine hK.out _ _ ⟨k4, k11⟩ (fun hHeld2 => ?_)
 clear hK K hHeld
 obtain ⟨HE5, Hb24, Hb4, Hj⟩ := hd4 hE5 hb24 hb4 hj
 clear hj hb4 hb24 hE5
 try simp only [Act.put, List.getElem_toArray, List.getElem_cons_zero, List.getElem_cons_succ, List.setIfInBounds_toArray, List.set_cons_zero, List.set_cons_succ]
 refine wpAnyL_ready (rs := [7]) (by kernel_rfl) (by simp) ?_
 refine AllReadyL.last rfl (by kernel_rfl) (fun K hK => ?_) AllReadyL.nil
 go_simp
 refine Hj.out.mono ?_
 rintro e w3 ⟨rfl, hE3, hb23⟩
 refine hK.out _ _ ?_
 clear hK K
 try simp only [Act.put, List.getElem_toArray, List.getElem_cons_zero, List.getElem_cons_succ, List.setIfInBounds_toArray, List.set_cons_zero, List.set_cons_succ]
 refine wpAnyL_done (by kernel_rfl) ?_ _
 have hfin := Hb4.out.trans hb23
 clear m0 m4 m11 k4 k11 hHeld2
 have hE4 := hE3.drop
 rw [HR2.out] at hE4
 obtain ⟨HE3, Hb23, Hfin, HE4⟩ := hd4 hE3 hb23 hfin hE4
 clear hE4 hfin hb23 hE3
 go_wp2_with fail
 go_end0
 exact ⟨rfl, HE4.out, Hfin.out⟩
theorem node_set {gb go i : Nat} {g : GraphD} {x : NodeD} (h : EmAt w base X E rest) (hga : X.ga = ⟨gb, (go : Nat), none⟩) (hG : GrF w base gb go g) (hx : g.nodes[i]? = some x) (hop : x.op = 5) (a k : Nat) (ha : x.a = (a : Int)) (hkc : x.cell = (k : Int)) (han : a < 16 + X.ns) (hkn : k < X.nc) (hnc : X.nc ≤ 1048576)
  (hns : X.ns ≤ 1048560) (hi : i < 1048576) (hsz : E.sz + 9 ≤ 1099511627776) :
  Calls Tryd.prog 40 #[.pointer (some ⟨X.fp, 0, none⟩), .int .i64 (i : Nat)] w fun e w' => EmGot base X rest w (.tuple #[]) (((E.mark i).read a 13).store (8 * ((X.ns + k : Nat) : Int)) (regOf a 13)) e w' := by
 obtain ⟨R, hR⟩ : ∃ R, ((E.mark i).read a 13).store (8 * ((X.ns + k : Nat) : Int)) (regOf a 13) = R := ⟨_, rfl⟩
 rw [hR]
 obtain ⟨f0, f1, _⟩ := h.fn
 rw [hga] at f1
 obtain ⟨_, pv, kv, iv, nv, hgc, _, _, _, hN⟩ := hG
 have c6 := hgc 6 nv rfl
 obtain ⟨NA, nc, rfl, _, _⟩ := hN.slice
 obtain ⟨nad, cs, hna, _, _, _, ⟨av, hcs, hav⟩, z0, nj⟩ := RowsAt.at_ hN hx
 subst hna hcs
 obtain ⟨AA, aac, hava, _, _, _⟩ := hav.slice
 subst hava
 have n0 : w.cell? (nad.add (i * 12)) = some (.int .u8 x.op) := z0 _ rfl
 have n1 := nj 1 _ (by omega) rfl
 have n2 := nj 2 _ (by omega) rfl
 have n3 := nj 3 _ (by omega) rfl
 have n4 := nj 4 _ (by omega) rfl
 have n5 := nj 5 _ (by omega) rfl
 have n6 := nj 6 _ (by omega) rfl
 have n7 := nj 7 _ (by omega) rfl
 have n8 := nj 8 _ (by omega) rfl
 have n9 := nj 9 _ (by omega) rfl
 have n10 := nj 10 _ (by omega) rfl
 have n11 := nj 11 _ (by omega) rfl
 clear nj z0
 obtain ⟨nn, hnn⟩ : ∃ nn, g.nodes.length = nn := ⟨_, rfl⟩
 have hin : (i : Int) < nn := by
  have := (List.getElem?_eq_some_iff.1 hx).1
  omega
 rw [hnn] at c6
 have hbx := h.box 55 (ncells x (.slice AA x.args.length aac)).toArray
 have hb := (Below.refl base w).alloc h.size (.cells (ncells x (.slice AA x.args.length aac)).toArray 55)
 obtain ⟨N, hNN⟩ : ∃ N, N = w.heap.size := ⟨_, rfl⟩
 obtain ⟨w1, hw1⟩ : ∃ w1, w1 = w.alloc (.cells (ncells x (.slice AA x.args.length aac)).toArray 55) := ⟨_, rfl⟩
 rw [← hw1, ← hNN] at hbx
 rw [← hw1] at hb
 have hw1' : w.alloc (.cells #[.int .u8 x.op, .int .u8 x.byo, .int .i64 x.d, .int .i64 x.e, .int .i64 x.a, .int .i64 x.b, .int .i64 x.f, .int .i64 x.cell, .int .u64 x.imm, .slice AA x.args.length aac, .int .i64 x.next, .int .i64 x.els] 55) = w1 := hw1.symm
 have hmk := mark_em hbx i (by omega) (by omega)
 obtain ⟨H, Hga, Hgc, HN, Hx, Hav, Hnn, Hbx⟩ := hd8 h hga hgc hN hx hav hnn hbx
 obtain ⟨Hb, HNN, Hw1, HW1E, Hmk, HR, Hop, Ha⟩ := hd8 hb hNN hw1 hw1' hmk hR hop ha
 have Hkc := Lib.hid hkc
 clear hkc ha hop hR hmk hw1' hw1 hNN hb hbx hnn hav hx hN hgc hga h
 go_enter Tryd.func40, Tryd.ntmps40
 go_upto_region 1 with fail
 rw [HW1E.out, ← HNN.out]
 clear n0 n1 n2 n3 n4 n5 n6 n7 n8 n9 n10 n11 c6 f0 f1
 go_wp2_with fail
 refine Hmk.out.mono ?_
 rintro e w2 ⟨rfl, hE2, hb12⟩
 have hb2 := Hb.out.trans hb12
 have hB2 := hE2.blk
 have m0 := node_cell hB2 rfl 0 (u := .int .u8 5) (by show some (Value.int .u8 x.op) = _; rw [Hop.out])
 have m4 := node_cell hB2 rfl 4 (u := .int .i64 (a : Nat)) (by show some (Value.int .i64 x.a) = _; rw [Ha.out])
 have m7 := node_cell hB2 rfl 7 (u := .int .i64 (k : Nat)) (by show some (Value.int .i64 x.cell) = _; rw [Hkc.out])
 obtain ⟨ra, hraa⟩ : ∃ ra, regOf a 13 = ra := ⟨_, rfl⟩
 have hR2 := HR.out
 rw [hraa] at hR2
 have hra16 : ra < 16 := by rw [← hraa]; exact regOf_lt (by omega) (by omega)
 have hrd := read_em hE2.drew a 13 han (by rw [sz_mark]; omega) (by omega)
 rw [hraa] at hrd
 obtain ⟨_, _, _, _, f4, _⟩ := hE2.fn
 obtain ⟨sd, sc, hsl, hsc⟩ := hE2.cellOff hkn
 rw [hsl] at f4
 obtain ⟨q, hq⟩ : ∃ q, X.ns + k = q := ⟨_, rfl⟩
 rw [hq] at hR2 hsc
 have hkX : (k : Int) < X.nc := by omega
 obtain ⟨HE2, Hb12, Hb2, HB2, Hraa, HR2, Hrd, Hsl⟩ := hd8 hE2 hb12 hb2 hB2 hraa hR2 hrd hsl
 have Hq := Lib.hid hq
 clear hq hsl hrd hR2 hraa hB2 hb2 hb12 hE2
 go_upto_region 15 with fail
 refine wp_region_late (S := fun W => W.cell? ⟨X.fp, 4, none⟩ = some (.slice (some sd) X.nc sc) ∧ W.cell? (sd.add k) = some (.int .i64 (8 * (q : Int))) ∧ W.cell? ⟨N, 7, none⟩ = some (.int .i64 (k : Nat)) ∧ W.cell? ⟨N, 4, none⟩ = some (.int .i64 (a : Nat))) #[false, false, false, false, false, false, false, false, false, false, false, false, false, false, true] (by kernel_rfl) ⟨f4, hsc, m7, m4⟩ (fun hHeld => ?_)
 refine wpAnyL_tk 0 ?_
 refine wpAnyL_tk 1 ?_
 refine wpAnyL_tk 2 ?_
 refine wpAnyL_tk 3 ?_
 refine wpAnyL_tk 4 ?_
 refine wpAnyL_tk 5 ?_
 refine wpAnyL_tk 6 ?_
 refine wpAnyL_tk 7 ?_
 refine wpAnyL_tk 8 ?_
 refine wpAnyL_tk 9 ?_
 refine wpAnyL_tk 10 ?_
 refine wpAnyL_tk 11 ?_
 refine wpAnyL_tk 12 ?_
 refine wpAnyL_ready (rs := [13]) (by kernel_rfl) (by simp) ?_
 refine AllReadyL.cons rfl (fun K hK => ?_) AllReadyL.nil
 go_simp
 refine Hrd.out.mono ?_
 rintro e w4 ⟨rfl, hE5, hb24⟩
 have k4 := node_cell hE5.blk rfl 4 (u := .int .i64 (a : Nat)) (by show some (Value.int .i64 x.a) = _; rw [Ha.out])
 have k7 := node_cell hE5.blk rfl 7 (u := .int .i64 (k : Nat)) (by show some (Value.int .i64 x.cell) = _; rw [Hkc.out])
 obtain ⟨_, _, _, _, y4, _⟩ := hE5.fn
 rw [Hsl.out] at y4
 obtain ⟨sd', sc', hsl', hsc'⟩ := hE5.cellOff (k := k) hkn
 rw [Hsl.out] at hsl'
 injection hsl' with h1 _ h2
 injection h1 with h1
 subst h1
 subst h2
 rw [Hq.out] at hsc'
 have hst := store_em hE5 (8 * (q : Int)) ra (by have := sz_read (E.mark i) a 13; rw [sz_mark] at this; omega)
 have hb4 := (Hb2.out.drew).trans hb24
 refine hK.out _ _ ⟨y4, hsc', k7, k4⟩ (fun hHeld2 => ?_)
 clear hK K hHeld
 obtain ⟨HE5, Hb24, Hb4, Hst⟩ := hd4 hE5 hb24 hb4 hst
 clear hst hb4 hb24 hE5
 try simp only [Act.put, List.getElem_toArray, List.getElem_cons_zero, List.getElem_cons_succ, List.setIfInBounds_toArray, List.set_cons_zero, List.set_cons_succ]
 refine wpAnyL_ready (rs := [14]) (by kernel_rfl) (by simp) ?_
 refine AllReadyL.last rfl (by kernel_rfl) (fun K hK => ?_) AllReadyL.nil
 go_simp
 refine Hst.out.mono ?_
 rintro e w3 ⟨rfl, hE3, hb23⟩
 refine hK.out _ _ ?_
 clear hK K
 try simp only [Act.put, List.getElem_toArray, List.getElem_cons_zero, List.getElem_cons_succ, List.setIfInBounds_toArray, List.set_cons_zero, List.set_cons_succ]
 refine wpAnyL_done (by kernel_rfl) ?_ _
 have hfin := Hb4.out.trans hb23
 clear m0 m4 m7 k4 k7 f4 hsc y4 hsc' hHeld2
 have hE4 := hE3.drop
 rw [HR2.out] at hE4
 obtain ⟨HE3, Hb23, Hfin, HE4⟩ := hd4 hE3 hb23 hfin hE4
 clear hE4 hfin hb23 hE3
 go_wp2_with fail
 go_end0
 exact ⟨rfl, HE4.out, Hfin.out⟩
theorem node_ret {gb go i : Nat} {g : GraphD} {x : NodeD} (h : EmAt w base X E rest) (hga : X.ga = ⟨gb, (go : Nat), none⟩) (hG : GrF w base gb go g) (hx : g.nodes[i]? = some x) (hop : x.op = 12) (a : Nat) (ha : x.a = (a : Int)) (han : a < 16 + X.ns)
  (hns : X.ns ≤ 1048560) (hi : i < 1048576) (hsz : E.sz + 9 ≤ 1099511627776) :
  Calls Tryd.prog 40 #[.pointer (some ⟨X.fp, 0, none⟩), .int .i64 (i : Nat)] w fun e w' => EmGot base X rest w (.tuple #[]) ((((E.mark i).read a 13).store X.res (regOf a 13)).jump 7 0 1048576) e w' := by
 obtain ⟨R, hR⟩ : ∃ R, (((E.mark i).read a 13).store X.res (regOf a 13)).jump 7 0 1048576 = R := ⟨_, rfl⟩
 rw [hR]
 obtain ⟨f0, f1, _⟩ := h.fn
 rw [hga] at f1
 obtain ⟨_, pv, kv, iv, nv, hgc, _, _, _, hN⟩ := hG
 have c6 := hgc 6 nv rfl
 obtain ⟨NA, nc, rfl, _, _⟩ := hN.slice
 obtain ⟨nad, cs, hna, _, _, _, ⟨av, hcs, hav⟩, z0, nj⟩ := RowsAt.at_ hN hx
 subst hna hcs
 obtain ⟨AA, aac, hava, _, _, _⟩ := hav.slice
 subst hava
 have n0 : w.cell? (nad.add (i * 12)) = some (.int .u8 x.op) := z0 _ rfl
 have n1 := nj 1 _ (by omega) rfl
 have n2 := nj 2 _ (by omega) rfl
 have n3 := nj 3 _ (by omega) rfl
 have n4 := nj 4 _ (by omega) rfl
 have n5 := nj 5 _ (by omega) rfl
 have n6 := nj 6 _ (by omega) rfl
 have n7 := nj 7 _ (by omega) rfl
 have n8 := nj 8 _ (by omega) rfl
 have n9 := nj 9 _ (by omega) rfl
 have n10 := nj 10 _ (by omega) rfl
 have n11 := nj 11 _ (by omega) rfl
 clear nj z0
 obtain ⟨nn, hnn⟩ : ∃ nn, g.nodes.length = nn := ⟨_, rfl⟩
 have hin : (i : Int) < nn := by
  have := (List.getElem?_eq_some_iff.1 hx).1
  omega
 rw [hnn] at c6
 have hbx := h.box 55 (ncells x (.slice AA x.args.length aac)).toArray
 have hb := (Below.refl base w).alloc h.size (.cells (ncells x (.slice AA x.args.length aac)).toArray 55)
 obtain ⟨N, hNN⟩ : ∃ N, N = w.heap.size := ⟨_, rfl⟩
 obtain ⟨w1, hw1⟩ : ∃ w1, w1 = w.alloc (.cells (ncells x (.slice AA x.args.length aac)).toArray 55) := ⟨_, rfl⟩
 rw [← hw1, ← hNN] at hbx
 rw [← hw1] at hb
 have hw1' : w.alloc (.cells #[.int .u8 x.op, .int .u8 x.byo, .int .i64 x.d, .int .i64 x.e, .int .i64 x.a, .int .i64 x.b, .int .i64 x.f, .int .i64 x.cell, .int .u64 x.imm, .slice AA x.args.length aac, .int .i64 x.next, .int .i64 x.els] 55) = w1 := hw1.symm
 have hmk := mark_em hbx i (by omega) (by omega)
 obtain ⟨H, Hga, Hgc, HN, Hx, Hav, Hnn, Hbx⟩ := hd8 h hga hgc hN hx hav hnn hbx
 obtain ⟨Hb, HNN, Hw1, HW1E, Hmk, HR, Hop, Ha⟩ := hd8 hb hNN hw1 hw1' hmk hR hop ha
 clear ha hop hR hmk hw1' hw1 hNN hb hbx hnn hav hx hN hgc hga h
 go_enter Tryd.func40, Tryd.ntmps40
 go_upto_region 1 with fail
 rw [HW1E.out, ← HNN.out]
 clear n0 n1 n2 n3 n4 n5 n6 n7 n8 n9 n10 n11 c6 f0 f1
 go_wp2_with fail
 refine Hmk.out.mono ?_
 rintro e w2 ⟨rfl, hE2, hb12⟩
 have hb2 := Hb.out.trans hb12
 have hB2 := hE2.blk
 have m0 := node_cell hB2 rfl 0 (u := .int .u8 12) (by show some (Value.int .u8 x.op) = _; rw [Hop.out])
 have m4 := node_cell hB2 rfl 4 (u := .int .i64 (a : Nat)) (by show some (Value.int .i64 x.a) = _; rw [Ha.out])
 obtain ⟨ra, hraa⟩ : ∃ ra, regOf a 13 = ra := ⟨_, rfl⟩
 have hR2 := HR.out
 rw [hraa] at hR2
 have hra16 : ra < 16 := by rw [← hraa]; exact regOf_lt (by omega) (by omega)
 have hrd := read_em hE2.drew a 13 han (by rw [sz_mark]; omega) (by omega)
 rw [hraa] at hrd
 obtain ⟨_, _, _, _, _, _, f6, _⟩ := hE2.fn
 have ha0 : (0 : Int) ≤ a := by omega
 obtain ⟨HE2, Hb12, Hb2, HB2, Hraa, HR2, Hrd⟩ := hd7 hE2 hb12 hb2 hB2 hraa hR2 hrd
 clear hrd hR2 hraa hB2 hb2 hb12 hE2
 go_upto_region 35 with fail
 refine wp_region_late (S := fun W => W.cell? ⟨X.fp, 6, none⟩ = some (.int .i64 X.res) ∧ W.cell? ⟨N, 4, none⟩ = some (.int .i64 (a : Nat))) #[false, false, false, false, false, false, false, false, false, false, true] (by kernel_rfl) ⟨f6, m4⟩ (fun hHeld => ?_)
 refine wpAnyL_tk 0 ?_
 refine wpAnyL_tk 1 ?_
 refine wpAnyL_tk 2 ?_
 refine wpAnyL_tk 3 ?_
 refine wpAnyL_tk 4 ?_
 refine wpAnyL_tk 5 ?_
 refine wpAnyL_tk 6 ?_
 refine wpAnyL_tk 7 ?_
 refine wpAnyL_tk 8 ?_
 refine wpAnyL_ready (rs := [9]) (by kernel_rfl) (by simp) ?_
 refine AllReadyL.cons rfl (fun K hK => ?_) AllReadyL.nil
 go_simp
 refine Hrd.out.mono ?_
 rintro e w4 ⟨rfl, hE5, hb24⟩
 have k4 := node_cell hE5.blk rfl 4 (u := .int .i64 (a : Nat)) (by show some (Value.int .i64 x.a) = _; rw [Ha.out])
 obtain ⟨_, _, _, _, _, _, y6, _⟩ := hE5.fn
 have hst := store_em hE5 X.res ra (by have := sz_read (E.mark i) a 13; rw [sz_mark] at this; omega)
 have hb4 := (Hb2.out.drew).trans hb24
 refine hK.out _ _ ⟨y6, k4⟩ (fun hHeld2 => ?_)
 clear hK K hHeld
 obtain ⟨HE5, Hb24, Hb4, Hst⟩ := hd4 hE5 hb24 hb4 hst
 clear hst hb4 hb24 hE5
 try simp only [Act.put, List.getElem_toArray, List.getElem_cons_zero, List.getElem_cons_succ, List.setIfInBounds_toArray, List.set_cons_zero, List.set_cons_succ]
 refine wpAnyL_ready (rs := [10]) (by kernel_rfl) (by simp) ?_
 refine AllReadyL.last rfl (by kernel_rfl) (fun K hK => ?_) AllReadyL.nil
 go_simp
 refine Hst.out.mono ?_
 rintro e w5 ⟨rfl, hE6, hb26⟩
 refine hK.out _ _ ?_
 clear hK K
 try simp only [Act.put, List.getElem_toArray, List.getElem_cons_zero, List.getElem_cons_succ, List.setIfInBounds_toArray, List.set_cons_zero, List.set_cons_succ]
 refine wpAnyL_done (by kernel_rfl) ?_ _
 have hb5 := Hb4.out.trans hb26
 have hj := jump_em hE6 7 0 1048576 (by omega) (by omega) (by
  have e1 : (((E.mark i).read a 13).store X.res ra).sz = ((E.mark i).read a 13).sz + 1 := by unfold EmS.store; rw [sz_put]; rfl
  have := sz_read (E.mark i) a 13
  rw [sz_mark] at this
  omega)
 clear m0 m4 k4 f6 y6 hHeld2
 obtain ⟨HE6, Hb26, Hb5, Hj⟩ := hd4 hE6 hb26 hb5 hj
 clear hj hb5 hb26 hE6
 go_wp2_with fail
 refine Hj.out.mono ?_
 rintro e w3 ⟨rfl, hE3, hb23⟩
 have hfin := Hb5.out.trans hb23
 have hE4 := hE3.drop
 rw [HR2.out] at hE4
 obtain ⟨HE3, Hb23, Hfin, HE4⟩ := hd4 hE3 hb23 hfin hE4
 clear hE4 hfin hb23 hE3
 go_wp2_with fail
 go_end0
 exact ⟨rfl, HE4.out, Hfin.out⟩
theorem node_end {gb go i : Nat} {g : GraphD} {x : NodeD} (h : EmAt w base X E rest) (hga : X.ga = ⟨gb, (go : Nat), none⟩) (hG : GrF w base gb go g) (hx : g.nodes[i]? = some x) (hop : x.op = 12) (ha : x.a < 0)
  (hns : X.ns ≤ 1048560) (hi : i < 1048576) (hsz : E.sz + 9 ≤ 1099511627776) :
  Calls Tryd.prog 40 #[.pointer (some ⟨X.fp, 0, none⟩), .int .i64 (i : Nat)] w fun e w' => EmGot base X rest w (.tuple #[]) ((E.mark i).jump 7 0 1048576) e w' := by
 obtain ⟨R, hR⟩ : ∃ R, (E.mark i).jump 7 0 1048576 = R := ⟨_, rfl⟩
 rw [hR]
 obtain ⟨f0, f1, _⟩ := h.fn
 rw [hga] at f1
 obtain ⟨_, pv, kv, iv, nv, hgc, _, _, _, hN⟩ := hG
 have c6 := hgc 6 nv rfl
 obtain ⟨NA, nc, rfl, _, _⟩ := hN.slice
 obtain ⟨nad, cs, hna, _, _, _, ⟨av, hcs, hav⟩, z0, nj⟩ := RowsAt.at_ hN hx
 subst hna hcs
 obtain ⟨AA, aac, hava, _, _, _⟩ := hav.slice
 subst hava
 have n0 : w.cell? (nad.add (i * 12)) = some (.int .u8 x.op) := z0 _ rfl
 have n1 := nj 1 _ (by omega) rfl
 have n2 := nj 2 _ (by omega) rfl
 have n3 := nj 3 _ (by omega) rfl
 have n4 := nj 4 _ (by omega) rfl
 have n5 := nj 5 _ (by omega) rfl
 have n6 := nj 6 _ (by omega) rfl
 have n7 := nj 7 _ (by omega) rfl
 have n8 := nj 8 _ (by omega) rfl
 have n9 := nj 9 _ (by omega) rfl
 have n10 := nj 10 _ (by omega) rfl
 have n11 := nj 11 _ (by omega) rfl
 clear nj z0
 obtain ⟨nn, hnn⟩ : ∃ nn, g.nodes.length = nn := ⟨_, rfl⟩
 have hin : (i : Int) < nn := by
  have := (List.getElem?_eq_some_iff.1 hx).1
  omega
 rw [hnn] at c6
 have hbx := h.box 55 (ncells x (.slice AA x.args.length aac)).toArray
 have hb := (Below.refl base w).alloc h.size (.cells (ncells x (.slice AA x.args.length aac)).toArray 55)
 obtain ⟨N, hNN⟩ : ∃ N, N = w.heap.size := ⟨_, rfl⟩
 obtain ⟨w1, hw1⟩ : ∃ w1, w1 = w.alloc (.cells (ncells x (.slice AA x.args.length aac)).toArray 55) := ⟨_, rfl⟩
 rw [← hw1, ← hNN] at hbx
 rw [← hw1] at hb
 have hw1' : w.alloc (.cells #[.int .u8 x.op, .int .u8 x.byo, .int .i64 x.d, .int .i64 x.e, .int .i64 x.a, .int .i64 x.b, .int .i64 x.f, .int .i64 x.cell, .int .u64 x.imm, .slice AA x.args.length aac, .int .i64 x.next, .int .i64 x.els] 55) = w1 := hw1.symm
 have hmk := mark_em hbx i (by omega) (by omega)
 obtain ⟨H, Hga, Hgc, HN, Hx, Hav, Hnn, Hbx⟩ := hd8 h hga hgc hN hx hav hnn hbx
 obtain ⟨Hb, HNN, Hw1, HW1E, Hmk, HR, Hop⟩ := hd7 hb hNN hw1 hw1' hmk hR hop
 clear hop hR hmk hw1' hw1 hNN hb hbx hnn hav hx hN hgc hga h
 go_enter Tryd.func40, Tryd.ntmps40
 go_upto_region 1 with fail
 rw [HW1E.out, ← HNN.out]
 clear n0 n1 n2 n3 n4 n5 n6 n7 n8 n9 n10 n11 c6 f0 f1
 go_wp2_with fail
 refine Hmk.out.mono ?_
 rintro e w2 ⟨rfl, hE2, hb12⟩
 have hb2 := Hb.out.trans hb12
 have hB2 := hE2.blk
 have m0 := node_cell hB2 rfl 0 (u := .int .u8 12) (by show some (Value.int .u8 x.op) = _; rw [Hop.out])
 have m4 := node_cell hB2 rfl 4 (u := .int .i64 x.a) rfl
 have ha0 : ¬ (0 : Int) ≤ x.a := by omega
 have hj := jump_em hE2 7 0 1048576 (by omega) (by omega) (by rw [sz_mark]; omega)
 obtain ⟨HE2, Hb12, Hb2, HB2, Hj⟩ := hd5 hE2 hb12 hb2 hB2 hj
 clear hj hB2 hb2 hb12 hE2
 go_wp2_with fail
 refine Hj.out.mono ?_
 rintro e w3 ⟨rfl, hE3, hb23⟩
 have hfin := Hb2.out.trans hb23
 have hE4 := hE3.drop
 rw [HR.out] at hE4
 obtain ⟨HE3, Hb23, Hfin, HE4⟩ := hd4 hE3 hb23 hfin hE4
 clear hE4 hfin hb23 hE3
 go_wp2_with fail
 go_end0
 exact ⟨rfl, HE4.out, Hfin.out⟩
end
end Go.Proofs.YtnfjjliiajaijaaDoor
namespace Go.Proofs.YtnfjjliiajaijaaDoor
open Go.RowKit
/-- how many numbers below n a set has -/
def cntS (S : Nat → Bool) : Nat → Nat
 | 0 => 0
 | n + 1 => cntS S n + if S n then 1 else 0
section
variable {S T : Nat → Bool} {n : Nat}
theorem cntS_le : cntS S n ≤ n := by
 induction n with
 | zero => exact Nat.le_refl _
 | succ n ih => show cntS S n + _ ≤ _; split <;> omega
theorem cntS_or : cntS S n ≤ cntS (orS S T) n := by
 induction n with
 | zero => exact Nat.le_refl _
 | succ n ih =>
  show cntS S n + _ ≤ cntS (orS S T) n + _
  unfold orS at ih ⊢
  cases hs : S n <;> cases ht : T n <;> simp <;> omega
theorem cntS_new (h : newS n S T = true) : cntS S n < cntS (orS S T) n := by
 unfold newS at h
 rw [List.any_eq_true] at h
 obtain ⟨i, hi, hb⟩ := h
 rw [List.mem_range] at hi
 simp only [Bool.and_eq_true, Bool.not_eq_true'] at hb
 have key : ∀ m, i < m → cntS S m < cntS (orS S T) m := by
  intro m
  induction m with
  | zero => intro h; omega
  | succ m ih =>
   intro hm
   show cntS S m + _ < cntS (orS S T) m + _
   by_cases him : i = m
   ·subst him
    have := cntS_or (S := S) (T := T) (n := i)
    unfold orS at this ⊢
    rw [hb.1, hb.2]
    simp
    omega
   ·have := ih (by omega)
    unfold orS at this ⊢
    cases hs : S m <;> cases ht : T m <;> simp <;> omega
 exact key n hi
end
def setAt {α : Type} (f : Nat → α) (k : Nat) (v : α) : Nat → α := fun i => if i = k then v else f i
theorem setAt_at {α : Type} (f : Nat → α) (k : Nat) (v : α) : setAt f k v k = v := by simp [setAt]
theorem setAt_ne {α : Type} {f : Nat → α} {k i : Nat} {v : α} (h : i ≠ k) : setAt f k v i = f i := by simp [setAt, h]
/-- sets by number: 2i what lives ahead of node i, 2i+1 what lives behind it -/
abbrev Sets := Nat → Nat → Bool
def orsP (S : Sets) (i : Nat) (l : List Int) : Sets := l.foldl (fun S t => setAt S (2 * i + 1) (orS (S (2 * i + 1)) (S (2 * t.toNat)))) S
def delsS (P : Nat → Bool) (l : List Int) : Nat → Bool := l.foldl (fun P p => delS P p.toNat) P
def addsS (P : Nat → Bool) (l : List Int) : Nat → Bool := l.foldl (fun P p => addS P p.toNat) P
def backS (P : Nat → Bool) (x : NodeD) : Nat → Bool := addsS (delsS P (writesL x)) (readsL x)
def stepL (S : Sets) (i : Nat) (x : NodeD) : Sets :=
 let S1 := orsP S i (nextL x)
 setAt S1 (2 * i) (orS (S1 (2 * i)) (backS (S1 (2 * i + 1)) x))
def chgL (n : Nat) (S : Sets) (i : Nat) (x : NodeD) : Bool :=
 let S1 := orsP S i (nextL x)
 newS n (S1 (2 * i)) (backS (S1 (2 * i + 1)) x)
/-- the last j nodes swept -/
def sweepL (n : Nat) (l : List NodeD) (S : Sets) : Nat → Sets × Bool
 | 0 => (S, false)
 | j + 1 => match l[l.length - (j + 1)]? with
  | none => sweepL n l S j
  | some x => let r := sweepL n l S j; (stepL r.1 (l.length - (j + 1)) x, r.2 || chgL n r.1 (l.length - (j + 1)) x)
def iterL (n : Nat) (l : List NodeD) : Nat → Sets → Sets
 | 0, S => S
 | f + 1, S => let r := sweepL n l S l.length; if r.2 then iterL n l f r.1 else r.1
def liveS (n : Nat) (l : List NodeD) : Sets := iterL n l (l.length * n + 1) (fun _ _ => false)
/-- how many numbers the sets ahead of nodes have -/
def cntL (n : Nat) (S : Sets) : Nat → Nat
 | 0 => 0
 | N + 1 => cntL n S N + cntS (S (2 * N)) n
section
variable {S : Sets} {n N i j : Nat} {l : List NodeD} {x : NodeD}
theorem cntL_le : cntL n S N ≤ N * n := by
 induction N with
 | zero => exact Nat.zero_le _
 | succ N ih =>
  show cntL n S N + cntS (S (2 * N)) n ≤ _
  have := cntS_le (S := S (2 * N)) (n := n)
  rw [Nat.succ_mul N n]; omega
theorem cntL_odd {P : Nat → Bool} : cntL n (setAt S (2 * i + 1) P) N = cntL n S N := by
 induction N with
 | zero => rfl
 | succ N ih =>
  show cntL n (setAt S (2 * i + 1) P) N + cntS (setAt S (2 * i + 1) P (2 * N)) n = _
  rw [ih, setAt_ne (by omega)]; rfl
theorem cntL_far {P : Nat → Bool} (h : N ≤ i) : cntL n (setAt S (2 * i) P) N = cntL n S N := by
 induction N with
 | zero => rfl
 | succ N ih =>
  show cntL n (setAt S (2 * i) P) N + cntS (setAt S (2 * i) P (2 * N)) n = _
  rw [ih (by omega), setAt_ne (by omega)]; rfl
theorem cntL_set {P : Nat → Bool} (h : i < N) : cntL n (setAt S (2 * i) P) N + cntS (S (2 * i)) n = cntL n S N + cntS P n := by
 induction N with
 | zero => omega
 | succ N ih =>
  show cntL n (setAt S (2 * i) P) N + cntS (setAt S (2 * i) P (2 * N)) n + _ = cntL n S N + cntS (S (2 * N)) n + _
  by_cases hN : i = N
  ·subst hN
   rw [setAt_at, cntL_far (Nat.le_refl _)]; omega
  ·have := ih (by omega)
   rw [setAt_ne (show 2 * N ≠ 2 * i by omega)]; omega
theorem cntL_ors (ls : List Int) : ∀ S : Sets, cntL n (orsP S i ls) N = cntL n S N := by
 induction ls with
 | nil => intro S; rfl
 | cons t ls ih => intro S; show cntL n (orsP (setAt S (2 * i + 1) _) i ls) N = _; rw [ih, cntL_odd]
theorem cntL_step (hi : i < N) : cntL n S N ≤ cntL n (stepL S i x) N ∧ (chgL n S i x = true → cntL n S N < cntL n (stepL S i x) N) := by
 unfold stepL chgL
 dsimp only
 obtain ⟨S1, hS1⟩ : ∃ S1, orsP S i (nextL x) = S1 := ⟨_, rfl⟩
 rw [hS1]
 have h0 := cntL_ors (n := n) (N := N) (i := i) (nextL x) S
 rw [hS1] at h0
 have h1 := cntL_set (S := S1) (n := n) (P := orS (S1 (2 * i)) (backS (S1 (2 * i + 1)) x)) hi
 have h2 := cntS_or (S := S1 (2 * i)) (T := backS (S1 (2 * i + 1)) x) (n := n)
 refine ⟨by omega, fun h => ?_⟩
 have h3 := cntS_new h
 omega
theorem cntL_sweep (hj : j ≤ l.length) : cntL n S l.length ≤ cntL n (sweepL n l S j).1 l.length ∧ ((sweepL n l S j).2 = true → cntL n S l.length < cntL n (sweepL n l S j).1 l.length) := by
 induction j with
 | zero => exact ⟨Nat.le_refl _, by intro h; cases h⟩
 | succ j ih =>
  obtain ⟨x, hx⟩ : ∃ x, l[l.length - (j + 1)]? = some x := ⟨_, List.getElem?_eq_getElem (by omega)⟩
  obtain ⟨h1, h2⟩ := ih (by omega)
  obtain ⟨h3, h4⟩ := cntL_step (S := (sweepL n l S j).1) (n := n) (x := x) (show l.length - (j + 1) < l.length by omega)
  have e : sweepL n l S (j + 1) = (stepL (sweepL n l S j).1 (l.length - (j + 1)) x, (sweepL n l S j).2 || chgL n (sweepL n l S j).1 (l.length - (j + 1)) x) := by
   rw [sweepL, hx]
  rw [e]
  refine ⟨by dsimp only; omega, ?_⟩
  dsimp only
  intro h
  rw [Bool.or_eq_true] at h
  rcases h with h | h
  ·have := h2 h; omega
  ·have := h4 h; omega
/-- nothing but numbers below n -/
def BdL (n : Nat) (S : Sets) : Prop := ∀ k p, n ≤ p → S k p = false
theorem BdL.set (h : BdL n S) {k : Nat} {P : Nat → Bool} (hP : ∀ p, n ≤ p → P p = false) : BdL n (setAt S k P) := by
 intro k' p hp
 unfold setAt
 split
 ·exact hP p hp
 ·exact h k' p hp
theorem BdL.ors (ls : List Int) : ∀ {S : Sets}, BdL n S → BdL n (orsP S i ls) := by
 induction ls with
 | nil => intro S h; exact h
 | cons t ls ih =>
  intro S h
  refine ih (h.set fun p hp => ?_)
  unfold orS
  rw [h _ p hp, h _ p hp]; rfl
theorem bd_dels (ls : List Int) : ∀ {P : Nat → Bool}, (∀ p, n ≤ p → P p = false) → ∀ p, n ≤ p → delsS P ls p = false := by
 induction ls with
 | nil => intro P h; exact h
 | cons t ls ih =>
  intro P h
  refine ih fun p hp => ?_
  have e := h p hp
  simp [delS, e]
theorem bd_adds (ls : List Int) : ∀ {P : Nat → Bool}, (∀ p, n ≤ p → P p = false) → (∀ t ∈ ls, 0 ≤ t ∧ t < n) → ∀ p, n ≤ p → addsS P ls p = false := by
 induction ls with
 | nil => intro P h _; exact h
 | cons t ls ih =>
  intro P h hl
  refine ih (fun p hp => ?_) (fun u hu => hl u (List.mem_cons_of_mem _ hu))
  have h2 := hl t List.mem_cons_self
  have e := h p hp
  simp [addS, e]; omega
theorem BdL.step (h : BdL n S) (hr : ∀ t ∈ readsL x, 0 ≤ t ∧ t < n) : BdL n (stepL S i x) := by
 have h1 := h.ors (i := i) (nextL x)
 refine h1.set fun p hp => ?_
 unfold orS backS
 rw [h1 _ p hp, bd_adds (readsL x) (bd_dels (writesL x) (fun p hp => h1 _ p hp)) hr p hp]; rfl
theorem BdL.sweep (h : BdL n S) (hr : ∀ x ∈ l, ∀ t ∈ readsL x, 0 ≤ t ∧ t < n) : BdL n (sweepL n l S j).1 := by
 induction j with
 | zero => exact h
 | succ j ih =>
  rw [sweepL]
  split
  ·exact ih
  ·next x hx => exact ih.step (hr x (List.mem_of_getElem? hx))
theorem sweepL_succ (hj : j < l.length) (hx : l[l.length - (j + 1)]? = some x) : sweepL n l S (j + 1) = (stepL (sweepL n l S j).1 (l.length - (j + 1)) x, (sweepL n l S j).2 || chgL n (sweepL n l S j).1 (l.length - (j + 1)) x) := by
 rw [sweepL, hx]
theorem iterL_more {f : Nat} (h : (sweepL n l S l.length).2 = true) : iterL n l (f + 1) S = iterL n l f (sweepL n l S l.length).1 := by
 rw [iterL]; simp only [h, if_true]
theorem iterL_done {f : Nat} (h : (sweepL n l S l.length).2 = false) : iterL n l (f + 1) S = (sweepL n l S l.length).1 := by
 rw [iterL]; simp only [h]; rfl
theorem orsP_snoc (S : Sets) (i : Nat) (ls : List Int) (t : Int) : orsP S i (ls ++ [t]) = setAt (orsP S i ls) (2 * i + 1) (orS (orsP S i ls (2 * i + 1)) (orsP S i ls (2 * t.toNat))) := by
 unfold orsP; rw [List.foldl_append]; rfl
theorem delsS_snoc (P : Nat → Bool) (ls : List Int) (t : Int) : delsS P (ls ++ [t]) = delS (delsS P ls) t.toNat := by unfold delsS; rw [List.foldl_append]; rfl
theorem addsS_snoc (P : Nat → Bool) (ls : List Int) (t : Int) : addsS P (ls ++ [t]) = addS (addsS P ls) t.toNat := by unfold addsS; rw [List.foldl_append]; rfl
end
theorem BdL.none (n : Nat) : BdL n (fun _ _ => false) := fun _ _ _ => rfl
end Go.Proofs.YtnfjjliiajaijaaDoor
