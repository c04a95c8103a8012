/- Walk of the emitter's live. Conditions: the emitter and the graph lie in memory, places and nodes are there. -/
import Derived.Test.YtnfjjliiajaijaaDoorPkAA
import Derived.Test.YtnfjjliiajaijaaDoorPkAM
import Derived.Test.YtnfjjliiajaijaaDoorPkAK
set_option linter.unusedVariables false
set_option linter.unusedSimpArgs false
set_option maxRecDepth 100000
set_option maxHeartbeats 10000000
namespace Go.Proofs.YtnfjjliiajaijaaDoor
open Go.RowKit
theorem infoSetP : (Tryd.prog.info? 126).map (fun i => (i.zero, i.size, i.bytes)) = some (some (.pointer none), 1, 8) := by kernel_rfl
abbrev lvRow (A N c : Nat) (xs : List Value) : It := .row (.slice (some ⟨A, 0, none⟩) N c) 126 1 N xs
/-- what live leaves: what is pending, and what lives ahead, as sets -/
def LvGot (base : Nat) (X : EmX) (E : EmS) (rest : List It) (n N : Nat) (S : Sets) (w : World) (e : Ending) (w' : World) : Prop :=
 e = .returned (.tuple #[]) ∧ (∃ pb ib F, EmAt w' base { X with pv := .slice (some ⟨pb, 0, none⟩) N N } E ([lvRow pb N N (ptrs F.g 1 N N), lvRow ib N N (ptrs F.g 0 N N)] ++ (famIts n (2 * N) F ++ rest)) ∧ FamOK n (2 * N) F S) ∧ Below base w w'
/-- the sweeps: how they stand -/
def LvIt (n : Nat) (l : List NodeD) (N : Nat) (R S : Sets) (b : Bool) (fu gk : Nat) : Prop := if b then gk = fu + 1 ∧ iterL n l fu S = R ∧ N * n < cntL n S N + fu else gk = 0 ∧ S = R
section
variable {w : World} {base : Nat} {X : EmX} {E : EmS} {rest : List It}
theorem EmAt.fpFree (h : EmAt w base X E rest) (k : Nat) : w.frozen? ⟨X.fp, k, none⟩ = false := by
 obtain ⟨cv, sv, zv, nv, Mc, J, L, lvs, _, hI⟩ := h
 exact (hI.blk (i := 3) rfl).frozen k
theorem EmAt.rowCell {g N c i j : Nat} {xs : List Value} {v : Value} (h : EmAt w base X E rest) (hi : rest[i]? = some (lvRow g N c xs)) (hj : j < N) (hv : xs[j]? = some v) : w.cell? ⟨g, j, none⟩ = some v ∧ w.frozen? ⟨g, j, none⟩ = false ∧ g < w.heap.size := by
 have ho : w.ownsRow base 126 1 (.slice (some ⟨g, 0, none⟩) N c) N xs := h.idx hi
 obtain ⟨ad, u, hA, _, hu, hc⟩ := (Reads.of_own ho).at_ hj
 injection hA with hA
 subst hA
 rw [hv] at hu
 injection hu with hu
 subst hu
 obtain ⟨cs, hcs⟩ := own_blk ho rfl
 refine ⟨?_, hcs.frozen j, hcs.lt⟩
 rw [Addr.add_mid, Nat.zero_add] at hc
 exact hc
theorem FamOK.congr {n M : Nat} {F : Fam} {S S' : Sets} (h : FamOK n M F S) (he : ∀ k, k < M → S k = S' k) : FamOK n M F S' :=
 ⟨h.1, fun k hk => by rw [← he k hk]; exact h.2 k hk⟩
theorem FamOK.one {n : Nat} {F : Fam} {S : Sets} {P : Nat → Bool} (h : FamOK n 1 F (setAt S 0 P)) : FamOK n 1 F (fun _ => P) := h.congr fun k hk => by
 have : k = 0 := by omega
 rw [this, setAt_at]
theorem live_em {gb go n : Nat} {g : GraphD} (h : EmAt w base X E rest) (hga : X.ga = ⟨gb, (go : Nat), none⟩) (hG : GrF w base gb go g) (hn : g.kinds.length = n) (hn0 : 0 < n) (hnb : n ≤ 1048576) (hNb : g.nodes.length ≤ 1048576)
  (hnx : ∀ x ∈ g.nodes, ∀ t ∈ nextL x, 0 ≤ t ∧ t < (g.nodes.length : Int)) (hrd : ∀ x ∈ g.nodes, ∀ t ∈ readsL x, 0 ≤ t ∧ t < (n : Int)) (hwr : ∀ x ∈ g.nodes, ∀ t ∈ writesL x, 0 ≤ t ∧ t < (n : Int)) (hal : ∀ x ∈ g.nodes, x.args.length * 8 ≤ 140737488351232)
  (hT : ∀ W, Below base w W → TabX W) (htb : 1 < base) :
  Calls Tryd.prog 38 #[.pointer (some ⟨X.fp, 0, none⟩)] w fun e w' => LvGot base X E rest n g.nodes.length (liveS n g.nodes) w e w' := by
 obtain ⟨i0, hi0, hz0, hz1, hz2⟩ := info_parts infoSetP
 obtain ⟨R, hR⟩ : ∃ R, liveS n g.nodes = R := ⟨_, rfl⟩
 rw [hR]
 obtain ⟨f0, f1, _⟩ := h.fn
 rw [hga] at f1
 have hfb := h.fpb.1
 have hfl := h.fpb.2.1
 obtain ⟨hglt, pv, kv, iv, nv, hgc, _, hKs, _, hN⟩ := id hG
 have c1 := hgc 1 kv rfl
 have c6 := hgc 6 nv rfl
 obtain ⟨NA, nc, rfl, _, _⟩ := hN.slice
 obtain ⟨KA, kc, rfl, _, _, _⟩ := hKs.slice
 rw [hn] at c1
 obtain ⟨N, hNN⟩ : ∃ N, g.nodes.length = N := ⟨_, rfl⟩
 rw [hNN] at hNb hnx c6 ⊢
 have hmk : ∀ W : World, (Instr.makeSlice 99 (.int .i64 (N : Int)) (.int .i64 (N : Int))).run Tryd.prog W = .ok (.slice (some ⟨W.heap.size, 0, none⟩) N N) (W.alloc (.cells (madeCells #[.pointer none] N) 126)) := fun W => by
  have h := run_make_rowN (P := Tryd.prog) 99 126 i0 _ Tryd.underlying99 hi0 hz0 .i64 .i64 N N (Nat.le_refl _) (by rw [hz2]; omega) (by omega) W
  rw [hz1, Nat.mul_one] at h
  exact h
 have hmade : ∀ G o, (madeCells #[Value.pointer none] N).toList = ptrs G o 0 N := fun G o => by rw [toList_madeCells_one, ptrs_zero]
 -- the two rows
 obtain ⟨ib, hib⟩ : ∃ ib, ib = w.heap.size := ⟨_, rfl⟩
 obtain ⟨w1, hw1⟩ : ∃ w1, w1 = w.alloc (.cells (madeCells #[.pointer none] N) 126) := ⟨_, rfl⟩
 have hE1 : EmAt w1 base X E (lvRow ib N N (ptrs (fun _ => 0) 0 0 N) :: rest) := by
  rw [hw1, hib]
  exact h.extend (World.grownBy_alloc w _ none) (own_of_blk (Blk.new w 126 _) h.size (hmade _ _) (by rw [ptrs_len, Nat.mul_one]) (by unfold maxLen; omega)) (fun b e => by injection e with e; exact Nat.le_of_eq e)
 have hb1 : Below base w w1 := by rw [hw1]; exact (Below.refl base w).alloc h.size _
 obtain ⟨pb, hpb⟩ : ∃ pb, pb = w1.heap.size := ⟨_, rfl⟩
 obtain ⟨w2, hw2⟩ : ∃ w2, w2 = w1.alloc (.cells (madeCells #[.pointer none] N) 126) := ⟨_, rfl⟩
 have hE2 : EmAt w2 base X E (lvRow pb N N (ptrs (fun _ => 0) 1 0 N) :: lvRow ib N N (ptrs (fun _ => 0) 0 0 N) :: rest) := by
  rw [hw2, hpb]
  exact hE1.extend (World.grownBy_alloc w1 _ none) (own_of_blk (Blk.new w1 126 _) hE1.size (hmade _ _) (by rw [ptrs_len, Nat.mul_one]) (by unfold maxLen; omega)) (fun b e => by injection e with e; exact Nat.le_of_eq e)
 have hb2 : Below base w w2 := by rw [hw2]; exact hb1.alloc hE1.size _
 have hE3 := hE2.setPv (.slice (some ⟨pb, 0, none⟩) N N)
 have hb3 := hb2.setCell (p := ⟨X.fp, 12, none⟩) hfb (.slice (some ⟨pb, 0, none⟩) N N)
 obtain ⟨w3, hw3⟩ : ∃ w3, w3 = w2.setCell ⟨X.fp, 12, none⟩ (.slice (some ⟨pb, 0, none⟩) N N) := ⟨_, rfl⟩
 rw [← hw3] at hE3 hb3
 obtain ⟨Y, hY⟩ : ∃ Y : EmX, Y = { X with pv := .slice (some ⟨pb, 0, none⟩) N N } := ⟨_, rfl⟩
 rw [← hY] at hE3
 have c61 := (hb1.cell (p := ⟨gb, go + 6, none⟩) hglt).trans c6
 have f122 := hE2.fn.2.2.2.2.2.2.2.2
 have fz22 := hE2.fpFree 12
 rw [hw2] at f122 fz22
 clear hmade
 obtain ⟨H, Hga, HG, Hgc, HKs, HN, Hn, HNN⟩ := hd8 h hga hG hgc hKs hN hn hNN
 obtain ⟨Hnx, Hrd, Hwr, Hal, HT, HR, Hib, Hw1⟩ := hd8 hnx hrd hwr hal hT hR hib hw1
 obtain ⟨HE1, Hb1, Hpb, Hw2, HE2, Hb2, Hw3, HE3⟩ := hd8 hE1 hb1 hpb hw2 hE2 hb2 hw3 hE3
 obtain ⟨Hb3, HY⟩ := hd2 hb3 hY
 clear hY hb3 hE3 hw3 hb2 hE2 hw2 hpb hb1 hE1 hw1 hib hR hT hal hwr hrd hnx hNN hn hN hKs hgc hG hga h
 go_enter Tryd.func38, Tryd.ntmps38
 go_upto_region 2 with fail
 rw [← Hw1.out, ← Hib.out]
 go_upto_region 3 with fail
 rw [← Hpb.out, ← Hw2.out, ← Hw3.out]
 have hpi : pb ≠ ib := by
  have h0 := ((HE1.out.idx (i := 0) rfl).lt ib rfl).2
  have := Hpb.out
  omega
 have hip := Ne.symm hpi
 clear f122 fz22 hmk c61
 go_wp2_with fail
 have c63 := (Hb3.out.cell (p := ⟨gb, go + 6, none⟩) hglt).trans c6
 go_loopg [36] N (fun gk iv wr => ∃ (j : Nat) (F : Fam), j + gk = N ∧ iv = .int .i64 j ∧ Hid (EmAt wr base Y E ([lvRow pb N N (ptrs F.g 1 j N), lvRow ib N N (ptrs F.g 0 j N)] ++ (famIts n (2 * j) F ++ rest))) ∧ Hid (FamOK n (2 * j) F (fun _ _ => false)) ∧ Hid (Below base w wr))
 case atStart => exact ⟨0, ⟨fun _ => 0, fun _ => 0, fun _ => 0, fun _ => #[]⟩, by omega, rfl, HE3, Lib.hid ⟨hnb, fun k hk => by omega⟩, Hb3⟩
 case round =>
  obtain ⟨j, F, hj, rfl, hEj, hok, hbj⟩ := hrel
  by_cases hjm : j < N
  ·have hjI : (j : Int) < N := by omega
   have hnew1' := newF_any n wr.drew hnb
   have f12 := hEj.out.fn.2.2.2.2.2.2.2.2
   have hYpv : Y.pv = .slice (some ⟨pb, 0, none⟩) N N := by rw [HY.out]
   have hYfp : Y.fp = X.fp := by rw [HY.out]
   rw [hYpv, hYfp] at f12
   have hYl := hEj.out.fpb.2.1
   rw [hYfp] at hYl
   have d1 := (hbj.out.cell (p := ⟨gb, go + 1, none⟩) hglt).trans c1
   have hbase := hEj.out.size
   obtain ⟨HYpv, HYfp⟩ := hd2 hYpv hYfp
   clear hYfp hYpv
   clear c1 c63
   go_upto_region 6 with fail
   refine wp_region_lateM (S := fun W => W.cell? ⟨X.fp, 12, none⟩ = some (.slice (some ⟨pb, 0, none⟩) N N) ∧ W.cell? ⟨gb, go + 1, none⟩ = some (.slice KA n kc)) #[false, false, false, false, false, false, false, false, false, false, false, false, false, false, false, false, false, false, false, false, true, false, true] (by kernel_rfl) ⟨f12, d1⟩ (fun hHeld => ?_)
   refine wpAnyM_pure (i := 6) (v := ?_) rfl (by kernel_rfl) (by kernel_rfl) (by kernel_rfl) (by kernel_rfl) (fun _ _ _ h => h) (Or.inl ⟨by rfl, ?_⟩) (by first | assumption | exact Or.inr (by assumption)) ?_
   rotate_left
   ·intro w hSw; (try dsimp only at hSw); go_simp; try with_reducible rfl
   simp only [Act.put, List.getElem_toArray, List.getElem_cons_zero, List.getElem_cons_succ, List.setIfInBounds_toArray, List.set_cons_zero, List.set_cons_succ]
   refine wpAnyM_tk 0 ?_
   refine wpAnyM_tk 1 ?_
   refine wpAnyM_tk 2 ?_
   refine wpAnyM_tk 3 ?_
   refine wpAnyM_tk 4 ?_
   refine wpAnyM_tk 5 ?_
   refine wpAnyM_tk 7 ?_
   refine wpAnyM_tk 8 ?_
   refine wpAnyM_tk 9 ?_
   refine wpAnyM_tk 10 ?_
   refine wpAnyM_tk 11 ?_
   refine wpAnyM_tk 13 ?_
   refine wpAnyM_tk 14 ?_
   refine wpAnyM_tk 15 ?_
   refine wpAnyM_tk 16 ?_
   refine wpAnyM_tk 17 ?_
   refine wpAnyM_op (i := 12) (by kernel_rfl) rfl (fun K hK => ?_)
   go_simp
   refine hnew1'.mono ?_
   rintro e w4 ⟨g1, q1, rfl, hg1, hq1, hs1, hb4⟩
   have hb4d := Below.of_drew hb4
   have e12 := (hb4d.cell (p := ⟨X.fp, 12, none⟩) hYl).trans f12
   have e1 := (hb4d.cell (p := ⟨gb, go + 1, none⟩) (Nat.lt_of_lt_of_le hglt hbase)).trans d1
   have hnew2 := newF_any n w4 hnb
   refine hK.out _ _ ⟨e12, e1⟩ (fun hHeld2 => ?_)
   clear hK K hHeld
   try simp only [Act.put, List.getElem_toArray, List.getElem_cons_zero, List.getElem_cons_succ, List.setIfInBounds_toArray, List.set_cons_zero, List.set_cons_succ]
   refine wpAnyM_op (i := 18) (by kernel_rfl) rfl (fun K hK => ?_)
   go_simp
   refine hnew2.mono ?_
   rintro e w5 ⟨g2, q2, rfl, hg2, hq2, hs2, hb5⟩
   have j12 := (hb5.cell (p := ⟨X.fp, 12, none⟩) (Nat.lt_of_lt_of_le hYl hb4d.size)).trans e12
   have j1 := (hb5.cell (p := ⟨gb, go + 1, none⟩) (Nat.lt_of_lt_of_le (Nat.lt_of_lt_of_le hglt hbase) hb4d.size)).trans e1
   refine hK.out _ _ ⟨j12, j1⟩ (fun hHeld3 => ?_)
   clear hK K hHeld2
   obtain ⟨F', hF0, hF1, hF2, hE5, hok5⟩ := hEj.out.make2 hok.out hb4d hg1 hq1 hs1 hb5 hg2 hq2 hs2
   have hbb := (hbj.out.trans (hb4d.mono hbase)).trans (hb5.mono (Nat.le_trans hbase hb4d.size))
   obtain ⟨z0, hz0⟩ : ∃ z0, (ptrs F.g 0 j N)[j]? = some z0 := ⟨_, List.getElem?_eq_getElem (by rw [ptrs_len]; exact hjm)⟩
   obtain ⟨z1, hz1⟩ : ∃ z1, (ptrs F.g 1 j N)[j]? = some z1 := ⟨_, List.getElem?_eq_getElem (by rw [ptrs_len]; exact hjm)⟩
   obtain ⟨s1, r1, l1⟩ := hE5.rowCell (i := 1) rfl hjm hz0
   obtain ⟨s0, r0, l0⟩ := hE5.rowCell (i := 0) rfl hjm hz1
   obtain ⟨hE6, hbi⟩ := hE5.setRowR (i := 1) rfl (by rw [Nat.mul_one]; exact hjm) (.pointer (some ⟨g1, 0, none⟩))
   obtain ⟨hE7, hbp⟩ := hE6.setRowR (i := 0) rfl (by rw [Nat.mul_one]; exact hjm) (.pointer (some ⟨g2, 0, none⟩))
   have hbn := (hbb.setCell (p := ⟨ib, j, none⟩) hbi (.pointer (some ⟨g1, 0, none⟩))).setCell (p := ⟨pb, j, none⟩) hbp (.pointer (some ⟨g2, 0, none⟩))
   have p0 : (ptrs F.g 0 j N).set j (.pointer (some ⟨g1, 0, none⟩)) = ptrs F'.g 0 (j + 1) N := by
    rw [← hF1]; exact ptrs_set (fun k hk => hF0 _ (by omega)) hjm
   have p1 : (ptrs F.g 1 j N).set j (.pointer (some ⟨g2, 0, none⟩)) = ptrs F'.g 1 (j + 1) N := by
    rw [← hF2]; exact ptrs_set (fun k hk => hF0 _ (by omega)) hjm
   have hE8 : EmAt ((w5.setCell ⟨ib, j, none⟩ (.pointer (some ⟨g1, 0, none⟩))).setCell ⟨pb, j, none⟩ (.pointer (some ⟨g2, 0, none⟩))) base Y E ([lvRow pb N N (ptrs F'.g 1 (j + 1) N), lvRow ib N N (ptrs F'.g 0 (j + 1) N)] ++ (famIts n (2 * (j + 1)) F' ++ rest)) := by
    rw [← p0, ← p1]; exact hE7
   clear hE6 hE7
   obtain ⟨Hb4, Hs1, Hb4d, Hs2, Hb5, HF0, HF1, HF2⟩ := hd8 hb4 hs1 hb4d hs2 hb5 hF0 hF1 hF2
   obtain ⟨HE5, Hok5, Hbb, Hbn, HE8, Hz0', Hz1', Hp0⟩ := hd8 hE5 hok5 hbb hbn hE8 hz0 hz1 p0
   have Hp1 := Lib.hid p1
   clear p1 p0 hz1 hz0 hE8 hbn hbb hok5 hE5 hF2 hF1 hF0 hb5 hs2 hb4d hs1 hb4
   try simp only [Act.put, List.getElem_toArray, List.getElem_cons_zero, List.getElem_cons_succ, List.setIfInBounds_toArray, List.set_cons_zero, List.set_cons_succ]
   refine wpAnyM_tk 19 ?_
   refine wpAnyM_last (i := 20) (by kernel_rfl) rfl ⟨20, by kernel_rfl, by kernel_rfl⟩ (fun K hK => ?_)
   go_simp
   refine hK.out _ _ ?_
   clear hK K
   try simp only [Act.put, List.getElem_toArray, List.getElem_cons_zero, List.getElem_cons_succ, List.setIfInBounds_toArray, List.set_cons_zero, List.set_cons_succ]
   refine wpAnyM_pure (i := 21) (v := ?_) rfl (by kernel_rfl) (by kernel_rfl) (by kernel_rfl) (by kernel_rfl) (fun _ _ _ h => h) (Or.inl ⟨by rfl, ?_⟩) (Or.inl ⟨20, by kernel_rfl, by kernel_rfl⟩) ?_
   rotate_left
   ·intro w hSw; (try dsimp only at hSw); go_simp; try with_reducible rfl
   simp only [Act.put, List.getElem_toArray, List.getElem_cons_zero, List.getElem_cons_succ, List.setIfInBounds_toArray, List.set_cons_zero, List.set_cons_succ]
   refine wpAnyM_last (i := 22) (by kernel_rfl) rfl ⟨22, by kernel_rfl, by kernel_rfl⟩ (fun K hK => ?_)
   go_simp
   refine hK.out _ _ ?_
   clear hK K
   try simp only [Act.put, List.getElem_toArray, List.getElem_cons_zero, List.getElem_cons_succ, List.setIfInBounds_toArray, List.set_cons_zero, List.set_cons_succ]
   refine wpAnyM_done (by kernel_rfl) ?_ _
   clear s0 s1 r0 r1 e12 e1 j12 j1 f12 d1 hHeld3
   go_wp2_with fail
   go_roundg (gk - 1)
   case measure => omega
   case rel => exact ⟨j + 1, F', by omega, by simp, HE8, Hok5, Hbn⟩
  ·obtain rfl : N = j := by omega
   have hNI : ¬ (N : Int) < N := by omega
   obtain ⟨G, hGF⟩ : ∃ G, F.g = G := ⟨_, rfl⟩
   have hNs : 0 ≤ (N : Int) - 1 + 1 := by omega
   have hst : LvIt n g.nodes N R (fun _ _ => false) true (N * n + 1) (N * n + 2) := by
    refine ⟨rfl, ?_, by omega⟩
    have := HR.out
    unfold liveS at this
    rw [HNN.out] at this
    exact this
   have hbd : BdL n (fun _ _ => false) := BdL.none n
   obtain ⟨HGF, Hst, Hbd⟩ := hd3 hGF hst hbd
   clear hbd hst hGF
   clear c1 c63 hjm hj hNs
   go_wp2_with fail
   go_loopg [5] (N * n + 2) (fun gk mv wr => ∃ (S : Sets) (F : Fam) (b : Bool) (fu : Nat), mv = .bool b ∧ Hid (LvIt n g.nodes N R S b fu gk) ∧ Hid (F.g = G) ∧ Hid (BdL n S) ∧ Hid (EmAt wr base Y E ([lvRow pb N N (ptrs G 1 N N), lvRow ib N N (ptrs G 0 N N)] ++ (famIts n (2 * N) F ++ rest))) ∧ Hid (FamOK n (2 * N) F S) ∧ Hid (Below base w wr))
   case atStart => exact ⟨_, F, true, N * n + 1, rfl, Hst, HGF, Hbd, by rw [← HGF.out]; exact hEj, hok, hbj⟩
   case round =>
    obtain ⟨S, F2, b, fu, rfl, hit, hGF2, hbd2, hE2', hok2, hbj2⟩ := hrel
    cases b
    case false =>
     go_wp2_with fail
     go_end0
     have hSR : S = R := hit.out.2
     have hEz := hE2'.out
     rw [← hGF2.out, HY.out] at hEz
     have hokz := hok2.out
     rw [hSR] at hokz
     exact ⟨rfl, ⟨pb, ib, F2, hEz, hokz⟩, hbj2.out⟩
    case true =>
     obtain ⟨wo, hwo⟩ : ∃ wo, wo = wr := ⟨_, rfl⟩
     have c64 := (hbj2.out.cell (p := ⟨gb, go + 6, none⟩) hglt).trans c6
     obtain ⟨hit1, hit2, hit3⟩ : gk = fu + 1 ∧ iterL n g.nodes fu S = R ∧ N * n < cntL n S N + fu := hit.out
     obtain ⟨Hwo, Hit1, Hit2, Hit3⟩ := hd4 hwo hit1 hit2 hit3
     clear hit3 hit2 hit1 hwo
     go_wp2_with fail
     clear c64
     go_loopg [5, 6] N (fun hk mv iv wq => ∃ (j : Nat) (k : Int) (F3 : Fam), j + hk = N ∧ k + j + 1 = N ∧ iv = .int .i64 k ∧ mv = .bool (sweepL n g.nodes S j).2 ∧ Hid (F3.g = G) ∧ Hid (EmAt wq base Y E ([lvRow pb N N (ptrs G 1 N N), lvRow ib N N (ptrs G 0 N N)] ++ (famIts n (2 * N) F3 ++ rest))) ∧ Hid (FamOK n (2 * N) F3 (sweepL n g.nodes S j).1) ∧ Hid (Below base w wq))
     case atStart => exact ⟨0, (N : Int) - 1, F2, by omega, by omega, rfl, rfl, hGF2, hE2', hok2, hbj2⟩
     case round =>
      obtain ⟨j, k, F3, hj, hkj, rfl, rfl, hGF3, hE3', hok3, hbj3⟩ := hrel
      by_cases hjm : j < N
      ·obtain ⟨i, rfl⟩ : ∃ i : Nat, k = (i : Int) := ⟨k.toNat, by omega⟩
       obtain ⟨wq, hwq⟩ : ∃ wq, wq = wr := ⟨_, rfl⟩
       obtain ⟨x, hx⟩ : ∃ x, g.nodes[i]? = some x := ⟨_, List.getElem?_eq_getElem (by rw [HNN.out]; omega)⟩
       have hxm := List.mem_of_getElem? hx
       obtain ⟨nad, cs, hna, hnb', _, _, ⟨av, hcs, hav⟩, z0', nj'⟩ := RowsAt.at_ HN.out hx
       have z0 : ∀ u, cs[0]? = some u → wr.cell? (nad.add (i * 12)) = some u := fun u hu => (hbj3.out.cell (p := nad.add (i * 12)) (by rw [block_of_add]; exact hnb')).trans (z0' u hu)
       have nj : ∀ j u, 0 < j → cs[j]? = some u → wr.cell? ⟨(nad.add (i * 12)).block, (nad.add (i * 12)).off + j, none⟩ = some u := fun j u hj hu => (hbj3.out.cell (p := ⟨(nad.add (i * 12)).block, (nad.add (i * 12)).off + j, none⟩) (by show (nad.add (i * 12)).block < base; rw [block_of_add]; exact hnb')).trans (nj' j u hj hu)
       clear z0' nj'
       subst hna hcs
       obtain ⟨AA, aac, hava, _, _, _⟩ := hav.slice
       subst hava
       have n0 : wr.cell? (nad.add (i * 12)) = some (.int .u8 x.op) := z0 _ rfl
       have n1 := nj 1 _ (by omega) rfl
       have n2 := nj 2 _ (by omega) rfl
       have n3 := nj 3 _ (by omega) rfl
       have n4 := nj 4 _ (by omega) rfl
       have n5 := nj 5 _ (by omega) rfl
       have n6 := nj 6 _ (by omega) rfl
       have n7 := nj 7 _ (by omega) rfl
       have n8 := nj 8 _ (by omega) rfl
       have n9 := nj 9 _ (by omega) rfl
       have n10 := nj 10 _ (by omega) rfl
       have n11 := nj 11 _ (by omega) rfl
       clear nj z0
       have c65 := (hbj3.out.cell (p := ⟨gb, go + 6, none⟩) hglt).trans c6
       have hbx := hE3'.out.box 55 (ncells x (.slice AA x.args.length aac)).toArray
       have hbv := hbj3.out.alloc hE3'.out.size (.cells (ncells x (.slice AA x.args.length aac)).toArray 55)
       obtain ⟨T, hTT⟩ : ∃ T, T = wr.heap.size := ⟨_, rfl⟩
       obtain ⟨v1, hv1⟩ : ∃ v1, v1 = wr.alloc (.cells (ncells x (.slice AA x.args.length aac)).toArray 55) := ⟨_, rfl⟩
       rw [← hv1, ← hTT] at hbx
       rw [← hv1] at hbv
       have hv1' : wr.alloc (.cells #[.int .u8 x.op, .int .u8 x.byo, .int .i64 x.d, .int .i64 x.e, .int .i64 x.a, .int .i64 x.b, .int .i64 x.f, .int .i64 x.cell, .int .u64 x.imm, .slice AA x.args.length aac, .int .i64 x.next, .int .i64 x.els] 55) = v1 := hv1.symm
       have hiI : (i : Int) < N := by omega
       obtain ⟨Sj, hSj⟩ : ∃ Sj, (sweepL n g.nodes S j).1 = Sj := ⟨_, rfl⟩
       obtain ⟨bj, hbjj⟩ : ∃ bj, (sweepL n g.nodes S j).2 = bj := ⟨_, rfl⟩
       rw [hSj] at hok3
       rw [hbjj]
       obtain ⟨NC, hNC⟩ : ∃ NC, (ncells x (.slice AA x.args.length aac)).toArray = NC := ⟨_, rfl⟩
       have hB1 := hbx.blk
       have hrange : v1.rangeAt T 0 (ncells x (.slice AA x.args.length aac)) := fun j v hv => by
        rw [hB1.cell (0 + j), Nat.zero_add, List.getElem?_toArray]
        exact hv
       have hnext := next_own v1 x (.slice AA x.args.length aac)
       rw [hNC] at hbx hnext
       obtain ⟨Hwq, Hx, Hxm, Hav, Hbx, Hbv, HTT, Hv1⟩ := hd8 hwq hx hxm hav hbx hbv hTT hv1
       obtain ⟨HV1E, HSj, Hbjj, HNC, HB1, Hrange, Hnext⟩ := hd7 hv1' hSj hbjj hNC hB1 hrange hnext
       clear hnext hrange hB1 hNC hbjj hSj hv1' hv1 hTT hbv hbx hav hxm hx hwq
       go_upto_region 15 with fail
       rw [HV1E.out, ← HTT.out]
       clear n0 n1 n2 n3 n4 n5 n6 n7 n8 n9 n10 n11 c65
       go_wp2_with (refine wpList_load_mid rfl 55 _ rfl T 0 rfl (ncells x (.slice AA x.args.length aac)) _ Hrange.out Tryd.underlying55 rfl (by kernel_rfl) ?_)
       try rw [HNC.out]
       refine Hnext.out.mono ?_
       rintro e v2 ⟨⟨lv, rfl, hLn⟩, hb12⟩
       have hLs := hLn
       unfold OwnL at hLs
       obtain ⟨LA, lc, rfl, hlc1, hlc2, _⟩ := own_any hLs
       obtain ⟨m4, hm4⟩ : ∃ m4, (nextL x).length = m4 := ⟨_, rfl⟩
       have hxt := Hnx.out x Hxm.out
       rw [hm4] at hLs hlc1
       unfold maxLen at hlc2
       obtain ⟨g3, rfl⟩ : ∃ g3 : Nat, g3 = gk := ⟨_, rfl⟩
       have hE4 := Hbx.out.extend (x := .row (.slice LA m4 lc) 3 1 m4 ((nextL x).map (Value.int .i64))) (only_of_below hb12 none) (It.At.lower (x := .row (.slice LA m4 lc) 3 1 m4 ((nextL x).map (Value.int .i64))) hLs Hbx.out.size) (fun b e => (hLs.lt b e).1)
       have hb4 := Hbv.out.trans (hb12.mono Hbx.out.size)
       rw [hm4]
       obtain ⟨HLn, HLs, HE4, Hb4, Hb12, Hm4, Hxt⟩ := hd7 hLn hLs hE4 hb4 hb12 hm4 hxt
       clear hxt hm4 hb12 hb4 hE4 hLs hLn
       go_wp2_with fail
       go_loopg [82] m4 (fun hk4 iv wz => ∃ (j4 : Nat) (F4 : Fam), j4 + hk4 = m4 ∧ iv = .int .i64 j4 ∧ Hid (F4.g = G) ∧ Hid (EmAt wz base Y E (.row (.slice LA m4 lc) 3 1 m4 ((nextL x).map (Value.int .i64)) :: .blk T 55 NC :: ([lvRow pb N N (ptrs G 1 N N), lvRow ib N N (ptrs G 0 N N)] ++ (famIts n (2 * N) F4 ++ rest)))) ∧ Hid (FamOK n (2 * N) F4 (orsP Sj i ((nextL x).take j4))) ∧ Hid (Below base w wz))
       case atStart => exact ⟨0, F3, by omega, rfl, hGF3, HE4, hok3, Hb4⟩
       case round =>
        obtain ⟨j4, F4, hj4, rfl, hGF4, hE4', hok4, hbj4⟩ := hrel
        by_cases hj4m : j4 < m4
        ·obtain ⟨t4, ht4⟩ : ∃ t4, (nextL x)[j4]? = some t4 := ⟨_, List.getElem?_eq_getElem (by rw [Hm4.out]; exact hj4m)⟩
         obtain ⟨ht0, ht1⟩ := Hxt.out t4 (List.mem_of_getElem? ht4)
         obtain ⟨t, rfl⟩ : ∃ t : Nat, t4 = (t : Int) := ⟨t4.toNat, by omega⟩
         obtain ⟨ad, u, hA, _, hu, hcu⟩ := (Reads.of_own hE4'.out.own).at_ hj4m
         subst hA
         have hu2 : u = .int .i64 (t : Nat) := by
          rw [List.getElem?_map, ht4] at hu
          injection hu with hu
          exact hu.symm
         subst hu2
         have hj4I : (j4 : Int) < m4 := by omega
         have htN : t < N := by omega
         obtain ⟨s1, _, _⟩ := hE4'.out.rowCell (i := 2) rfl (show i < N by omega) (ptrs_get (show i < N by omega) (show i < N by omega))
         obtain ⟨s0, _, _⟩ := hE4'.out.rowCell (i := 3) rfl htN (ptrs_get htN htN)
         have f12 := hE4'.out.fn.2.2.2.2.2.2.2.2
         have hYpv : Y.pv = .slice (some ⟨pb, 0, none⟩) N N := by rw [HY.out]
         have hYfp : Y.fp = X.fp := by rw [HY.out]
         rw [hYpv, hYfp] at f12
         have hsn : orsP Sj i ((nextL x).take (j4 + 1)) = setAt (orsP Sj i ((nextL x).take j4)) (2 * i + 1) (orS (orsP Sj i ((nextL x).take j4) (2 * i + 1)) (orsP Sj i ((nextL x).take j4) (2 * t))) := by
          rw [List.take_add_one, ht4, Option.toList_some, orsP_snoc, Int.toNat_natCast]
         have hbdj : BdL n (orsP Sj i ((nextL x).take j4)) := by
          rw [← HSj.out]
          exact (BdL.sweep hbd2.out Hrd.out).ors _
         have hEd := hE4'.out.drew
         have hset := EmAt.fam (l1 := [.row (.slice (some ad) m4 lc) 3 1 m4 ((nextL x).map (Value.int .i64)), .blk T 55 NC, lvRow pb N N (ptrs G 1 N N), lvRow ib N N (ptrs G 0 N N)]) (k := 2 * t) hEd hok4.out (by omega)
         have hor := or_fam (l1 := [.row (.slice (some ad) m4 lc) 3 1 m4 ((nextL x).map (Value.int .i64)), .blk T 55 NC, lvRow pb N N (ptrs G 1 N N), lvRow ib N N (ptrs G 0 N N)]) (k := 2 * i + 1) hEd hok4.out (by omega) hset (fun p hp => hbdj _ p hp) (HT.out _ hbj4.out.drew) htb
         rw [hGF4.out] at hor
         obtain ⟨Ht4, Hu, HYpv, HYfp, Hsn, Hbdj, HEd, Hset⟩ := hd8 ht4 hu hYpv hYfp hsn hbdj hEd hset
         have Hor := Lib.hid hor
         clear hor hset hEd hbdj hsn hYfp hYpv hu ht4
         go_upto_region 18 with fail
         refine wp_region_lateM (S := fun W => W.cell? ⟨X.fp, 12, none⟩ = some (.slice (some ⟨pb, 0, none⟩) N N) ∧ W.cell? ⟨pb, i, none⟩ = some (.pointer (some ⟨G (2 * i + 1), 0, none⟩)) ∧ W.cell? ⟨ib, t, none⟩ = some (.pointer (some ⟨G (2 * t), 0, none⟩))) #[false, false, false, false, false, false, false, false, false, false, false, true] (by kernel_rfl) ⟨f12, s1, s0⟩ (fun hHeld => ?_)
         refine wpAnyM_tk 0 ?_
         refine wpAnyM_tk 1 ?_
         refine wpAnyM_tk 2 ?_
         refine wpAnyM_tk 3 ?_
         refine wpAnyM_tk 4 ?_
         refine wpAnyM_tk 5 ?_
         refine wpAnyM_tk 6 ?_
         refine wpAnyM_tk 7 ?_
         refine wpAnyM_tk 8 ?_
         refine wpAnyM_tk 9 ?_
         refine wpAnyM_tk 10 ?_
         refine wpAnyM_last (i := 11) (by kernel_rfl) rfl ⟨11, by kernel_rfl, by kernel_rfl⟩ (fun K hK => ?_)
         go_simp
         refine Hor.out.mono ?_
         rintro e v5 ⟨rfl, ⟨F5, hF5, _, hE5', hok5'⟩, hb5'⟩
         refine hK.out _ _ ?_
         clear hK K
         try simp only [Act.put, List.getElem_toArray, List.getElem_cons_zero, List.getElem_cons_succ, List.setIfInBounds_toArray, List.set_cons_zero, List.set_cons_succ]
         refine wpAnyM_done (by kernel_rfl) ?_ _
         rw [← Hsn.out] at hok5'
         have hGF5 : F5.g = G := hF5
         have hb6' := (hbj4.out.drew).trans hb5'
         clear f12 s0 s1 hHeld hcu
         obtain ⟨HE5', Hok5', Hb5', Hb6', HF5, HGF5⟩ := hd6 hE5' hok5' hb5' hb6' hF5 hGF5
         clear hGF5 hF5 hb6' hb5' hok5' hE5'
         go_wp2_with fail
         go_roundg (gk - 1)
         case measure => omega
         case rel => exact ⟨j4 + 1, F5, by omega, by simp, HGF5, HE5', Hok5', Hb6'⟩
        ·obtain rfl : m4 = j4 := by omega
         have hm4I : ¬ (m4 : Int) < m4 := by omega
         rw [List.take_of_length_le (by rw [Hm4.out]; exact Nat.le_refl _)] at hok4
         obtain ⟨S1, hS1⟩ : ∃ S1, orsP Sj i (nextL x) = S1 := ⟨_, rfl⟩
         rw [hS1] at hok4
         have hbd1 : BdL n S1 := by
          rw [← hS1, ← HSj.out]
          exact (BdL.sweep hbd2.out Hrd.out).ors _
         obtain ⟨s1, _, _⟩ := hE4'.out.rowCell (i := 2) rfl (show i < N by omega) (ptrs_get (show i < N by omega) (show i < N by omega))
         have f12 := hE4'.out.fn.2.2.2.2.2.2.2.2
         have hYpv : Y.pv = .slice (some ⟨pb, 0, none⟩) N N := by rw [HY.out]
         have hYfp : Y.fp = X.fp := by rw [HY.out]
         rw [hYpv, hYfp] at f12
         have hcp := copy_fam (l1 := [.blk T 55 NC, lvRow pb N N (ptrs G 1 N N), lvRow ib N N (ptrs G 0 N N)]) (k := 2 * i + 1) hE4'.out.drop hok4.out (by omega) hn0
         rw [hGF4.out] at hcp
         obtain ⟨P1, hP1⟩ : ∃ P1, S1 (2 * i + 1) = P1 := ⟨_, rfl⟩
         rw [hP1] at hcp
         obtain ⟨g4, rfl⟩ : ∃ g4 : Nat, g4 = gk := ⟨_, rfl⟩
         obtain ⟨wz4, hwz4⟩ : ∃ wz4, wz4 = wr := ⟨_, rfl⟩
         obtain ⟨HS1, Hbd1, HYpv, HYfp, Hcp, HP1, Hwz4⟩ := hd7 hS1 hbd1 hYpv hYfp hcp hP1 hwz4
         clear hwz4 hP1 hcp hYfp hYpv hbd1 hS1
         go_wp2_with fail
         refine Hcp.out.mono ?_
         rintro e v6 ⟨F1, rfl, hE6, hok6, hb6⟩
         clear f12 s1
         obtain ⟨sg, hsg⟩ : ∃ sg, F1.g 0 = sg := ⟨_, rfl⟩
         rw [hsg]
         have hb6' := hbj4.out.trans hb6
         have hB6 : Blk v6 T 55 NC := (hE6.idx (i := 2) rfl).2
         have hrange6 : v6.rangeAt T 0 (ncells x (.slice AA x.args.length aac)) := fun j v hv => by
          rw [hB6.cell (0 + j), Nat.zero_add, ← HNC.out, List.getElem?_toArray]
          exact hv
         have hwrite := writes_own v6 x (.slice AA x.args.length aac)
         rw [HNC.out] at hwrite
         have hwt := Hwr.out x Hxm.out
         obtain ⟨HE6, Hok6, Hb6, Hsg, Hb6', HB6, Hrange6, Hwrite⟩ := hd8 hE6 hok6 hb6 hsg hb6' hB6 hrange6 hwrite
         clear hwrite hrange6 hB6 hb6' hsg hb6 hok6 hE6
         go_wp2_with (refine wpList_load_mid rfl 55 _ rfl T 0 rfl (ncells x (.slice AA x.args.length aac)) _ Hrange6.out Tryd.underlying55 rfl (by kernel_rfl) ?_)
         try rw [HNC.out]
         refine Hwrite.out.mono ?_
         rintro e v7 ⟨⟨lv, rfl, hLw⟩, hb7⟩
         have hLs := hLw
         unfold OwnL at hLs
         obtain ⟨WA, wc, rfl, hwc1, hwc2, _⟩ := own_any hLs
         obtain ⟨m5, hm5⟩ : ∃ m5, (writesL x).length = m5 := ⟨_, rfl⟩
         rw [hm5] at hLs hwc1
         unfold maxLen at hwc2
         have hE7 := HE6.out.extend (x := .row (.slice WA m5 wc) 3 1 m5 ((writesL x).map (Value.int .i64))) (only_of_below hb7 none) (It.At.lower (x := .row (.slice WA m5 wc) 3 1 m5 ((writesL x).map (Value.int .i64))) hLs HE6.out.size) (fun b e => (hLs.lt b e).1)
         have hb7' := Hb6'.out.trans (hb7.mono HE6.out.size)
         rw [hm5]
         obtain ⟨HLw, HLs, HE7, Hb7', Hb7, Hm5, Hwt⟩ := hd7 hLw hLs hE7 hb7' hb7 hm5 hwt
         clear hwt hm5 hb7 hb7' hE7 hLs hLw
         go_wp2_with fail
         go_loopg [110] m5 (fun gk iv wz => ∃ (j5 : Nat) (F5 : Fam), j5 + gk = m5 ∧ iv = .int .i64 j5 ∧ Hid (F5.g 0 = sg) ∧ Hid (EmAt wz base Y E (.row (.slice WA m5 wc) 3 1 m5 ((writesL x).map (Value.int .i64)) :: (famIts n 1 F5 ++ ([.blk T 55 NC, lvRow pb N N (ptrs G 1 N N), lvRow ib N N (ptrs G 0 N N)] ++ (famIts n (2 * N) F4 ++ rest))))) ∧ Hid (FamOK n 1 F5 (fun _ => delsS P1 ((writesL x).take j5))) ∧ Hid (Below base w wz))
         case atStart => exact ⟨0, F1, by omega, rfl, Hsg, HE7, Hok6, Hb7'⟩
         case round =>
          obtain ⟨j5, F5, hj5, rfl, hGF5, hE5', hok5', hbj5⟩ := hrel
          by_cases hj5m : j5 < m5
          ·obtain ⟨t4, ht4⟩ : ∃ t4, (writesL x)[j5]? = some t4 := ⟨_, List.getElem?_eq_getElem (by rw [Hm5.out]; exact hj5m)⟩
           obtain ⟨ht0, ht1⟩ := Hwt.out t4 (List.mem_of_getElem? ht4)
           obtain ⟨t, rfl⟩ : ∃ t : Nat, t4 = (t : Int) := ⟨t4.toNat, by omega⟩
           obtain ⟨ad, u, hA, _, hu, hcu⟩ := (Reads.of_own hE5'.out.own).at_ hj5m
           subst hA
           have hu2 : u = .int .i64 (t : Nat) := by
            rw [List.getElem?_map, ht4] at hu
            injection hu with hu
            exact hu.symm
           subst hu2
           have hj5I : (j5 : Int) < m5 := by omega
           have hsn : delsS P1 ((writesL x).take (j5 + 1)) = delS (delsS P1 ((writesL x).take j5)) t := by
            rw [List.take_add_one, ht4, Option.toList_some, delsS_snoc, Int.toNat_natCast]
           have hdl := del_fam (l1 := [.row (.slice (some ad) m5 wc) 3 1 m5 ((writesL x).map (Value.int .i64))]) (k := 0) (p := t) hE5'.out hok5'.out (by omega) (by omega)
           rw [hGF5.out] at hdl
           obtain ⟨Ht4, Hu, Hsn, Hdl⟩ := hd4 ht4 hu hsn hdl
           clear hdl hsn hu ht4
           go_wp2_with fail
           refine Hdl.out.mono ?_
           rintro e v8 ⟨⟨rb, rfl⟩, ⟨F6, hF6, _, hE8, hok8⟩, hb8⟩
           have hok9 := hok8.one
           rw [← Hsn.out] at hok9
           have hG6 : F6.g 0 = sg := by rw [hF6]; exact hGF5.out
           have hb9 := hbj5.out.trans hb8
           clear hcu
           obtain ⟨HE8, Hok8, Hok9, Hb8, Hb9, HF6, HG6⟩ := hd7 hE8 hok8 hok9 hb8 hb9 hF6 hG6
           clear hG6 hF6 hb9 hb8 hok9 hok8 hE8
           go_wp2_with fail
           go_roundg (gk - 1)
           case measure => omega
           case rel => exact ⟨j5 + 1, F6, by omega, by simp, HG6, HE8, Hok9, Hb9⟩
          ·obtain rfl : m5 = j5 := by omega
           have hm5I : ¬ (m5 : Int) < m5 := by omega
           rw [List.take_of_length_le (by rw [Hm5.out]; exact Nat.le_refl _)] at hok5'
           obtain ⟨P2, hP2⟩ : ∃ P2, delsS P1 (writesL x) = P2 := ⟨_, rfl⟩
           rw [hP2] at hok5'
           have hE6b := hE5'.out.drop
           have hB7 : Blk wr T 55 NC := (hE6b.idx (i := 2) rfl).2
           have hrange7 : wr.rangeAt T 0 (ncells x (.slice AA x.args.length aac)) := fun j v hv => by
            rw [hB7.cell (0 + j), Nat.zero_add, ← HNC.out, List.getElem?_toArray]
            exact hv
           have hread := reads_own wr x (.slice AA x.args.length aac) base hE6b.size (Hav.out.below hbj5.out) (Hal.out x Hxm.out)
           rw [HNC.out] at hread
           have hrt := Hrd.out x Hxm.out
           obtain ⟨g5, rfl⟩ : ∃ g5 : Nat, g5 = gk := ⟨_, rfl⟩
           obtain ⟨wz5, hwz5⟩ : ∃ wz5, wz5 = wr := ⟨_, rfl⟩
           obtain ⟨HP2, HE6b, HB7, Hrange7, Hread, Hrt, Hwz5⟩ := hd7 hP2 hE6b hB7 hrange7 hread hrt hwz5
           clear hwz5 hrt hread hrange7 hB7 hE6b hP2
           go_wp2_with (refine wpList_load_mid rfl 55 _ rfl T 0 rfl (ncells x (.slice AA x.args.length aac)) _ Hrange7.out Tryd.underlying55 rfl (by kernel_rfl) ?_)
           try rw [HNC.out]
           refine Hread.out.mono ?_
           rintro e v7 ⟨⟨lv, rfl, hLr⟩, hb7⟩
           have hLs := hLr
           unfold OwnL at hLs
           obtain ⟨RA, rc, rfl, hrc1, hrc2, _⟩ := own_any hLs
           obtain ⟨m6, hm6⟩ : ∃ m6, (readsL x).length = m6 := ⟨_, rfl⟩
           rw [hm6] at hLs hrc1
           unfold maxLen at hrc2
           have hE7 := HE6b.out.extend (x := .row (.slice RA m6 rc) 3 1 m6 ((readsL x).map (Value.int .i64))) (only_of_below hb7 none) (It.At.lower (x := .row (.slice RA m6 rc) 3 1 m6 ((readsL x).map (Value.int .i64))) hLs HE6b.out.size) (fun b e => (hLs.lt b e).1)
           have hb7' := hbj5.out.trans (hb7.mono HE6b.out.size)
           rw [hm6]
           obtain ⟨HLr, HLs, HE7, Hb7', Hb7, Hm6⟩ := hd6 hLr hLs hE7 hb7' hb7 hm6
           clear hm6 hb7 hb7' hE7 hLs hLr
           go_wp2_with fail
           go_loopg [121] m6 (fun gk iv wz => ∃ (j6 : Nat) (F6 : Fam), j6 + gk = m6 ∧ iv = .int .i64 j6 ∧ Hid (F6.g 0 = sg) ∧ Hid (EmAt wz base Y E (.row (.slice RA m6 rc) 3 1 m6 ((readsL x).map (Value.int .i64)) :: (famIts n 1 F6 ++ ([.blk T 55 NC, lvRow pb N N (ptrs G 1 N N), lvRow ib N N (ptrs G 0 N N)] ++ (famIts n (2 * N) F4 ++ rest))))) ∧ Hid (FamOK n 1 F6 (fun _ => addsS P2 ((readsL x).take j6))) ∧ Hid (Below base w wz))
           case atStart => exact ⟨0, F5, by omega, rfl, hGF5, HE7, hok5', Hb7'⟩
           case round =>
            obtain ⟨j6, F6, hj6, rfl, hGF6, hE6', hok6', hbj6⟩ := hrel
            by_cases hj6m : j6 < m6
            ·obtain ⟨t4, ht4⟩ : ∃ t4, (readsL x)[j6]? = some t4 := ⟨_, List.getElem?_eq_getElem (by rw [Hm6.out]; exact hj6m)⟩
             obtain ⟨ht0, ht1⟩ := Hrt.out t4 (List.mem_of_getElem? ht4)
             obtain ⟨t, rfl⟩ : ∃ t : Nat, t4 = (t : Int) := ⟨t4.toNat, by omega⟩
             obtain ⟨ad, u, hA, _, hu, hcu⟩ := (Reads.of_own hE6'.out.own).at_ hj6m
             subst hA
             have hu2 : u = .int .i64 (t : Nat) := by
              rw [List.getElem?_map, ht4] at hu
              injection hu with hu
              exact hu.symm
             subst hu2
             have hj6I : (j6 : Int) < m6 := by omega
             have hsn : addsS P2 ((readsL x).take (j6 + 1)) = addS (addsS P2 ((readsL x).take j6)) t := by
              rw [List.take_add_one, ht4, Option.toList_some, addsS_snoc, Int.toNat_natCast]
             have hdl := add_fam (l1 := [.row (.slice (some ad) m6 rc) 3 1 m6 ((readsL x).map (Value.int .i64))]) (k := 0) (p := t) hE6'.out hok6'.out (by omega) (by omega)
             rw [hGF6.out] at hdl
             obtain ⟨Ht4, Hu, Hsn, Hdl⟩ := hd4 ht4 hu hsn hdl
             clear hdl hsn hu ht4
             go_wp2_with fail
             refine Hdl.out.mono ?_
             rintro e v8 ⟨⟨rb, rfl⟩, ⟨F7, hF7, _, hE8, hok8⟩, hb8⟩
             have hok9 := hok8.one
             rw [← Hsn.out] at hok9
             have hG7 : F7.g 0 = sg := by rw [hF7]; exact hGF6.out
             have hb9 := hbj6.out.trans hb8
             clear hcu
             obtain ⟨HE8, Hok8, Hok9, Hb8, Hb9, HF7, HG7⟩ := hd7 hE8 hok8 hok9 hb8 hb9 hF7 hG7
             clear hG7 hF7 hb9 hb8 hok9 hok8 hE8
             go_wp2_with fail
             go_roundg (gk - 1)
             case measure => omega
             case rel => exact ⟨j6 + 1, F7, by omega, by simp, HG7, HE8, Hok9, Hb9⟩
            ·obtain rfl : m6 = j6 := by omega
             have hm6I : ¬ (m6 : Int) < m6 := by omega
             rw [List.take_of_length_le (by rw [Hm6.out]; exact Nat.le_refl _)] at hok6'
             have hE9 := hE6'.out.drop
             obtain ⟨s0, _, _⟩ := hE9.rowCell (i := 4) rfl (show i < N by omega) (ptrs_get (show i < N by omega) (show i < N by omega))
             have hsetS := EmAt.fam (l1 := []) (k := 0) hE9 hok6'.out (by omega)
             have hbdP : ∀ p, n ≤ p → addsS P2 (readsL x) p = false := by
              rw [← HP2.out, ← HP1.out]
              exact bd_adds _ (bd_dels _ (fun p hp => Hbd1.out _ p hp)) Hrt.out
             have hor := or_fam (l1 := [famG n F6 0, famH F6 0, .blk T 55 NC, lvRow pb N N (ptrs G 1 N N), lvRow ib N N (ptrs G 0 N N)]) (k := 2 * i) hE9 hok4.out (by omega) hsetS hbdP (HT.out _ hbj6.out) htb
             rw [hGF6.out, hGF4.out] at hor
             have hstep : stepL Sj i x = setAt S1 (2 * i) (orS (S1 (2 * i)) (addsS P2 (readsL x))) := by
              rw [← HP2.out, ← HP1.out, ← HS1.out]; rfl
             have hchg : chgL n Sj i x = newS n (S1 (2 * i)) (addsS P2 (readsL x)) := by
              rw [← HP2.out, ← HP1.out, ← HS1.out]; rfl
             rw [← hstep, ← hchg] at hor
             have hsw := sweepL_succ (n := n) (S := S) (j := j) (l := g.nodes) (x := x) (by rw [HNN.out]; exact hjm) (by rw [HNN.out, show N - (j + 1) = i by omega]; exact Hx.out)
             rw [HNN.out, show N - (j + 1) = i by omega, HSj.out, Hbjj.out] at hsw
             obtain ⟨cb, hcb⟩ : ∃ cb, chgL n Sj i x = cb := ⟨_, rfl⟩
             rw [hcb] at hor hsw
             obtain ⟨HE9, HsetS, HbdP, Hor, Hstep, Hchg, Hsw, Hcb⟩ := hd8 hE9 hsetS hbdP hor hstep hchg hsw hcb
             clear hcb hsw hchg hstep hor hbdP hsetS hE9
             cases cb
             all_goals
              go_wp2_with fail
              refine Hor.out.mono ?_
              rintro e v8 ⟨rfl, ⟨F7, hF7, _, hE8, hok8⟩, hb8⟩
              have hEf := hE8.drop.drop.drop
              have hb9 := hbj6.out.trans hb8
              have hsw1 : (sweepL n g.nodes S (j + 1)).1 = stepL Sj i x := by rw [Hsw.out]
              rw [← hsw1] at hok8
              try clear s0
              obtain ⟨HE8, HEf, Hok8, Hb8, Hb9, HF7, Hsw1⟩ := hd7 hE8 hEf hok8 hb8 hb9 hF7 hsw1
              clear hsw1 hF7 hb9 hb8 hok8 hEf hE8
              go_wp2_with fail
              go_roundg (g3 - 1)
              case measure => omega
              case rel => exact ⟨j + 1, (i : Int) - 1, F7, by omega, by omega, by simp, by rw [Hsw.out]; simp, HF7, HEf, Hok8, Hb9⟩
      ·have hkn : k = -1 := by omega
       obtain rfl : N = j := by omega
       obtain ⟨T, b', hsw⟩ : ∃ T b', sweepL n g.nodes S N = (T, b') := ⟨_, _, rfl⟩
       have hsc := cntL_sweep (n := n) (S := S) (j := N) (l := g.nodes) (by rw [HNN.out]; exact Nat.le_refl _)
       rw [hsw, HNN.out] at hsc
       have hcl := cntL_le (n := n) (S := S) (N := N)
       have hit3 := Hit3.out
       have hit2 := Hit2.out
       obtain ⟨fu', rfl⟩ : ∃ fu', fu = fu' + 1 := ⟨fu - 1, by omega⟩
       have hbdT : BdL n T := by
        have := hbd2.out.sweep (l := g.nodes) (j := N) Hrd.out
        rw [hsw] at this; exact this
       rw [hsw] at hok3
       subst hkn
       rw [hsw]
       cases b'
       case true =>
        have hnew : LvIt n g.nodes N R T true fu' (fu' + 1) := by
         refine ⟨rfl, ?_, ?_⟩
         ·rw [← hit2, iterL_more (by rw [HNN.out, hsw]), HNN.out, hsw]
         ·have := hsc.2 rfl; dsimp only at this; omega
        obtain ⟨Hnew, Hsw, Hsc, Hcl, Hit3, Hit2, HbdT⟩ := hd7 hnew hsw hsc hcl hit3 hit2 hbdT
        clear hbdT hit2 hit3 hcl hsc hsw hnew
        go_wp2_with fail
        go_roundg (fu' + 1)
        case measure => have := Hit1.out; omega
        case rel => exact ⟨T, F3, true, fu', rfl, Hnew, hGF3, HbdT, hE3', hok3, hbj3⟩
       case false =>
        have hnew : LvIt n g.nodes N R T false 0 0 := by
         refine ⟨rfl, ?_⟩
         rw [← hit2, iterL_done (by rw [HNN.out, hsw]), HNN.out, hsw]
        obtain ⟨Hnew, Hsw, Hsc, Hcl, Hit3, Hit2, HbdT⟩ := hd7 hnew hsw hsc hcl hit3 hit2 hbdT
        clear hbdT hit2 hit3 hcl hsc hsw hnew
        go_wp2_with fail
        go_roundg 0
        case measure => have := Hit1.out; omega
        case rel => exact ⟨T, F3, false, 0, rfl, Hnew, hGF3, HbdT, hE3', hok3, hbj3⟩
end
end Go.Proofs.YtnfjjliiajaijaaDoor
