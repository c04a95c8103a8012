/- Part of the proof, named by its texts: LvW IrCall. No condition of its own. -/
import Derived.Test.YtnfjjliiajaijaaDoorPfAA
import Derived.Test.YtnfjjliiajaijaaDoorPfAM
import Derived.Test.YtnfjjliiajaijaaDoorPfAK
import Derived.Test.YtnfjjliiajaijaaDoorPfAD
set_option linter.unusedVariables false
set_option linter.unusedSimpArgs false
set_option maxRecDepth 100000
set_option maxHeartbeats 16000000
namespace Go.Proofs.YtnfjjliiajaijaaDoor
open Go.RowKit
theorem zlu : (Tryd.prog.info? 126).map (fun i => (i.zero, i.size, i.bytes)) = some (some (.pointer none), 1, 8) := by kernel_rfl
abbrev zbO (A N c : Nat) (xs : List Value) : It := .row (.slice (some ⟨A, 0, none⟩) N c) 126 1 N xs
def zm8 (base : Nat) (X : EmX) (E : EmS) (rest : List It) (n N : Nat) (S : ze4) (w : World) (e : Ending) (w' : World) : Prop :=
 e = .returned (.tuple #[]) /\ (∃ pb ib F, zaz w' base { X with pv := .slice (some ⟨pb, 0, none⟩) N N } E ([zbO pb N N (zcC F.g 1 N N), zbO ib N N (zcC F.g 0 N N)] ++ (zaN n (2 * N) F ++ rest)) /\ zbV n (2 * N) F S) /\ Below base w w'
def znd (n : Nat) (l : List zam) (N : Nat) (R S : ze4) (b : Bool) (fu gk : Nat) : Prop := if b then gk = fu + 1 /\ zfE n l fu S = R /\ N * n < ze0 n S N + fu else gk = 0 /\ S = R
section
variable {w : World} {base : Nat} {X : EmX} {E : EmS} {rest : List It}
theorem zaz.fpFree (h : zaz w base X E rest) (k : Nat) : w.frozen? ⟨X.fp, k, none⟩ = false := by
 obtain ⟨cv, sv, zv, nv, Mc, J, L, lvs, _, hI⟩ := h;exact (hI.blk (i := 3) rfl).frozen k
theorem zaz.rowCell {g N c i j : Nat} {xs : List Value} {v : Value} (h : zaz w base X E rest) (hi : rest[i]? = some (zbO g N c xs)) (hj : j < N) (hv : xs[j]? = some v) : w.cell? ⟨g, j, none⟩ = some v /\ w.frozen? ⟨g, j, none⟩ = false /\ g < w.heap.size := by
 have ho : w.ownsRow base 126 1 (.slice (some ⟨g, 0, none⟩) N c) N xs := h.idx hi;obtain ⟨ad, u, hA, _, hu, hc⟩ := (zal.of_own ho).at_ hj;injection hA with hA;subst hA;rw [hv] at hu;injection hu with hu;subst hu;obtain ⟨cs, hcs⟩ := zci ho rfl;refine ⟨?_, hcs.frozen j, hcs.lt⟩;rw [Addr.add_mid, Nat.zero_add] at hc;exact hc
theorem zbV.congr {n M : Nat} {F : Fam} {S S' : ze4} (h : zbV n M F S) (he : ∀ k, k < M -> S k = S' k) : zbV n M F S' :=
 ⟨h.1, fun k hk => by rw [<- he k hk]; exact h.2 k hk⟩
theorem zbV.one {n : Nat} {F : Fam} {S : ze4} {P : Nat -> Bool} (h : zbV n 1 F (zbN S 0 P)) : zbV n 1 F (fun _ => P) := h.congr fun k hk => by
 have : k = 0 := by omega
 rw [this, zei]
theorem zmu {gb go n : Nat} {g : zad} (h : zaz w base X E rest) (hga : X.ga = ⟨gb, (go : Nat), none⟩) (hG : GrF w base gb go g) (hn : g.kinds.length = n) (hn0 : 0 < n) (hnb : n <= 1048576) (hNb : g.nodes.length <= 1048576)
  (hnx : ∀ x ∈ g.nodes, ∀ t ∈ zaR x, 0 <= t /\ t < (g.nodes.length : Int)) (hrd : ∀ x ∈ g.nodes, ∀ t ∈ zaT x, 0 <= t /\ t < (n : Int)) (hwr : ∀ x ∈ g.nodes, ∀ t ∈ zaD x, 0 <= t /\ t < (n : Int)) (hal : ∀ x ∈ g.nodes, x.args.length * 8 <= 140737488351232)
  (hT : ∀ W, Below base w W -> TabX W) (htb : 1 < base) :
  Calls Tryd.prog 38 #[.pointer (some ⟨X.fp, 0, none⟩)] w fun e w' => zm8 base X E rest n g.nodes.length (zhl n g.nodes) w e w' := by
 obtain ⟨i0, hi0, hz0, hz1, hz2⟩ := info_parts zlu;obtain ⟨R, hR⟩ := mn (zhl n g.nodes);rw [hR];obtain ⟨f0, f1, _⟩ := h.fn;rw [hga] at f1;have hfb := h.fpb.1;have hfl := h.fpb.2.1;obtain ⟨hglt, pv, kv, iv, nv, hgc, _, hKs, _, hN⟩ := id hG;have c1 := hgc 1 kv rfl;have c6 := hgc 6 nv rfl;obtain ⟨NA, nc, rfl, _, _⟩ := hN.slice;obtain ⟨KA, kc, rfl, _, _, _⟩ := hKs.slice;rw [hn] at c1;obtain ⟨N, hNN⟩ := mn (g.nodes.length);rw [hNN] at hNb hnx c6 ⊢
 have hmk : ∀ W : World, (Instr.makeSlice 99 (.int .i64 (N : Int)) (.int .i64 (N : Int))).run Tryd.prog W = .ok (.slice (some ⟨W.heap.size, 0, none⟩) N N) (W.alloc (.cells (madeCells #[.pointer none] N) 126)) := fun W => by
  have h := zdf (P := Tryd.prog) 99 126 i0 _ Tryd.underlying99 hi0 hz0 .i64 .i64 N N (Nat.le_refl _) (by rw [hz2]; omega) (by omega) W;rw [hz1, Nat.mul_one] at h;exact h
 have hmade : ∀ G o, (madeCells #[Value.pointer none] N).toList = zcC G o 0 N := fun G o => by rw [toList_madeCells_one, zj4]
 -- the two rows
 obtain ⟨ib, hib⟩ := nm (w.heap.size);obtain ⟨w1, hw1⟩ := nm (w.alloc (.cells (madeCells #[.pointer none] N) 126))
 have hE1 : zaz w1 base X E (zbO ib N N (zcC (fun _ => 0) 0 0 N) :: rest) := by
  rw [hw1, hib];exact h.extend (World.grownBy_alloc w _ none) (zc3 (Blk.new w 126 _) h.size (hmade _ _) (by rw [zel, Nat.mul_one]) (by unfold maxLen; omega)) (fun b e => by injection e with e; exact Nat.le_of_eq e)
 have hb1 : Below base w w1 := by rw [hw1]; exact (Below.refl base w).alloc h.size _
 obtain ⟨pb, hpb⟩ := nm (w1.heap.size);obtain ⟨w2, hw2⟩ := nm (w1.alloc (.cells (madeCells #[.pointer none] N) 126))
 have hE2 : zaz w2 base X E (zbO pb N N (zcC (fun _ => 0) 1 0 N) :: zbO ib N N (zcC (fun _ => 0) 0 0 N) :: rest) := by
  rw [hw2, hpb];exact hE1.extend (World.grownBy_alloc w1 _ none) (zc3 (Blk.new w1 126 _) hE1.size (hmade _ _) (by rw [zel, Nat.mul_one]) (by unfold maxLen; omega)) (fun b e => by injection e with e; exact Nat.le_of_eq e)
 have hb2 : Below base w w2 := by rw [hw2]; exact hb1.alloc hE1.size _
 have hE3 := hE2.setPv (.slice (some ⟨pb, 0, none⟩) N N);have hb3 := hb2.setCell (p := ⟨X.fp, 12, none⟩) hfb (.slice (some ⟨pb, 0, none⟩) N N);obtain ⟨w3, hw3⟩ := nm (w2.setCell ⟨X.fp, 12, none⟩ (.slice (some ⟨pb, 0, none⟩) N N));rw [<- hw3] at hE3 hb3;obtain ⟨Y, hY⟩ := nm ({ X with pv := .slice (some ⟨pb, 0, none⟩) N N } : EmX);rw [<- hY] at hE3;have c61 := (hb1.cell (p := ⟨gb, go + 6, none⟩) hglt).trans c6;have f122 := hE2.fn.2.2.2.2.2.2.2.2;have fz22 := hE2.fpFree 12;rw [hw2] at f122 fz22;clear hmade;obtain ⟨H, Hga, HG, Hgc, HKs, HN, Hn, HNN⟩ := hd8 h hga hG hgc hKs hN hn hNN;obtain ⟨Hnx, Hrd, Hwr, Hal, HT, HR, Hib, Hw1⟩ := hd8 hnx hrd hwr hal hT hR hib hw1;obtain ⟨HE1, Hb1, Hpb, Hw2, HE2, Hb2, Hw3, HE3⟩ := hd8 hE1 hb1 hpb hw2 hE2 hb2 hw3 hE3;obtain ⟨Hb3, HY⟩ := hd2 hb3 hY;clear hY hb3 hE3 hw3 hb2 hE2 hw2 hpb hb1 hE1 hw1 hib hR hT hal hwr hrd hnx hNN hn hN hKs hgc hG hga h;go_enter Tryd.func38, Tryd.ntmps38;go_upto_region 2 with fail;rw [<- Hw1.out, <- Hib.out];go_upto_region 3 with fail;rw [<- Hpb.out, <- Hw2.out, <- Hw3.out]
 have hpi : pb ≠ ib := by
  have h0 := ((HE1.out.idx (i := 0) rfl).lt ib rfl).2;have := Hpb.out
  omega
 have hip := Ne.symm hpi;clear f122 fz22 hmk c61;go_wp2_with fail;have c63 := (Hb3.out.cell (p := ⟨gb, go + 6, none⟩) hglt).trans c6
 go_loopg [36] N (fun gk iv wr => ∃ (j : Nat) (F : Fam), j + gk = N /\ iv = .int .i64 j /\ Hid (zaz wr base Y E ([zbO pb N N (zcC F.g 1 j N), zbO ib N N (zcC F.g 0 j N)] ++ (zaN n (2 * j) F ++ rest))) /\ Hid (zbV n (2 * j) F (fun _ _ => false)) /\ Hid (Below base w wr))
 case atStart => exact ⟨0, ⟨fun _ => 0, fun _ => 0, fun _ => 0, fun _ => #[]⟩, by omega, rfl, HE3, Lib.hid ⟨hnb, fun k hk => by omega⟩, Hb3⟩
 case round =>
  obtain ⟨j, F, hj, rfl, hEj, hok, hbj⟩ := hrel
  by_cases hjm : j < N
  ·have hjI : (j : Int) < N := by omega
   have hnew1' := ziE n wr.drew hnb;have f12 := hEj.out.fn.2.2.2.2.2.2.2.2
   have hYpv : Y.pv = .slice (some ⟨pb, 0, none⟩) N N := by rw [HY.out]
   have hYfp : Y.fp = X.fp := by rw [HY.out]
   rw [hYpv, hYfp] at f12;have hYl := hEj.out.fpb.2.1;rw [hYfp] at hYl;have d1 := (hbj.out.cell (p := ⟨gb, go + 1, none⟩) hglt).trans c1;have hbase := hEj.out.size;obtain ⟨HYpv, HYfp⟩ := hd2 hYpv hYfp;clear hYfp hYpv;clear c1 c63;go_upto_region 6 with fail;refine zbh (S := fun W => W.cell? ⟨X.fp, 12, none⟩ = some (.slice (some ⟨pb, 0, none⟩) N N) /\ W.cell? ⟨gb, go + 1, none⟩ = some (.slice KA n kc)) #[false, false, false, false, false, false, false, false, false, false, false, false, false, false, false, false, false, false, false, false, true, false, true] (by kernel_rfl) ⟨f12, d1⟩ (fun hHeld => ?_);refine zdd (i := 6) (v := ?_) rfl (by kernel_rfl) (by kernel_rfl) (by kernel_rfl) (by kernel_rfl) (fun _ _ _ h => h) (Or.inl ⟨by rfl, ?_⟩) (by first | assumption | exact Or.inr (by assumption)) ?_
   rotate_left
   ·intro w hSw; (try dsimp only at hSw); go_simp; try with_reducible rfl
   simp only [Act.put, List.getElem_toArray, List.getElem_cons_zero, List.getElem_cons_succ, List.setIfInBounds_toArray, List.set_cons_zero, List.set_cons_succ];refine zaj 0 ?_;refine zaj 1 ?_;refine zaj 2 ?_;refine zaj 3 ?_;refine zaj 4 ?_;refine zaj 5 ?_;refine zaj 7 ?_;refine zaj 8 ?_;refine zaj 9 ?_;refine zaj 10 ?_;refine zaj 11 ?_;refine zaj 13 ?_;refine zaj 14 ?_;refine zaj 15 ?_;refine zaj 16 ?_;refine zaj 17 ?_;refine zdy (i := 12) (by kernel_rfl) rfl (fun K hK => ?_);go_simp;refine hnew1'.mono ?_;rintro e w4 ⟨g1, q1, rfl, hg1, hq1, hs1, hb4⟩;have hb4d := Below.of_drew hb4;have e12 := (hb4d.cell (p := ⟨X.fp, 12, none⟩) hYl).trans f12;have e1 := (hb4d.cell (p := ⟨gb, go + 1, none⟩) (Nat.lt_of_lt_of_le hglt hbase)).trans d1;have hnew2 := ziE n w4 hnb;refine hK.out _ _ ⟨e12, e1⟩ (fun hHeld2 => ?_);clear hK K hHeld;refine lay ?_;refine zdy (i := 18) (by kernel_rfl) rfl (fun K hK => ?_);go_simp;refine hnew2.mono ?_;rintro e w5 ⟨g2, q2, rfl, hg2, hq2, hs2, hb5⟩;have j12 := (hb5.cell (p := ⟨X.fp, 12, none⟩) (Nat.lt_of_lt_of_le hYl hb4d.size)).trans e12;have j1 := (hb5.cell (p := ⟨gb, go + 1, none⟩) (Nat.lt_of_lt_of_le (Nat.lt_of_lt_of_le hglt hbase) hb4d.size)).trans e1;refine hK.out _ _ ⟨j12, j1⟩ (fun hHeld3 => ?_);clear hK K hHeld2;obtain ⟨F', hF0, hF1, hF2, hE5, hok5⟩ := hEj.out.make2 hok.out hb4d hg1 hq1 hs1 hb5 hg2 hq2 hs2;have hbb := (hbj.out.trans (hb4d.mono hbase)).trans (hb5.mono (Nat.le_trans hbase hb4d.size))
   obtain ⟨z0, hz0⟩ : ∃ z0, (zcC F.g 0 j N)[j]? = some z0 := ⟨_, List.getElem?_eq_getElem (by rw [zel]; exact hjm)⟩
   obtain ⟨z1, hz1⟩ : ∃ z1, (zcC F.g 1 j N)[j]? = some z1 := ⟨_, List.getElem?_eq_getElem (by rw [zel]; exact hjm)⟩
   obtain ⟨s1, r1, l1⟩ := hE5.rowCell (i := 1) rfl hjm hz0;obtain ⟨s0, r0, l0⟩ := hE5.rowCell (i := 0) rfl hjm hz1;obtain ⟨hE6, hbi⟩ := hE5.setRowR (i := 1) rfl (by rw [Nat.mul_one]; exact hjm) (.pointer (some ⟨g1, 0, none⟩));obtain ⟨hE7, hbp⟩ := hE6.setRowR (i := 0) rfl (by rw [Nat.mul_one]; exact hjm) (.pointer (some ⟨g2, 0, none⟩));have hbn := (hbb.setCell (p := ⟨ib, j, none⟩) hbi (.pointer (some ⟨g1, 0, none⟩))).setCell (p := ⟨pb, j, none⟩) hbp (.pointer (some ⟨g2, 0, none⟩))
   have p0 : (zcC F.g 0 j N).set j (.pointer (some ⟨g1, 0, none⟩)) = zcC F'.g 0 (j + 1) N := by
    rw [<- hF1]; exact zix (fun k hk => hF0 _ (by omega)) hjm
   have p1 : (zcC F.g 1 j N).set j (.pointer (some ⟨g2, 0, none⟩)) = zcC F'.g 1 (j + 1) N := by
    rw [<- hF2]; exact zix (fun k hk => hF0 _ (by omega)) hjm
   have hE8 : zaz ((w5.setCell ⟨ib, j, none⟩ (.pointer (some ⟨g1, 0, none⟩))).setCell ⟨pb, j, none⟩ (.pointer (some ⟨g2, 0, none⟩))) base Y E ([zbO pb N N (zcC F'.g 1 (j + 1) N), zbO ib N N (zcC F'.g 0 (j + 1) N)] ++ (zaN n (2 * (j + 1)) F' ++ rest)) := by
    rw [<- p0, <- p1]; exact hE7
   clear hE6 hE7;obtain ⟨Hb4, Hs1, Hb4d, Hs2, Hb5, HF0, HF1, HF2⟩ := hd8 hb4 hs1 hb4d hs2 hb5 hF0 hF1 hF2;obtain ⟨HE5, Hok5, Hbb, Hbn, HE8, Hz0', Hz1', Hp0⟩ := hd8 hE5 hok5 hbb hbn hE8 hz0 hz1 p0;have Hp1 := Lib.hid p1;clear p1 p0 hz1 hz0 hE8 hbn hbb hok5 hE5 hF2 hF1 hF0 hb5 hs2 hb4d hs1 hb4;refine lay ?_;refine zaj 19 ?_;refine zbF (i := 20) (by kernel_rfl) rfl ⟨20, by kernel_rfl, by kernel_rfl⟩ (fun K hK => ?_);go_simp;refine hK.out _ _ ?_;clear hK K;refine lay ?_;refine zdd (i := 21) (v := ?_) rfl (by kernel_rfl) (by kernel_rfl) (by kernel_rfl) (by kernel_rfl) (fun _ _ _ h => h) (Or.inl ⟨by rfl, ?_⟩) (Or.inl ⟨20, by kernel_rfl, by kernel_rfl⟩) ?_
   rotate_left
   ·intro w hSw; (try dsimp only at hSw); go_simp; try with_reducible rfl
   simp only [Act.put, List.getElem_toArray, List.getElem_cons_zero, List.getElem_cons_succ, List.setIfInBounds_toArray, List.set_cons_zero, List.set_cons_succ];refine zbF (i := 22) (by kernel_rfl) rfl ⟨22, by kernel_rfl, by kernel_rfl⟩ (fun K hK => ?_);go_simp;refine hK.out _ _ ?_;clear hK K;refine lay ?_;refine zbY (by kernel_rfl) ?_ _;clear s0 s1 r0 r1 e12 e1 j12 j1 f12 d1 hHeld3;go_wp2_with fail
   go_roundg (gk - 1)
   case measure => omega
   case rel => exact ⟨j + 1, F', by omega, by simp, HE8, Hok5, Hbn⟩
  ·obtain rfl : N = j := by omega
   have hNI : ¬ (N : Int) < N := by omega
   obtain ⟨G, hGF⟩ := mn (F.g)
   have hNs : 0 <= (N : Int) - 1 + 1 := by omega
   have hst : znd n g.nodes N R (fun _ _ => false) true (N * n + 1) (N * n + 2) := by
    refine ⟨rfl, ?_, by omega⟩;have := HR.out;unfold zhl at this;rw [HNN.out] at this;exact this
   have hbd : BdL n (fun _ _ => false) := BdL.none n;obtain ⟨HGF, Hst, Hbd⟩ := hd3 hGF hst hbd;clear hbd hst hGF;clear c1 c63 hjm hj hNs;go_wp2_with fail
   go_loopg [5] (N * n + 2) (fun gk mv wr => ∃ (S : ze4) (F : Fam) (b : Bool) (fu : Nat), mv = .bool b /\ Hid (znd n g.nodes N R S b fu gk) /\ Hid (F.g = G) /\ Hid (BdL n S) /\ Hid (zaz wr base Y E ([zbO pb N N (zcC G 1 N N), zbO ib N N (zcC G 0 N N)] ++ (zaN n (2 * N) F ++ rest))) /\ Hid (zbV n (2 * N) F S) /\ Hid (Below base w wr))
   case atStart => exact ⟨_, F, true, N * n + 1, rfl, Hst, HGF, Hbd, by rw [<- HGF.out]; exact hEj, hok, hbj⟩
   case round =>
    obtain ⟨S, F2, b, fu, rfl, hit, hGF2, hbd2, hE2', hok2, hbj2⟩ := hrel
    cases b
    case false =>
     go_wp2_with fail;go_end0;have hSR : S = R := hit.out.2;have hEz := hE2'.out;rw [<- hGF2.out, HY.out] at hEz;have hokz := hok2.out;rw [hSR] at hokz;exact ⟨rfl, ⟨pb, ib, F2, hEz, hokz⟩, hbj2.out⟩
    case true =>
     obtain ⟨wo, hwo⟩ := nm (wr);have c64 := (hbj2.out.cell (p := ⟨gb, go + 6, none⟩) hglt).trans c6;obtain ⟨hit1, hit2, hit3⟩ : gk = fu + 1 /\ zfE n g.nodes fu S = R /\ N * n < ze0 n S N + fu := hit.out;obtain ⟨Hwo, Hit1, Hit2, Hit3⟩ := hd4 hwo hit1 hit2 hit3;clear hit3 hit2 hit1 hwo;go_wp2_with fail;clear c64
     go_loopg [5, 6] N (fun hk mv iv wq => ∃ (j : Nat) (k : Int) (F3 : Fam), j + hk = N /\ k + j + 1 = N /\ iv = .int .i64 k /\ mv = .bool (zbm n g.nodes S j).2 /\ Hid (F3.g = G) /\ Hid (zaz wq base Y E ([zbO pb N N (zcC G 1 N N), zbO ib N N (zcC G 0 N N)] ++ (zaN n (2 * N) F3 ++ rest))) /\ Hid (zbV n (2 * N) F3 (zbm n g.nodes S j).1) /\ Hid (Below base w wq))
     case atStart => exact ⟨0, (N : Int) - 1, F2, by omega, by omega, rfl, rfl, hGF2, hE2', hok2, hbj2⟩
     case round =>
      obtain ⟨j, k, F3, hj, hkj, rfl, rfl, hGF3, hE3', hok3, hbj3⟩ := hrel
      by_cases hjm : j < N
      ·obtain ⟨i, rfl⟩ : ∃ i : Nat, k = (i : Int) := ⟨k.toNat, by omega⟩
       obtain ⟨wq, hwq⟩ := nm (wr)
       obtain ⟨x, hx⟩ : ∃ x, g.nodes[i]? = some x := ⟨_, List.getElem?_eq_getElem (by rw [HNN.out]; omega)⟩
       have hxm := List.mem_of_getElem? hx;obtain ⟨nad, cs, hna, hnb', _, _, ⟨av, hcs, hav⟩, z0', nj'⟩ := zaE.at_ HN.out hx
       have z0 : ∀ u, cs[0]? = some u -> wr.cell? (nad.add (i * 12)) = some u := fun u hu => (hbj3.out.cell (p := nad.add (i * 12)) (by rw [zas]; exact hnb')).trans (z0' u hu)
       have nj : ∀ j u, 0 < j -> cs[j]? = some u -> wr.cell? ⟨(nad.add (i * 12)).block, (nad.add (i * 12)).off + j, none⟩ = some u := fun j u hj hu => (hbj3.out.cell (p := ⟨(nad.add (i * 12)).block, (nad.add (i * 12)).off + j, none⟩) (by show (nad.add (i * 12)).block < base; rw [zas]; exact hnb')).trans (nj' j u hj hu)
       clear z0' nj';subst hna hcs;obtain ⟨AA, aac, hava, _, _, _⟩ := hav.slice;subst hava;have n0 : wr.cell? (nad.add (i * 12)) = some (.int .u8 x.op) := z0 _ rfl;have n1 := nj 1 _ (by omega) rfl;have n2 := nj 2 _ (by omega) rfl;have n3 := nj 3 _ (by omega) rfl;have n4 := nj 4 _ (by omega) rfl;have n5 := nj 5 _ (by omega) rfl;have n6 := nj 6 _ (by omega) rfl;have n7 := nj 7 _ (by omega) rfl;have n8 := nj 8 _ (by omega) rfl;have n9 := nj 9 _ (by omega) rfl;have n10 := nj 10 _ (by omega) rfl;have n11 := nj 11 _ (by omega) rfl;clear nj z0;have c65 := (hbj3.out.cell (p := ⟨gb, go + 6, none⟩) hglt).trans c6;have hbx := hE3'.out.box 55 (zae x (.slice AA x.args.length aac)).toArray;have hbv := hbj3.out.alloc hE3'.out.size (.cells (zae x (.slice AA x.args.length aac)).toArray 55);obtain ⟨T, hTT⟩ := nm (wr.heap.size);obtain ⟨v1, hv1⟩ := nm (wr.alloc (.cells (zae x (.slice AA x.args.length aac)).toArray 55));rw [<- hv1, <- hTT] at hbx;rw [<- hv1] at hbv;have hv1' : wr.alloc (.cells #[.int .u8 x.op, .int .u8 x.byo, .int .i64 x.d, .int .i64 x.e, .int .i64 x.a, .int .i64 x.b, .int .i64 x.f, .int .i64 x.cell, .int .u64 x.imm, .slice AA x.args.length aac, .int .i64 x.next, .int .i64 x.els] 55) = v1 := hv1.symm
       have hiI : (i : Int) < N := by omega
       obtain ⟨Sj, hSj⟩ := mn ((zbm n g.nodes S j).1);obtain ⟨bj, hbjj⟩ := mn ((zbm n g.nodes S j).2);rw [hSj] at hok3;rw [hbjj];obtain ⟨NC, hNC⟩ := mn ((zae x (.slice AA x.args.length aac)).toArray);have hB1 := hbx.blk
       have hrange : v1.rangeAt T 0 (zae x (.slice AA x.args.length aac)) := fun j v hv => by
        rw [hB1.cell (0 + j), Nat.zero_add, List.getElem?_toArray];exact hv
       have hnext := zlm v1 x (.slice AA x.args.length aac);rw [hNC] at hbx hnext;obtain ⟨Hwq, Hx, Hxm, Hav, Hbx, Hbv, HTT, Hv1⟩ := hd8 hwq hx hxm hav hbx hbv hTT hv1;obtain ⟨HV1E, HSj, Hbjj, HNC, HB1, Hrange, Hnext⟩ := hd7 hv1' hSj hbjj hNC hB1 hrange hnext;clear hnext hrange hB1 hNC hbjj hSj hv1' hv1 hTT hbv hbx hav hxm hx hwq;go_upto_region 15 with fail;rw [HV1E.out, <- HTT.out];clear n0 n1 n2 n3 n4 n5 n6 n7 n8 n9 n10 n11 c65;go_wp2_with (refine wpList_load_mid rfl 55 _ rfl T 0 rfl (zae x (.slice AA x.args.length aac)) _ Hrange.out Tryd.underlying55 rfl (by kernel_rfl) ?_)
       try rw [HNC.out]
       refine Hnext.out.mono ?_;rintro e v2 ⟨⟨lv, rfl, hLn⟩, hb12⟩;have hLs := hLn;unfold zeA at hLs;obtain ⟨LA, lc, rfl, hlc1, hlc2, _⟩ := zak hLs;obtain ⟨m4, hm4⟩ := mn ((zaR x).length);have hxt := Hnx.out x Hxm.out;rw [hm4] at hLs hlc1;unfold maxLen at hlc2;obtain ⟨g3, rfl⟩ := nm (gk : Nat);have hE4 := Hbx.out.extend (x := .row (.slice LA m4 lc) 3 1 m4 ((zaR x).map (Value.int .i64))) (zah hb12 none) (It.At.lower (x := .row (.slice LA m4 lc) 3 1 m4 ((zaR x).map (Value.int .i64))) hLs Hbx.out.size) (fun b e => (hLs.lt b e).1);have hb4 := Hbv.out.trans (hb12.mono Hbx.out.size);rw [hm4];obtain ⟨HLn, HLs, HE4, Hb4, Hb12, Hm4, Hxt⟩ := hd7 hLn hLs hE4 hb4 hb12 hm4 hxt;clear hxt hm4 hb12 hb4 hE4 hLs hLn;go_wp2_with fail
       go_loopg [82] m4 (fun hk4 iv wz => ∃ (j4 : Nat) (F4 : Fam), j4 + hk4 = m4 /\ iv = .int .i64 j4 /\ Hid (F4.g = G) /\ Hid (zaz wz base Y E (.row (.slice LA m4 lc) 3 1 m4 ((zaR x).map (Value.int .i64)) :: .blk T 55 NC :: ([zbO pb N N (zcC G 1 N N), zbO ib N N (zcC G 0 N N)] ++ (zaN n (2 * N) F4 ++ rest)))) /\ Hid (zbV n (2 * N) F4 (zgV Sj i ((zaR x).take j4))) /\ Hid (Below base w wz))
       case atStart => exact ⟨0, F3, by omega, rfl, hGF3, HE4, hok3, Hb4⟩
       case round =>
        obtain ⟨j4, F4, hj4, rfl, hGF4, hE4', hok4, hbj4⟩ := hrel
        by_cases hj4m : j4 < m4
        ·obtain ⟨t4, ht4⟩ : ∃ t4, (zaR x)[j4]? = some t4 := ⟨_, List.getElem?_eq_getElem (by rw [Hm4.out]; exact hj4m)⟩
         obtain ⟨ht0, ht1⟩ := Hxt.out t4 (List.mem_of_getElem? ht4)
         obtain ⟨t, rfl⟩ : ∃ t : Nat, t4 = (t : Int) := ⟨t4.toNat, by omega⟩
         obtain ⟨ad, u, hA, _, hu, hcu⟩ := (zal.of_own hE4'.out.own).at_ hj4m;subst hA
         have hu2 : u = .int .i64 (t : Nat) := by
          rw [List.getElem?_map, ht4] at hu;injection hu with hu;exact hu.symm
         subst hu2
         have hj4I : (j4 : Int) < m4 := by omega
         have htN : t < N := by omega
         obtain ⟨s1, _, _⟩ := hE4'.out.rowCell (i := 2) rfl (show i < N by omega) (zem (show i < N by omega) (show i < N by omega));obtain ⟨s0, _, _⟩ := hE4'.out.rowCell (i := 3) rfl htN (zem htN htN);have f12 := hE4'.out.fn.2.2.2.2.2.2.2.2
         have hYpv : Y.pv = .slice (some ⟨pb, 0, none⟩) N N := by rw [HY.out]
         have hYfp : Y.fp = X.fp := by rw [HY.out]
         rw [hYpv, hYfp] at f12
         have hsn : zgV Sj i ((zaR x).take (j4 + 1)) = zbN (zgV Sj i ((zaR x).take j4)) (2 * i + 1) (orS (zgV Sj i ((zaR x).take j4) (2 * i + 1)) (zgV Sj i ((zaR x).take j4) (2 * t))) := by
          rw [List.take_add_one, ht4, Option.toList_some, zka, Int.toNat_natCast]
         have hbdj : BdL n (zgV Sj i ((zaR x).take j4)) := by
          rw [<- HSj.out];exact (BdL.sweep hbd2.out Hrd.out).ors _
         have hEd := hE4'.out.drew;have hset := zaz.fam (l1 := [.row (.slice (some ad) m4 lc) 3 1 m4 ((zaR x).map (Value.int .i64)), .blk T 55 NC, zbO pb N N (zcC G 1 N N), zbO ib N N (zcC G 0 N N)]) (k := 2 * t) hEd hok4.out (by omega);have hor := zl1 (l1 := [.row (.slice (some ad) m4 lc) 3 1 m4 ((zaR x).map (Value.int .i64)), .blk T 55 NC, zbO pb N N (zcC G 1 N N), zbO ib N N (zcC G 0 N N)]) (k := 2 * i + 1) hEd hok4.out (by omega) hset (fun p hp => hbdj _ p hp) (HT.out _ hbj4.out.drew) htb;rw [hGF4.out] at hor;obtain ⟨Ht4, Hu, HYpv, HYfp, Hsn, Hbdj, HEd, Hset⟩ := hd8 ht4 hu hYpv hYfp hsn hbdj hEd hset;have Hor := Lib.hid hor;clear hor hset hEd hbdj hsn hYfp hYpv hu ht4;go_upto_region 18 with fail;refine zbh (S := fun W => W.cell? ⟨X.fp, 12, none⟩ = some (.slice (some ⟨pb, 0, none⟩) N N) /\ W.cell? ⟨pb, i, none⟩ = some (.pointer (some ⟨G (2 * i + 1), 0, none⟩)) /\ W.cell? ⟨ib, t, none⟩ = some (.pointer (some ⟨G (2 * t), 0, none⟩))) #[false, false, false, false, false, false, false, false, false, false, false, true] (by kernel_rfl) ⟨f12, s1, s0⟩ (fun hHeld => ?_);refine zaj 0 ?_;refine zaj 1 ?_;refine zaj 2 ?_;refine zaj 3 ?_;refine zaj 4 ?_;refine zaj 5 ?_;refine zaj 6 ?_;refine zaj 7 ?_;refine zaj 8 ?_;refine zaj 9 ?_;refine zaj 10 ?_;refine zbF (i := 11) (by kernel_rfl) rfl ⟨11, by kernel_rfl, by kernel_rfl⟩ (fun K hK => ?_);go_simp;refine Hor.out.mono ?_;rintro e v5 ⟨rfl, ⟨F5, hF5, _, hE5', hok5'⟩, hb5'⟩;refine hK.out _ _ ?_;clear hK K;refine lay ?_;refine zbY (by kernel_rfl) ?_ _;rw [<- Hsn.out] at hok5';have hGF5 : F5.g = G := hF5;have hb6' := (hbj4.out.drew).trans hb5';clear f12 s0 s1 hHeld hcu;obtain ⟨HE5', Hok5', Hb5', Hb6', HF5, HGF5⟩ := hd6 hE5' hok5' hb5' hb6' hF5 hGF5;clear hGF5 hF5 hb6' hb5' hok5' hE5';go_wp2_with fail
         go_roundg (gk - 1)
         case measure => omega
         case rel => exact ⟨j4 + 1, F5, by omega, by simp, HGF5, HE5', Hok5', Hb6'⟩
        ·obtain rfl : m4 = j4 := by omega
         have hm4I : ¬ (m4 : Int) < m4 := by omega
         rw [List.take_of_length_le (by rw [Hm4.out]; exact Nat.le_refl _)] at hok4;obtain ⟨S1, hS1⟩ := mn (zgV Sj i (zaR x));rw [hS1] at hok4
         have hbd1 : BdL n S1 := by
          rw [<- hS1, <- HSj.out];exact (BdL.sweep hbd2.out Hrd.out).ors _
         obtain ⟨s1, _, _⟩ := hE4'.out.rowCell (i := 2) rfl (show i < N by omega) (zem (show i < N by omega) (show i < N by omega));have f12 := hE4'.out.fn.2.2.2.2.2.2.2.2
         have hYpv : Y.pv = .slice (some ⟨pb, 0, none⟩) N N := by rw [HY.out]
         have hYfp : Y.fp = X.fp := by rw [HY.out]
         rw [hYpv, hYfp] at f12;have hcp := zlL (l1 := [.blk T 55 NC, zbO pb N N (zcC G 1 N N), zbO ib N N (zcC G 0 N N)]) (k := 2 * i + 1) hE4'.out.drop hok4.out (by omega) hn0;rw [hGF4.out] at hcp;obtain ⟨P1, hP1⟩ := mn (S1 (2 * i + 1));rw [hP1] at hcp;obtain ⟨g4, rfl⟩ := nm (gk : Nat);obtain ⟨wz4, hwz4⟩ := nm (wr);obtain ⟨HS1, Hbd1, HYpv, HYfp, Hcp, HP1, Hwz4⟩ := hd7 hS1 hbd1 hYpv hYfp hcp hP1 hwz4;clear hwz4 hP1 hcp hYfp hYpv hbd1 hS1;go_wp2_with fail;refine Hcp.out.mono ?_;rintro e v6 ⟨F1, rfl, hE6, hok6, hb6⟩;clear f12 s1;obtain ⟨sg, hsg⟩ := mn (F1.g 0);rw [hsg];have hb6' := hbj4.out.trans hb6;have hB6 : Blk v6 T 55 NC := (hE6.idx (i := 2) rfl).2
         have hrange6 : v6.rangeAt T 0 (zae x (.slice AA x.args.length aac)) := fun j v hv => by
          rw [hB6.cell (0 + j), Nat.zero_add, <- HNC.out, List.getElem?_toArray];exact hv
         have hwrite := zf0 v6 x (.slice AA x.args.length aac);rw [HNC.out] at hwrite;have hwt := Hwr.out x Hxm.out;obtain ⟨HE6, Hok6, Hb6, Hsg, Hb6', HB6, Hrange6, Hwrite⟩ := hd8 hE6 hok6 hb6 hsg hb6' hB6 hrange6 hwrite;clear hwrite hrange6 hB6 hb6' hsg hb6 hok6 hE6;go_wp2_with (refine wpList_load_mid rfl 55 _ rfl T 0 rfl (zae x (.slice AA x.args.length aac)) _ Hrange6.out Tryd.underlying55 rfl (by kernel_rfl) ?_)
         try rw [HNC.out]
         refine Hwrite.out.mono ?_;rintro e v7 ⟨⟨lv, rfl, hLw⟩, hb7⟩;have hLs := hLw;unfold zeA at hLs;obtain ⟨WA, wc, rfl, hwc1, hwc2, _⟩ := zak hLs;obtain ⟨m5, hm5⟩ := mn ((zaD x).length);rw [hm5] at hLs hwc1;unfold maxLen at hwc2;have hE7 := HE6.out.extend (x := .row (.slice WA m5 wc) 3 1 m5 ((zaD x).map (Value.int .i64))) (zah hb7 none) (It.At.lower (x := .row (.slice WA m5 wc) 3 1 m5 ((zaD x).map (Value.int .i64))) hLs HE6.out.size) (fun b e => (hLs.lt b e).1);have hb7' := Hb6'.out.trans (hb7.mono HE6.out.size);rw [hm5];obtain ⟨HLw, HLs, HE7, Hb7', Hb7, Hm5, Hwt⟩ := hd7 hLw hLs hE7 hb7' hb7 hm5 hwt;clear hwt hm5 hb7 hb7' hE7 hLs hLw;go_wp2_with fail
         go_loopg [110] m5 (fun gk iv wz => ∃ (j5 : Nat) (F5 : Fam), j5 + gk = m5 /\ iv = .int .i64 j5 /\ Hid (F5.g 0 = sg) /\ Hid (zaz wz base Y E (.row (.slice WA m5 wc) 3 1 m5 ((zaD x).map (Value.int .i64)) :: (zaN n 1 F5 ++ ([.blk T 55 NC, zbO pb N N (zcC G 1 N N), zbO ib N N (zcC G 0 N N)] ++ (zaN n (2 * N) F4 ++ rest))))) /\ Hid (zbV n 1 F5 (fun _ => zgQ P1 ((zaD x).take j5))) /\ Hid (Below base w wz))
         case atStart => exact ⟨0, F1, by omega, rfl, Hsg, HE7, Hok6, Hb7'⟩
         case round =>
          obtain ⟨j5, F5, hj5, rfl, hGF5, hE5', hok5', hbj5⟩ := hrel
          by_cases hj5m : j5 < m5
          ·obtain ⟨t4, ht4⟩ : ∃ t4, (zaD x)[j5]? = some t4 := ⟨_, List.getElem?_eq_getElem (by rw [Hm5.out]; exact hj5m)⟩
           obtain ⟨ht0, ht1⟩ := Hwt.out t4 (List.mem_of_getElem? ht4)
           obtain ⟨t, rfl⟩ : ∃ t : Nat, t4 = (t : Int) := ⟨t4.toNat, by omega⟩
           obtain ⟨ad, u, hA, _, hu, hcu⟩ := (zal.of_own hE5'.out.own).at_ hj5m;subst hA
           have hu2 : u = .int .i64 (t : Nat) := by
            rw [List.getElem?_map, ht4] at hu;injection hu with hu;exact hu.symm
           subst hu2
           have hj5I : (j5 : Int) < m5 := by omega
           have hsn : zgQ P1 ((zaD x).take (j5 + 1)) = zjB (zgQ P1 ((zaD x).take j5)) t := by
            rw [List.take_add_one, ht4, Option.toList_some, zjA, Int.toNat_natCast]
           have hdl := zmE (l1 := [.row (.slice (some ad) m5 wc) 3 1 m5 ((zaD x).map (Value.int .i64))]) (k := 0) (p := t) hE5'.out hok5'.out (by omega) (by omega);rw [hGF5.out] at hdl;obtain ⟨Ht4, Hu, Hsn, Hdl⟩ := hd4 ht4 hu hsn hdl;clear hdl hsn hu ht4;go_wp2_with fail;refine Hdl.out.mono ?_;rintro e v8 ⟨⟨rb, rfl⟩, ⟨F6, hF6, _, hE8, hok8⟩, hb8⟩;have hok9 := hok8.one;rw [<- Hsn.out] at hok9
           have hG6 : F6.g 0 = sg := by rw [hF6]; exact hGF5.out
           have hb9 := hbj5.out.trans hb8;clear hcu;obtain ⟨HE8, Hok8, Hok9, Hb8, Hb9, HF6, HG6⟩ := hd7 hE8 hok8 hok9 hb8 hb9 hF6 hG6;clear hG6 hF6 hb9 hb8 hok9 hok8 hE8;go_wp2_with fail
           go_roundg (gk - 1)
           case measure => omega
           case rel => exact ⟨j5 + 1, F6, by omega, by simp, HG6, HE8, Hok9, Hb9⟩
          ·obtain rfl : m5 = j5 := by omega
           have hm5I : ¬ (m5 : Int) < m5 := by omega
           rw [List.take_of_length_le (by rw [Hm5.out]; exact Nat.le_refl _)] at hok5';obtain ⟨P2, hP2⟩ := mn (zgQ P1 (zaD x));rw [hP2] at hok5';have hE6b := hE5'.out.drop;have hB7 : Blk wr T 55 NC := (hE6b.idx (i := 2) rfl).2
           have hrange7 : wr.rangeAt T 0 (zae x (.slice AA x.args.length aac)) := fun j v hv => by
            rw [hB7.cell (0 + j), Nat.zero_add, <- HNC.out, List.getElem?_toArray];exact hv
           have hread := zhb wr x (.slice AA x.args.length aac) base hE6b.size (Hav.out.below hbj5.out) (Hal.out x Hxm.out);rw [HNC.out] at hread;have hrt := Hrd.out x Hxm.out;obtain ⟨g5, rfl⟩ := nm (gk : Nat);obtain ⟨wz5, hwz5⟩ := nm (wr);obtain ⟨HP2, HE6b, HB7, Hrange7, Hread, Hrt, Hwz5⟩ := hd7 hP2 hE6b hB7 hrange7 hread hrt hwz5;clear hwz5 hrt hread hrange7 hB7 hE6b hP2;go_wp2_with (refine wpList_load_mid rfl 55 _ rfl T 0 rfl (zae x (.slice AA x.args.length aac)) _ Hrange7.out Tryd.underlying55 rfl (by kernel_rfl) ?_)
           try rw [HNC.out]
           refine Hread.out.mono ?_;rintro e v7 ⟨⟨lv, rfl, hLr⟩, hb7⟩;have hLs := hLr;unfold zeA at hLs;obtain ⟨RA, rc, rfl, hrc1, hrc2, _⟩ := zak hLs;obtain ⟨m6, hm6⟩ := mn ((zaT x).length);rw [hm6] at hLs hrc1;unfold maxLen at hrc2;have hE7 := HE6b.out.extend (x := .row (.slice RA m6 rc) 3 1 m6 ((zaT x).map (Value.int .i64))) (zah hb7 none) (It.At.lower (x := .row (.slice RA m6 rc) 3 1 m6 ((zaT x).map (Value.int .i64))) hLs HE6b.out.size) (fun b e => (hLs.lt b e).1);have hb7' := hbj5.out.trans (hb7.mono HE6b.out.size);rw [hm6];obtain ⟨HLr, HLs, HE7, Hb7', Hb7, Hm6⟩ := hd6 hLr hLs hE7 hb7' hb7 hm6;clear hm6 hb7 hb7' hE7 hLs hLr;go_wp2_with fail
           go_loopg [121] m6 (fun gk iv wz => ∃ (j6 : Nat) (F6 : Fam), j6 + gk = m6 /\ iv = .int .i64 j6 /\ Hid (F6.g 0 = sg) /\ Hid (zaz wz base Y E (.row (.slice RA m6 rc) 3 1 m6 ((zaT x).map (Value.int .i64)) :: (zaN n 1 F6 ++ ([.blk T 55 NC, zbO pb N N (zcC G 1 N N), zbO ib N N (zcC G 0 N N)] ++ (zaN n (2 * N) F4 ++ rest))))) /\ Hid (zbV n 1 F6 (fun _ => zfN P2 ((zaT x).take j6))) /\ Hid (Below base w wz))
           case atStart => exact ⟨0, F5, by omega, rfl, hGF5, HE7, hok5', Hb7'⟩
           case round =>
            obtain ⟨j6, F6, hj6, rfl, hGF6, hE6', hok6', hbj6⟩ := hrel
            by_cases hj6m : j6 < m6
            ·obtain ⟨t4, ht4⟩ : ∃ t4, (zaT x)[j6]? = some t4 := ⟨_, List.getElem?_eq_getElem (by rw [Hm6.out]; exact hj6m)⟩
             obtain ⟨ht0, ht1⟩ := Hrt.out t4 (List.mem_of_getElem? ht4)
             obtain ⟨t, rfl⟩ : ∃ t : Nat, t4 = (t : Int) := ⟨t4.toNat, by omega⟩
             obtain ⟨ad, u, hA, _, hu, hcu⟩ := (zal.of_own hE6'.out.own).at_ hj6m;subst hA
             have hu2 : u = .int .i64 (t : Nat) := by
              rw [List.getElem?_map, ht4] at hu;injection hu with hu;exact hu.symm
             subst hu2
             have hj6I : (j6 : Int) < m6 := by omega
             have hsn : zfN P2 ((zaT x).take (j6 + 1)) = ziO (zfN P2 ((zaT x).take j6)) t := by
              rw [List.take_add_one, ht4, Option.toList_some, zjL, Int.toNat_natCast]
             have hdl := zmK (l1 := [.row (.slice (some ad) m6 rc) 3 1 m6 ((zaT x).map (Value.int .i64))]) (k := 0) (p := t) hE6'.out hok6'.out (by omega) (by omega);rw [hGF6.out] at hdl;obtain ⟨Ht4, Hu, Hsn, Hdl⟩ := hd4 ht4 hu hsn hdl;clear hdl hsn hu ht4;go_wp2_with fail;refine Hdl.out.mono ?_;rintro e v8 ⟨⟨rb, rfl⟩, ⟨F7, hF7, _, hE8, hok8⟩, hb8⟩;have hok9 := hok8.one;rw [<- Hsn.out] at hok9
             have hG7 : F7.g 0 = sg := by rw [hF7]; exact hGF6.out
             have hb9 := hbj6.out.trans hb8;clear hcu;obtain ⟨HE8, Hok8, Hok9, Hb8, Hb9, HF7, HG7⟩ := hd7 hE8 hok8 hok9 hb8 hb9 hF7 hG7;clear hG7 hF7 hb9 hb8 hok9 hok8 hE8;go_wp2_with fail
             go_roundg (gk - 1)
             case measure => omega
             case rel => exact ⟨j6 + 1, F7, by omega, by simp, HG7, HE8, Hok9, Hb9⟩
            ·obtain rfl : m6 = j6 := by omega
             have hm6I : ¬ (m6 : Int) < m6 := by omega
             rw [List.take_of_length_le (by rw [Hm6.out]; exact Nat.le_refl _)] at hok6';have hE9 := hE6'.out.drop;obtain ⟨s0, _, _⟩ := hE9.rowCell (i := 4) rfl (show i < N by omega) (zem (show i < N by omega) (show i < N by omega));have hsetS := zaz.fam (l1 := []) (k := 0) hE9 hok6'.out (by omega)
             have hbdP : ∀ p, n <= p -> zfN P2 (zaT x) p = false := by
              rw [<- HP2.out, <- HP1.out];exact zkT _ (zkS _ (fun p hp => Hbd1.out _ p hp)) Hrt.out
             have hor := zl1 (l1 := [zij n F6 0, zhI F6 0, .blk T 55 NC, zbO pb N N (zcC G 1 N N), zbO ib N N (zcC G 0 N N)]) (k := 2 * i) hE9 hok4.out (by omega) hsetS hbdP (HT.out _ hbj6.out) htb;rw [hGF6.out, hGF4.out] at hor
             have hstep : zgu Sj i x = zbN S1 (2 * i) (orS (S1 (2 * i)) (zfN P2 (zaT x))) := by
              rw [<- HP2.out, <- HP1.out, <- HS1.out]; rfl
             have hchg : zmH n Sj i x = newS n (S1 (2 * i)) (zfN P2 (zaT x)) := by
              rw [<- HP2.out, <- HP1.out, <- HS1.out]; rfl
             rw [<- hstep, <- hchg] at hor;have hsw := zhM (n := n) (S := S) (j := j) (l := g.nodes) (x := x) (by rw [HNN.out]; exact hjm) (by rw [HNN.out, show N - (j + 1) = i by omega]; exact Hx.out);rw [HNN.out, show N - (j + 1) = i by omega, HSj.out, Hbjj.out] at hsw;obtain ⟨cb, hcb⟩ := mn (zmH n Sj i x);rw [hcb] at hor hsw;obtain ⟨HE9, HsetS, HbdP, Hor, Hstep, Hchg, Hsw, Hcb⟩ := hd8 hE9 hsetS hbdP hor hstep hchg hsw hcb;clear hcb hsw hchg hstep hor hbdP hsetS hE9
             cases cb
             all_goals
              go_wp2_with fail;refine Hor.out.mono ?_;rintro e v8 ⟨rfl, ⟨F7, hF7, _, hE8, hok8⟩, hb8⟩;have hEf := hE8.drop.drop.drop;have hb9 := hbj6.out.trans hb8
              have hsw1 : (zbm n g.nodes S (j + 1)).1 = zgu Sj i x := by rw [Hsw.out]
              rw [<- hsw1] at hok8
              try clear s0
              obtain ⟨HE8, HEf, Hok8, Hb8, Hb9, HF7, Hsw1⟩ := hd7 hE8 hEf hok8 hb8 hb9 hF7 hsw1;clear hsw1 hF7 hb9 hb8 hok8 hEf hE8;go_wp2_with fail
              go_roundg (g3 - 1)
              case measure => omega
              case rel => exact ⟨j + 1, (i : Int) - 1, F7, by omega, by omega, by simp, by rw [Hsw.out]; simp, HF7, HEf, Hok8, Hb9⟩
      ·have hkn : k = -1 := by omega
       obtain rfl : N = j := by omega
       obtain ⟨T, b', hsw⟩ : ∃ T b', zbm n g.nodes S N = (T, b') := ⟨_, _, rfl⟩
       have hsc := zjC (n := n) (S := S) (j := N) (l := g.nodes) (by rw [HNN.out]; exact Nat.le_refl _);rw [hsw, HNN.out] at hsc;have hcl := zmG (n := n) (S := S) (N := N);have hit3 := Hit3.out;have hit2 := Hit2.out
       obtain ⟨fu', rfl⟩ : ∃ fu', fu = fu' + 1 := ⟨fu - 1, by omega⟩
       have hbdT : BdL n T := by
        have := hbd2.out.sweep (l := g.nodes) (j := N) Hrd.out;rw [hsw] at this; exact this
       rw [hsw] at hok3;subst hkn;rw [hsw]
       cases b'
       case true =>
        have hnew : znd n g.nodes N R T true fu' (fu' + 1) := by
         refine ⟨rfl, ?_, ?_⟩
         ·rw [<- hit2, zjp (by rw [HNN.out, hsw]), HNN.out, hsw]
         ·have := hsc.2 rfl; dsimp only at this; omega
        obtain ⟨Hnew, Hsw, Hsc, Hcl, Hit3, Hit2, HbdT⟩ := hd7 hnew hsw hsc hcl hit3 hit2 hbdT;clear hbdT hit2 hit3 hcl hsc hsw hnew;go_wp2_with fail
        go_roundg (fu' + 1)
        case measure => have := Hit1.out; omega
        case rel => exact ⟨T, F3, true, fu', rfl, Hnew, hGF3, HbdT, hE3', hok3, hbj3⟩
       case false =>
        have hnew : znd n g.nodes N R T false 0 0 := by
         refine ⟨rfl, ?_⟩;rw [<- hit2, zjq (by rw [HNN.out, hsw]), HNN.out, hsw]
        obtain ⟨Hnew, Hsw, Hsc, Hcl, Hit3, Hit2, HbdT⟩ := hd7 hnew hsw hsc hcl hit3 hit2 hbdT;clear hbdT hit2 hit3 hcl hsc hsw hnew;go_wp2_with fail
        go_roundg 0
        case measure => have := Hit1.out; omega
        case rel => exact ⟨T, F3, false, 0, rfl, Hnew, hGF3, HbdT, hE3', hok3, hbj3⟩
end
theorem zh4 {w : World} {B cb : Nat} {allv : Value} {gs : List zad} {ga : Addr} {g : zad} {pv kv iv nv : Value} {bound : Bool} (h : Ck w B cb allv gs ga g pv kv iv nv bound)
  (hpar : ∀ f ∈ gs, ∀ p ∈ f.params, 0 <= p /\ p < f.kinds.length) (hgl : gs.length <= 16) (x : zam) (av : Value) (D : Nat) (hD : D <= w.heap.size) (hav : zaO .i64 w D av x.args) (hal : x.args.length <= 140737488351232) (hpl : ∀ f ∈ gs, f.params.length <= 4) (hkl : ∀ f ∈ gs, f.kinds.length <= 1024) (hop : x.op = 11) :
  Calls Tryd.prog 33 #[.pointer (some ⟨cb, 0, none⟩), .agg (zae x av).toArray] w fun e w' => e = .returned (.bool (zbg gs g bound x)) /\ Below w.heap.size w w' := by
 obtain ⟨r, hr⟩ := mn (zbg gs g bound x);rw [hr];unfold zbg at hr;obtain ⟨r2, hr2⟩ := mn (opB gs g bound x);rw [hr2] at hr;obtain ⟨G, hG⟩ := nm (w.heap.size);obtain ⟨NC, hNC⟩ := nm ((zae x av).toArray : Array Value);rw [<- hNC];have hP := Blk.new w 55 NC;have hb := (Below.refl w.heap.size w).alloc (Nat.le_refl _) (.cells NC 55);have hC := h.below hb;have hA := hav.below (hb.mono hD);have hnx := zfe (w.alloc (.cells NC 55)) x av;rw [<- hNC] at hnx;obtain ⟨V, hV⟩ := nm (w.alloc (.cells NC 55));rw [<- hV] at hC hb hA hP hnx
 have hGV : G < V.heap.size := by rw [hV, World.size_alloc, hG]; omega
 rw [<- hG] at hP;obtain ⟨NA, nn, nc, css, rfl, _, _, hnn, hrest⟩ := hC.gm.nodes
 have hNS : NC.size = 12 := by rw [hNC]; rfl
 obtain ⟨Hrest, Hb, HA, HC, Hr, Hr2, HP, H⟩ := hd8 hrest hb hA hC hr hr2 hP h;obtain ⟨Hpar, Hpl, HNC, HV, Hkl, HG, Hnx, Hnn⟩ := hd8 hpar hpl hNC hV hkl hG hnx hnn;obtain ⟨Hav, HNS⟩ := hd2 hav hNS;clear hNS hav hnn hnx hG hkl hV hNC hpl hpar h hP hr2 hr hC hA hb hrest;go_enter Tryd.func33, Tryd.ntmps33;go_upto_region 1 with fail;rw [<- HV.out, <- HG.out]
 have hrange : V.rangeAt G 0 (zae x av) := fun j v hv => by
  rw [HP.out.cell (0 + j), HNC.out, Nat.zero_add, List.getElem?_toArray];exact hv
 have hag : (zae x av).toArray = NC := HNC.out.symm;have Hrange := Lib.hid hrange;clear hrange;go_wp2_with (refine wpList_load_mid rfl 55 _ rfl G 0 rfl (zae x av) _ Hrange.out Tryd.underlying55 rfl (by kernel_rfl) ?_);refine Hnx.out.mono ?_;rintro e w1 ⟨⟨v, rfl, hL⟩, hb1⟩;obtain ⟨LA, lc, rfl, _, hlc, hLr⟩ := hL;obtain ⟨L, hLe⟩ := mn (zaR x);obtain ⟨m, hm⟩ := mn (L.length);rw [hLe] at hLr ⊢;rw [hm] at hLr ⊢
 have hm2 : m <= 2 := by
  rw [<- hm, <- hLe];unfold zaR
  repeat' split
  all_goals simp
 have hC1 := HC.out.below hb1;have hbb1 := Hb.out.trans (hb1.mono Hb.out.size);have hP1 := HP.out.below hb1 hGV
 have hG1 : G < w1.heap.size := by have := hb1.size; omega
 have hA1 := HA.out.below (hb1.mono (by have := Hb.out.size; omega));have hrA := Hr.out;rw [hLe] at hrA;obtain ⟨HC1, Hbb1, HP1, HLr, HLe, Hm, HrA, HA1⟩ := hd8 hC1 hbb1 hP1 hLr hLe hm hrA hA1;clear hA1 hrA hm hLe hLr hP1 hbb1 hC1;clear hb1;go_wp2_with fail
 go_loopw [10] (fun i wq => ∃ j : Nat, j <= m /\ i = .int .i64 j /\ wq = w1 /\ Hid (∀ t ∈ L.take j, (decide (0 <= t) && decide (t < g.nodes.length)) = true)) (fun i _ => m - (intOf i).toNat)
 case atStart => exact ⟨0, by omega, rfl, rfl, (show ∀ t ∈ L.take 0, (decide (0 <= t) && decide (t < g.nodes.length)) = true from fun t ht => by simp at ht)⟩
 case round =>
  obtain ⟨j, hj, rfl, hwr, hall⟩ := hrel;subst hwr
  by_cases hjm : j < m
  ·obtain ⟨ad, u0, hAd, _, hu0, hce⟩ := HLr.out.at_ hjm;subst hAd
   obtain ⟨p, hpj, rfl⟩ : ∃ p, L[j]? = some p /\ u0 = .int .i64 p := by
    rw [List.getElem?_map, Option.map_eq_some_iff] at hu0;obtain ⟨x, h1, h2⟩ := hu0;exact ⟨x, h1, h2.symm⟩
   have hmem := List.mem_of_getElem? hpj
   have hjI : (j : Int) < m := by omega
   have g6 := HC1.out.gm.c6;have kc1 := bc HC1.out.blk 1
   have hbad : (decide (0 <= p) && decide (p < g.nodes.length)) = false -> r = false := fun hf => by
    rw [<- HrA.out]
    rcases hq : L.all (fun t => decide (0 <= t) && decide (t < g.nodes.length)) with _ | _
    ·rfl
    ·rw [List.all_eq_true.1 hq p hmem] at hf; cases hf
   clear hu0
   by_cases c0 : 0 <= p
   ·by_cases c1 : p < nn
    ·have hs : ∀ t ∈ L.take (j + 1), (decide (0 <= t) && decide (t < g.nodes.length)) = true := fun t ht => by
      rw [List.take_add_one, hpj] at ht
      rcases List.mem_append.1 ht with ht | ht
      ·exact hall.out t ht
      ·simp at ht; rw [ht, Hnn.out]; simp [c0, c1]
     have c0' : ¬ p < 0 := by omega
     have c1' : ¬ (nn : Int) <= p := by omega
     obtain ⟨Hs, Hall, Hpj, Hmem, Hbad⟩ := hd5 hs hall hpj hmem hbad;clear hbad hmem hpj hall hs;clear c0 c1;go_wp2_with fail;exact ⟨⟨j + 1, by omega, by go_num, trivial, Lib.hid Hs.out⟩, by simp [intOf]; omega⟩
    ·have hs := hbad (by rw [Hnn.out]; simp [c1])
     have c0' : ¬ p < 0 := by omega
     have c1' : (nn : Int) <= p := by omega
     obtain ⟨Hs, Hall, Hpj, Hmem, Hbad⟩ := hd5 hs hall hpj hmem hbad;clear hbad hmem hpj hall hs;clear c0 c1;go_wp2_with fail;go_ret;rw [Hs.out];exact ⟨rfl, Hbb1.out⟩
   ·have hs := hbad (by simp [c0])
    have c0' : p < 0 := by omega
    obtain ⟨Hs, Hall, Hpj, Hmem, Hbad⟩ := hd5 hs hall hpj hmem hbad;clear hbad hmem hpj hall hs;clear c0;go_wp2_with fail;go_ret;rw [Hs.out];exact ⟨rfl, Hbb1.out⟩
  ·have hrr : r2 = r := by
    have h1 := HrA.out;rw [List.take_of_length_le (by rw [Hm.out]; omega)] at hall;rw [List.all_eq_true.2 hall.out, Bool.true_and] at h1;exact h1
   have HCq := HC1;have Hbnd := Hbb1;have hNC2 := HNC.out;obtain ⟨op, byo, d, e_, a, b, f, cell, imm, args, next, els⟩ := x;have hPq := HP1.out;rw [hNC2] at hPq;have hPq : Blk wr G 55 #[.int .u8 op, .int .u8 byo, .int .i64 d, .int .i64 e_, .int .i64 a, .int .i64 b, .int .i64 f, .int .i64 cell, .int .u64 imm, av, .int .i64 next, .int .i64 els] := hPq;have kp0 := bc hPq 0;have kp1 := bc hPq 1;have kp2 := bc hPq 2;have kp3 := bc hPq 3;have kp4 := bc hPq 4;have kp5 := bc hPq 5;have kp6 := bc hPq 6;have kp7 := bc hPq 7;obtain ⟨Hrr, Hall, HNC2, HPq⟩ := hd4 hrr hall hNC2 hPq;clear hPq hNC2 hall hrr
   have hjI : ¬ (j : Int) < m := by omega
   simp only at hop;subst hop;have hres : (zcM gs g bound ⟨11, byo, d, e_, a, b, f, cell, imm, args, next, els⟩ && (decide (d = -1) || (isB g bound 0 [d] && (match gs[f.toNat]? with | none => false | some f => f.result) && (!bound || decide (d = 0))))) = r2 := Hr2.out;obtain ⟨ba, hba⟩ := mn (zcM gs g bound ⟨11, byo, d, e_, a, b, f, cell, imm, args, next, els⟩);have hwd : Below wr.heap.size wr wr.drew := (Below.refl wr.heap.size wr).drew;have hCd := HCq.out.below hwd;have har := ziN hCd Hpar.out hgl ⟨11, byo, d, e_, a, b, f, cell, imm, args, next, els⟩ av D (by have := HCq.out.blk.lt; have := Hbnd.out.size; show D <= wr.heap.size; omega) (HA1.out.below (hwd.mono (by have := HCq.out.blk.lt; have := Hbnd.out.size; omega))) hal Hpl.out Hkl.out;rw [hba, <- HNC2.out] at har;rw [hba] at hres
   have hrange2 : wr.drew.rangeAt G 0 (zae ⟨11, byo, d, e_, a, b, f, cell, imm, args, next, els⟩ av) := fun j v hv => by
    show wr.cell? _ = _;rw [HPq.out.cell (0 + j), Nat.zero_add];exact (List.getElem?_toArray ..).trans hv
   obtain ⟨GA, gc, hga, _, _⟩ := HCq.out.all.slice;have hall0 := HCq.out.blk;rw [hga] at hall0;have kc0 := bc hall0 0;have kc2 := bc hall0 2;obtain ⟨Z, hZ⟩ := mn (gs.length);rw [hZ] at kc0;have hcbl := HCq.out.blk.lt;obtain ⟨Hres, Har, Hrange2, Hga, Hall0, HCd, Hba, Hwd⟩ := hd8 hres har hrange2 hga hall0 hCd hba hwd;have HZ := Lib.hid hZ;clear hZ hwd hba hCd hall0 hga hrange2 har hres;have hnc : (zae ⟨11, byo, d, e_, a, b, f, cell, imm, args, next, els⟩ av).length = 12 := rfl;have HLN := Lib.hid hnc;clear hnc
   cases ba
   case false =>
    have hs : false = r2 := by rw [<- Hres.out]; rfl
    have Hs := Lib.hid hs;clear hs;go_upto_region 37 with fail;clear kp0 kp1 kp2 kp3 kp4 kp5 kp6 kp7;refine wp_region_noPanic ?_;refine wp_region_held_drew (S := fun W => W.rangeAt G 0 (zae ⟨11, byo, d, e_, a, b, f, cell, imm, args, next, els⟩ av)) (by kernel_rfl) Hrange2.out (fun hHeld => ?_);refine zab 0 ?_;refine wpAnyH_take (i := 1) rfl (by kernel_rfl) (by kernel_rfl) (by kernel_rfl) (fun _ _ _ h => h) (yieldsIf_load_mid (by rfl) 55 _ rfl G 0 rfl (zae ⟨11, byo, d, e_, a, b, f, cell, imm, args, next, els⟩ av) _ (fun w h => h) Tryd.underlying55 rfl (by kernel_rfl)) (by assumption) ?_;refine lay ?_;refine zbb 2 (fun K hK => ?_);go_simp;refine Har.out.mono ?_;rintro e w9 ⟨rfl, hb9⟩
    have hr9 : w9.rangeAt G 0 (zae ⟨11, byo, d, e_, a, b, f, cell, imm, args, next, els⟩ av) := fun j v hv => (hb9.cell (p := ⟨G, 0 + j, none⟩) HPq.out.lt).trans (Hrange2.out j v hv)
    have hfin := Hbnd.out.trans ((Hwd.out.trans (hb9.mono Hwd.out.size)).mono Hbnd.out.size);refine hK.out _ _ hr9 (fun hHeld2 => ?_);obtain ⟨Hfin, Hb9, Hr9⟩ := hd3 hfin hb9 hr9;clear hr9 hb9 hfin;clear hK K hHeld;refine lay ?_;refine zab 3 ?_;refine zac 4 ?_;refine zac 5 ?_;refine zac 6 ?_;refine zac 7 ?_;refine zac 8 ?_;refine zac 9 ?_;refine zac 10 ?_;refine zac 11 ?_;refine zac 12 ?_;refine zac 13 ?_;refine zac 14 ?_;refine zac 15 ?_;refine zac 16 ?_;refine zac 17 ?_;refine zac 18 ?_;refine zac 19 ?_;refine zac 20 ?_;refine zac 21 ?_;refine zac 22 ?_;refine zac 23 ?_;refine zac 24 ?_;refine zac 25 ?_;refine zac 26 ?_;refine zac 27 ?_;refine zac 28 ?_;refine zac 29 ?_;refine zac 30 ?_;refine zac 31 ?_;refine zac 32 ?_;refine zac 33 ?_;refine zac 34 ?_;refine zac 35 ?_;refine zac 36 ?_;refine zab 37 ?_;refine zab 38 ?_;refine wpAnyH_done (by kernel_rfl) ?_ _;refine NoPanic.normal ?_;clear hHeld2;go_wp2_with fail;go_ret;rw [<- Hrr.out, <- Hs.out];exact ⟨rfl, Hfin.out⟩
   case true =>
    have hba := Hba.out;unfold zcM at hba;simp only [Bool.and_eq_true, decide_eq_true_eq] at hba;obtain ⟨hf0, hfm⟩ := hba;obtain ⟨F, rfl⟩ := Int.eq_ofNat_of_zero_le hf0;rw [Int.toNat_natCast] at hfm
    obtain ⟨ff, hff⟩ : ∃ ff, gs[F]? = some ff := by
     cases hq : gs[F]? with
     | none => rw [hq] at hfm; cases hfm
     | some y => exact ⟨y, rfl⟩
    clear hfm
    have hFZ : F < Z := by rw [<- HZ.out]; exact (List.getElem?_eq_some_iff.1 hff).1
    have hFZi : (F : Int) < Z := by omega
    have hallq := HCq.out.all;rw [Hga.out] at hallq;obtain ⟨fad, fpv, fkv, fiv, fnv, hGA, _, hFM⟩ := hallq.at_ hff;subst hGA;have m4 := hFM.c4;have lf : (fad.add (F * 8)).block < wr.heap.size := Nat.lt_of_lt_of_le hFM.lt (by have := HCq.out.le; omega);have hs0 := Hres.out;rw [Int.toNat_natCast, hff] at hs0;simp only [Bool.true_and] at hs0;obtain ⟨fr, hfr⟩ := mn (ff.result);rw [hfr] at hs0 m4;have lG := HPq.out.lt;have kg2 : wr.drew.cell? ⟨G, 2, none⟩ = some (.int .i64 d) := kp2;have kg6 : wr.drew.cell? ⟨G, 6, none⟩ = some (.int .i64 F) := kp6;obtain ⟨Hs0, Hff, Hallq, HFM, Hfr⟩ := hd5 hs0 hff hallq hFM hfr;clear hfr hFM hallq hff hs0;go_upto_region 37 with fail;clear kp0 kp1 kp2 kp3 kp4 kp5 kp6 kp7;refine wp_region_noPanic ?_;refine wp_region_held_drew (S := fun W => W.rangeAt G 0 (zae ⟨11, byo, d, e_, a, b, ↑F, cell, imm, args, next, els⟩ av) /\ W.cell? ⟨G, 2, none⟩ = some (.int .i64 d) /\ W.cell? ⟨G, 6, none⟩ = some (.int .i64 F) /\ W.cell? ⟨cb, 0, none⟩ = some (.slice (some fad) Z gc) /\ W.cell? ⟨cb, 2, none⟩ = some (.bool bound) /\ W.cell? ⟨(fad.add (F * 8)).block, (fad.add (F * 8)).off + 4, none⟩ = some (.bool fr)) (by kernel_rfl) ⟨Hrange2.out, kg2, kg6, kc0, kc2, m4⟩ (fun hHeld => ?_);refine zab 0 ?_;refine wpAnyH_take (i := 1) rfl (by kernel_rfl) (by kernel_rfl) (by kernel_rfl) (fun _ _ _ h => h) (yieldsIf_load_mid (by rfl) 55 _ rfl G 0 rfl (zae ⟨11, byo, d, e_, a, b, ↑F, cell, imm, args, next, els⟩ av) _ (fun w h => h.1) Tryd.underlying55 rfl (by kernel_rfl)) (by assumption) ?_;refine lay ?_;refine zbb 2 (fun K hK => ?_);go_simp;refine Har.out.mono ?_;rintro e w9 ⟨rfl, hb9⟩
    have hr9 : w9.rangeAt G 0 (zae ⟨11, byo, d, e_, a, b, ↑F, cell, imm, args, next, els⟩ av) := fun j v hv => (hb9.cell (p := ⟨G, 0 + j, none⟩) lG).trans (Hrange2.out j v hv)
    have q2 := (hb9.cell (p := ⟨G, 2, none⟩) lG).trans kg2;have q6 := (hb9.cell (p := ⟨G, 6, none⟩) lG).trans kg6;have qc0 := (hb9.cell (p := ⟨cb, 0, none⟩) hcbl).trans kc0;have qc2 := (hb9.cell (p := ⟨cb, 2, none⟩) hcbl).trans kc2;have qm4 := (hb9.cell (p := ⟨(fad.add (F * 8)).block, (fad.add (F * 8)).off + 4, none⟩) lf).trans m4;have hfin := Hbnd.out.trans ((Hwd.out.trans (hb9.mono Hwd.out.size)).mono Hbnd.out.size);have hC9 := HCd.out.below hb9;refine hK.out _ _ ⟨hr9, q2, q6, qc0, qc2, qm4⟩ (fun hHeld2 => ?_);obtain ⟨Hfin, Hb9, Hr9, HC9⟩ := hd4 hfin hb9 hr9 hC9;clear hC9 hr9 hb9 hfin;clear hK K hHeld kg2 kg6 kc0 kc2 m4;refine lay ?_;refine zab 3 ?_
    by_cases hd : d = -1
    ·have hde : (d == -1) = true := by simp [hd]
     have hz : true = r2 := by rw [<- Hs0.out]; simp [hd]
     obtain ⟨Hd, HZ0⟩ := hd2 hd hz;clear hz hd;refine zab 4 ?_;refine zab 5 ?_;refine zab 6 ?_;refine zab 7 ?_;refine zac 8 ?_;refine zac 9 ?_;refine zac 10 ?_;refine zac 11 ?_;refine zac 12 ?_;refine zac 13 ?_;refine zac 14 ?_;refine zac 15 ?_;refine zac 16 ?_;refine zac 17 ?_;refine zac 18 ?_;refine zac 19 ?_;refine zac 20 ?_;refine zac 21 ?_;refine zac 22 ?_;refine zac 23 ?_;refine zac 24 ?_;refine zac 25 ?_;refine zac 26 ?_;refine zac 27 ?_;refine zac 28 ?_;refine zac 29 ?_;refine zac 30 ?_;refine zac 31 ?_;refine zac 32 ?_;refine zac 33 ?_;refine zac 34 ?_;refine zac 35 ?_;refine zab 36 ?_;refine zab 37 ?_;refine zab 38 ?_;refine wpAnyH_done (by kernel_rfl) ?_ _;refine NoPanic.normal ?_;clear hHeld2 q2 q6 qc0 qc2 qm4;go_wp2_with fail;go_ret;rw [<- Hrr.out, <- HZ0.out];exact ⟨rfl, Hfin.out⟩
    ·have hde : (d == -1) = false := by simp [hd]
     have hal9 := (Below.refl w9.heap.size w9).alloc (Nat.le_refl _) (.cells #[.int .i64 d] 3);have hCal := HC9.out.below hal9;have hfin2 := Hfin.out.trans (hal9.mono Hfin.out.size);have lG9 : G < w9.heap.size := Nat.lt_of_lt_of_le lG Hb9.out.size;have lc9 : cb < w9.heap.size := Nat.lt_of_lt_of_le hcbl Hb9.out.size;have lf9 : (fad.add (F * 8)).block < w9.heap.size := Nat.lt_of_lt_of_le lf Hb9.out.size
     have hrA : (w9.alloc (.cells #[.int .i64 d] 3)).rangeAt G 0 (zae ⟨11, byo, d, e_, a, b, ↑F, cell, imm, args, next, els⟩ av) := fun j v hv => (hal9.cell (p := ⟨G, 0 + j, none⟩) lG9).trans (Hr9.out j v hv)
     have p2 := (hal9.cell (p := ⟨G, 2, none⟩) lG9).trans q2;have p6 := (hal9.cell (p := ⟨G, 6, none⟩) lG9).trans q6;have pc0 := (hal9.cell (p := ⟨cb, 0, none⟩) lc9).trans qc0;have pc2 := (hal9.cell (p := ⟨cb, 2, none⟩) lc9).trans qc2;have pm4 := (hal9.cell (p := ⟨(fad.add (F * 8)).block, (fad.add (F * 8)).off + 4, none⟩) lf9).trans qm4;obtain ⟨bi, hbi⟩ := mn (isB g bound 0 [d]);have hz := Hs0.out;rw [hbi, show decide (d = -1) = false from decide_eq_false hd, Bool.false_or] at hz;obtain ⟨Hd, Hal9, HCal, Hfin2, HrA, Hbi, HZ0⟩ := hd7 hd hal9 hCal hfin2 hrA hbi hz;clear hz hbi hrA hfin2 hCal hal9 hd;refine zab 4 ?_;refine zab 5 ?_;refine zab 6 ?_;refine zab 7 ?_;refine zab 8 ?_;refine zab 9 ?_;refine zab 10 ?_;refine zbb 11 (fun K hK => ?_);go_simp;refine hK.out _ _ ⟨HrA.out, p2, p6, pc0, pc2, pm4⟩ (fun hHeld3 => ?_);clear hK K hHeld2 q2 q6 qc0 qc2 qm4;refine lay ?_;refine zbb 12 (fun K hK => ?_);go_simp;refine (zcu HCal.out 0 (w9.heap.size + 1) (some ⟨w9.heap.size, 0, none⟩) 1 1 [d] (zal.new1 _ _ _) rfl (by omega)).mono ?_;rintro e w8 ⟨rfl, rfl⟩;rw [Hbi.out];refine hK.out _ _ ⟨HrA.out, p2, p6, pc0, pc2, pm4⟩ (fun hHeld4 => ?_);clear hK K hHeld3;refine lay ?_;refine zab 13 ?_
     cases bi
     ·have hz : false = r2 := HZ0.out;have HZ1 := Lib.hid hz;clear hz;refine zac 14 ?_;refine zac 15 ?_;refine zac 16 ?_;refine zac 17 ?_;refine zac 18 ?_;refine zac 19 ?_;refine zac 20 ?_;refine zac 21 ?_;refine zac 22 ?_;refine zab 23 ?_;refine zab 24 ?_;refine zac 25 ?_;refine zac 26 ?_;refine zac 27 ?_;refine zac 28 ?_;refine zac 29 ?_;refine zac 30 ?_;refine zac 31 ?_;refine zac 32 ?_;refine zac 33 ?_;refine zac 34 ?_;refine zab 35 ?_;refine zab 36 ?_;refine zab 37 ?_;refine zab 38 ?_;refine wpAnyH_done (by kernel_rfl) ?_ _;refine NoPanic.normal ?_;clear hHeld4 p2 p6 pc0 pc2 pm4;go_wp2_with fail;go_ret;rw [<- Hrr.out, <- HZ1.out];exact ⟨rfl, Hfin2.out⟩
     ·skip
      refine zab 14 ?_;refine zab 15 ?_;refine zab 16 ?_;refine zab 17 ?_;refine zab 18 ?_;refine zab 19 ?_;refine zab 20 ?_;refine zab 21 ?_;refine zab 22 ?_;refine zab 23 ?_;refine zab 24 ?_
      cases fr
      ·have hz : false = r2 := HZ0.out;have HZ1 := Lib.hid hz;clear hz;refine zac 25 ?_;refine zac 26 ?_;refine zac 27 ?_;refine zac 28 ?_;refine zac 29 ?_;refine zac 30 ?_;refine zac 31 ?_;refine zac 32 ?_;refine zac 33 ?_;refine zac 34 ?_;refine zab 35 ?_;refine zab 36 ?_;refine zab 37 ?_;refine zab 38 ?_;refine wpAnyH_done (by kernel_rfl) ?_ _;refine NoPanic.normal ?_;clear hHeld4 p2 p6 pc0 pc2 pm4;go_wp2_with fail;go_ret;rw [<- Hrr.out, <- HZ1.out];exact ⟨rfl, Hfin2.out⟩
      ·cases bound
       ·have hz : true = r2 := HZ0.out;have HZ1 := Lib.hid hz;clear hz;refine zab 25 ?_;refine zab 26 ?_;refine zab 27 ?_;refine zab 28 ?_;refine zab 29 ?_;refine zab 30 ?_;refine zac 31 ?_;refine zac 32 ?_;refine zac 33 ?_;refine zab 34 ?_;refine zab 35 ?_;refine zab 36 ?_;refine zab 37 ?_;refine zab 38 ?_;refine wpAnyH_done (by kernel_rfl) ?_ _;refine NoPanic.normal ?_;clear hHeld4 p2 p6 pc0 pc2 pm4;go_wp2_with fail;go_ret;rw [<- Hrr.out, <- HZ1.out];exact ⟨rfl, Hfin2.out⟩
       ·have hz : decide (d = 0) = r2 := HZ0.out;refine zab 25 ?_;refine zab 26 ?_;refine zab 27 ?_;refine zab 28 ?_;refine zab 29 ?_;refine zab 30 ?_
        by_cases hd0 : d = 0
        ·have hd1 : (d == 0) = true := by simp [hd0]
         have hz1 : true = r2 := by rw [<- hz]; simp [hd0]
         obtain ⟨HZ1, Hz, Hd0⟩ := hd3 hz1 hz hd0;clear hd0 hz hz1;refine zab 31 ?_;refine zab 32 ?_;refine zab 33 ?_;refine zab 34 ?_;refine zab 35 ?_;refine zab 36 ?_;refine zab 37 ?_;refine zab 38 ?_;refine wpAnyH_done (by kernel_rfl) ?_ _;refine NoPanic.normal ?_;clear hHeld4 p2 p6 pc0 pc2 pm4;go_wp2_with fail;go_ret;rw [<- Hrr.out, <- HZ1.out];exact ⟨rfl, Hfin2.out⟩
        ·have hd1 : (d == 0) = false := by simp [hd0]
         have hz1 : false = r2 := by rw [<- hz]; simp [hd0]
         obtain ⟨HZ1, Hz, Hd0⟩ := hd3 hz1 hz hd0;clear hd0 hz hz1;refine zab 31 ?_;refine zab 32 ?_;refine zab 33 ?_;refine zab 34 ?_;refine zab 35 ?_;refine zab 36 ?_;refine zab 37 ?_;refine zab 38 ?_;refine wpAnyH_done (by kernel_rfl) ?_ _;refine NoPanic.normal ?_;clear hHeld4 p2 p6 pc0 pc2 pm4;go_wp2_with fail;go_ret;rw [<- Hrr.out, <- HZ1.out];exact ⟨rfl, Hfin2.out⟩
theorem zll {w : World} {B cb : Nat} {allv : Value} {gs : List zad} {ga : Addr} {g : zad} {pv kv iv nv : Value} {bound : Bool} (h : Ck w B cb allv gs ga g pv kv iv nv bound)
  (hpar : ∀ f ∈ gs, ∀ p ∈ f.params, 0 <= p /\ p < f.kinds.length) (hgl : gs.length <= 16) (x : zam) (av : Value) (D : Nat) (hD : D <= w.heap.size) (hav : zaO .i64 w D av x.args) (hal : x.args.length <= 140737488351232) (hpl : ∀ f ∈ gs, f.params.length <= 4) (hkl : ∀ f ∈ gs, f.kinds.length <= 1024) :
  Calls Tryd.prog 33 #[.pointer (some ⟨cb, 0, none⟩), .agg (zae x av).toArray] w fun e w' => e = .returned (.bool (zbg gs g bound x)) /\ Below w.heap.size w w' := by
 by_cases hop : x.op = 11
 ·exact zh4 h hpar hgl x av D hD hav hal hpl hkl hop
 ·exact zlk h hpar hgl x av D hD hav hal hpl hkl hop
end Go.Proofs.YtnfjjliiajaijaaDoor
