/- Walk of the emitter's function. Conditions: the emitter, the graph and its layout lie in memory, the graph is right. -/
import Derived.Test.YtnfjjliiajaijaaDoorPfAA
import Derived.Test.YtnfjjliiajaijaaDoorPfAS
set_option linter.unusedVariables false
set_option linter.unusedSimpArgs false
set_option maxRecDepth 100000
set_option maxHeartbeats 16000000
namespace Go.Proofs.YtnfjjliiajaijaaDoor
open Go.RowKit
structure zd1 (gs : List zad) (g : zad) : Prop where
 right : zl4 g
 fs : gs.length <= 16
 nodes : ∀ x ∈ g.nodes, zlV gs g x
 imm : ∀ x ∈ g.nodes, U64 x.imm
 args : ∀ x ∈ g.nodes, x.args.length * 8 <= 140737488351232
 reads : ∀ x ∈ g.nodes, ∀ t ∈ zaT x, 0 <= t /\ t < (g.kinds.length : Int)
 writes : ∀ x ∈ g.nodes, ∀ t ∈ zaD x, 0 <= t /\ t < (g.kinds.length : Int)
 params : ∀ p ∈ g.params, 0 <= p /\ p < (g.kinds.length : Int)
 pl : g.params.length <= 4
 il : g.init.length = g.params.length
 init : ∀ c ∈ g.init, c < g.cells
 keep : g.keep < g.cells
theorem zcG {gs : List zad} {g : zad} (T : zco) {P : List Int -> Prop} (ok : zd1 gs g) (hP : ∀ i, P (zct g i)) : Steps gs.length P (zbc T) (zdI T g) := by
 have hsv : ∀ s ∈ (xOf g).saves, s.1.toNat <= 15 := fun s hs => by
  have := zc1 g s hs; omega
 have hk := ok.right.k1;have hc0 := ok.right.c0;have hc1 := ok.right.c1;have hrk : zb9 g <= 6 := zb7 _ _
 have hsz : 0 <= (xOf g).size /\ (xOf g).size <= 65536 /\ (xOf g).size % 8 = 0 := by
  show 0 <= ((zaF g : Nat) : Int) /\ ((zaF g : Nat) : Int) <= 65536 /\ ((zaF g : Nat) : Int) % 8 = 0
  have h1 : zaG g <= 1008 := by unfold zaG; omega
  have h2 : zaU g <= 64 := by unfold zaU; omega
  have h3 : zh6 g <= 1 := by unfold zh6; split <;> omega
  unfold zaF
  omega
 unfold zdI zdb;refine Steps.end_ _ _ (Steps.nodes ((Steps.refl _).begin g.init hsv (by have := ok.il; have := ok.pl; omega) hsz) rfl ok.fs (by unfold zaG; omega) (by omega) g.nodes ok.nodes hP) hsv hsz
theorem zhz {gs : List zad} {g : zad} (T : zco) {P : List Int -> Prop} (ok : zd1 gs g) (hP : ∀ i, P (zct g i)) : Steps gs.length P ((zbc T).put [⟨11, 0, 0, 0, w32 ((zaF g : Nat) : Int)⟩]) (zdI T g) := by
 have hsv : ∀ s ∈ (xOf g).saves, s.1.toNat <= 15 := fun s hs => by
  have := zc1 g s hs; omega
 have hk := ok.right.k1;have hc0 := ok.right.c0;have hc1 := ok.right.c1;have hrk : zb9 g <= 6 := zb7 _ _
 have hsz : 0 <= (xOf g).size /\ (xOf g).size <= 65536 /\ (xOf g).size % 8 = 0 := by
  show 0 <= ((zaF g : Nat) : Int) /\ ((zaF g : Nat) : Int) <= 65536 /\ ((zaF g : Nat) : Int) % 8 = 0
  have h1 : zaG g <= 1008 := by unfold zaG; omega
  have h2 : zaU g <= 64 := by unfold zaU; omega
  have h3 : zh6 g <= 1 := by unfold zh6; split <;> omega
  unfold zaF
  omega
 have hb : Steps gs.length P ((zbc T).put [⟨11, 0, 0, 0, w32 ((zaF g : Nat) : Int)⟩]) ((zbc T).begin (xOf g) g.init) := by
  unfold EmS.begin;dsimp only;have h1 := Steps.saves (F := gs.length) (P := P) (xOf g).saves hsv (Steps.refl ((zbc T).put [⟨11, 0, 0, 0, w32 ((zaF g : Nat) : Int)⟩]));refine Steps.inits _ _ (by have := ok.il; have := ok.pl; omega) (Steps.clear _ ?_)
  split
  ·exact h1
  ·exact h1.number 0 (by omega)
 unfold zdI zdb;exact Steps.end_ _ _ (Steps.nodes hb rfl ok.fs (by unfold zaG; omega) (by omega) g.nodes ok.nodes hP) hsv hsz
theorem zew {gs : List zad} {g : zad} (T : zco) (ok : zd1 gs g) : T.code.length < (zdI T g).code.length := by
 have h := (zhz T (P := fun _ => True) ok (fun _ => trivial)).len
 have e : ((zbc T).put [⟨11, 0, 0, 0, w32 ((zaF g : Nat) : Int)⟩]).code.length = T.code.length + 1 := by unfold EmS.put zbc; simp
 omega
theorem zgj {gs : List zad} {g : zad} (T : zco) (ok : zd1 gs g) {i l : Nat} (h : (zdI T g).jumps i = some l) : T.code.length <= i /\ i < (zdI T g).code.length := by
 rcases (zcG T (P := fun _ => True) ok (fun _ => trivial)).jumps i l h with h | h
 ·cases h
 ·exact h
theorem zkA : (Tryd.prog.info? 87).map (fun i => (i.zero, i.size, i.bytes)) = some (some (.int .u8 0), 1, 1) := by kernel_rfl
theorem zdC {w : World} {base ty size n : Nat} {v : Value} {xs : List Value} (h : w.ownsRow base ty size v n xs) : w.drew.ownsRow base ty size v n xs := h
def zjN (g : zad) (l : List Int) : List Int := l.map fun p => g.kinds.getD p.toNat 0
theorem zj8 (g : zad) (l : List Int) (p : Int) : zjN g (l ++ [p]) = zjN g l ++ [g.kinds.getD p.toNat 0] := by simp [zjN]
section
variable {w : World} {base : Nat} {rest : List It}
theorem zig {gb go ep : Nat} {g : zad} {gs : List zad} {T : zco} {slv clv svv : Value} (h : zbZ w base ep T (zjY g slv :: zjZ g clv :: zi2 g svv :: rest)) (hG : GrF w base gb go g) (ok : zd1 gs g)
  (hT : ∀ W, Below base w W -> TabX W) (htb : 1 < base) (hsz : T.code.length + T.cn + T.sites.length + T.start.length + T.rows.length + 8388608 + 100000 <= 1099511627776) :
  Calls Tryd.prog 20 #[.pointer (some ⟨ep, 0, none⟩), .pointer (some ⟨gb, (go : Nat), none⟩), .agg #[.int .i64 (zaF g), slv, clv, svv, .int .i64 (zdB g)]] w fun e w' => e = .returned (.tuple #[]) /\ zbZ w' base ep (T.fn g) rest /\ Below base w w' := by
 obtain ⟨R, hR⟩ := mn (T.fn g);obtain ⟨iK, hiK, kz0, kz1, kz2⟩ := info_parts zkA;obtain ⟨iF, hiF, fz0, fz1, fz2⟩ := info_parts zly;obtain ⟨iI, hiI, iz0, iz1, iz2⟩ := info_parts zdk;rw [hR];obtain ⟨SA, sc, hsvv, _⟩ := zak (show w.ownsRow base 50 2 svv (zbG g).length (za9 (zbG g)) from h.mem (x := zi2 g svv) (List.mem_cons_of_mem _ (List.mem_cons_of_mem _ List.mem_cons_self)));obtain ⟨sn, hsn⟩ := mn ((zbG g).length);rw [hsn] at hsvv;subst hsvv;obtain ⟨svv, hsvv⟩ := mn (Value.slice SA sn sc);rw [hsvv] at h ⊢;obtain ⟨cv, stv, fv, sv, Mc, lvs, ps, hl1, hl2, k0, hent⟩ := h.enter (w' := w) (fp := 0) (J := 0) (L := 0) (gb := gb) (go := go) (new := []);obtain ⟨hE, hb⟩ := hent #[.int .i64 (zaF g), slv, clv, svv, .int .i64 (zdB g)] 73;obtain ⟨Lb, hLb⟩ := nm (w.heap.size);obtain ⟨FP, hFP⟩ := nm (w.heap.size + 1 + 1 + 1);obtain ⟨w1, hw1⟩ := nm ((((w.alloc (.cells #[.int .i64 (zaF g), slv, clv, svv, .int .i64 (zdB g)] 73)).alloc (.map #[] 0)).alloc (.map #[] 0)).alloc (.cells #[.pointer (some ⟨ep, 0, none⟩), .pointer (some ⟨gb, go, none⟩), .int .i64 (zaF g), slv, clv, svv, .int .i64 (zdB g), .map (some (w.heap.size + 1)), .map (some (w.heap.size + 1 + 1)), .slice none 0 0, .slice none 0 0, .bool false, .slice none 0 0] 101))
 have hE1 : zaz w1 base (xAt g ep FP gb go slv clv svv stv fv false (.slice none 0 0)) (zbc T) (zgq T stv fv ps ++ (.blk Lb 73 #[.int .i64 (zaF g), slv, clv, svv, .int .i64 (zdB g)] :: rest)) := by
  rw [hw1, hFP, hLb]; exact hE
 have hb1 : Below base w w1 := by rw [hw1]; exact hb
 clear hE hb hent;subst hsvv;have hmm := @run_makeMap Tryd.prog;obtain ⟨hglt, pv, kv, iv, nv, hgc, hPs, hKs, _, hN⟩ := id hG;have c0 := hgc 0 pv rfl;have c1 := hgc 1 kv rfl;have c6 := hgc 6 nv rfl;obtain ⟨NA, nc, rfl, hnc1, hnc2⟩ := hN.slice;obtain ⟨KA, kc, rfl, hkc1, hkc2, hKR⟩ := hKs.slice;have hk1 := ok.right.k1;obtain ⟨Nk, hNk⟩ := mn (g.kinds.length);rw [hNk] at c1 hKR hk1;obtain ⟨PA, pc, rfl, hpc1, hpc2, hPR⟩ := hPs.slice;obtain ⟨N, hNN⟩ := mn (g.nodes.length);have hN4 := ok.right.n1;rw [hNN] at c6 hN4;have f1 : w1.cell? ⟨FP, 1, none⟩ = some (.pointer (some ⟨gb, go, none⟩)) := hE1.fn.2.1;have c61 := (hb1.cell (p := ⟨gb, go + 6, none⟩) hglt).trans c6;obtain ⟨Np, hNp⟩ := mn (g.params.length);have hpl := ok.pl;rw [hNp] at c0 hPR hpl;obtain ⟨HPR, HKR, HNk, HNp, H, HG, Hok, HT⟩ := hd8 hPR hKR hNk hNp h hG ok hT;obtain ⟨HR, Hw1, HE1, Hb1, HFP, HLb, Hgc, HPs⟩ := hd8 hR hw1 hE1 hb1 hFP hLb hgc hPs;obtain ⟨HKs, HN, HNN⟩ := hd3 hKs hN hNN;clear hNN hN hKs hPs hgc hLb hFP hb1 hE1 hw1 hR hT ok hG h hNp hNk hKR hPR;go_enter Tryd.func20, Tryd.ntmps20;go_upto_region 2 with fail;rw [<- Hw1.out, <- HFP.out, <- HLb.out];clear hmm;go_wp2_with fail;clear f1 c61
 go_loopg [27] N (fun gk iv wr => ∃ (j : Nat) (df : Bool), j + gk = N /\ iv = .int .i64 j /\ Hid (zbi (g.nodes.take j) = df) /\ Hid (zaz wr base (xAt g ep FP gb go slv clv (.slice SA sn sc) stv fv df (.slice none 0 0)) (zbc T) (zgq T stv fv ps ++ (.blk Lb 73 #[.int .i64 (zaF g), slv, clv, .slice SA sn sc, .int .i64 (zdB g)] :: rest))) /\ Hid (Below base w wr))
 case atStart => exact ⟨0, false, by omega, rfl, Lib.hid rfl, HE1, Hb1⟩
 case round =>
  obtain ⟨j, df, hj, rfl, hdf, hEj, hbj⟩ := hrel
  by_cases hjm : j < N
  ·obtain ⟨x, hx⟩ : ∃ x, g.nodes[j]? = some x := ⟨_, List.getElem?_eq_getElem (by rw [HNN.out]; omega)⟩
   have hxm := List.mem_of_getElem? hx;obtain ⟨nad, cs, hna, hnb', _, _, ⟨av, hcs, hav⟩, z0', nj'⟩ := zaE.at_ HN.out hx
   have z0 : ∀ u, cs[0]? = some u -> wr.cell? (nad.add (j * 12)) = some u := fun u hu => (hbj.out.cell (p := nad.add (j * 12)) (by rw [zas]; exact hnb')).trans (z0' u hu)
   have nj : ∀ k u, 0 < k -> cs[k]? = some u -> wr.cell? ⟨(nad.add (j * 12)).block, (nad.add (j * 12)).off + k, none⟩ = some u := fun k u hk hu => (hbj.out.cell (p := ⟨(nad.add (j * 12)).block, (nad.add (j * 12)).off + k, none⟩) (by show (nad.add (j * 12)).block < base; rw [zas]; exact hnb')).trans (nj' k u hk hu)
   clear z0' nj';subst hna hcs;obtain ⟨AA, aac, hava, _, _, _⟩ := hav.slice;subst hava;have n0 : wr.cell? (nad.add (j * 12)) = some (.int .u8 x.op) := z0 _ rfl;have n1 := nj 1 _ (by omega) rfl;have n2 := nj 2 _ (by omega) rfl;have n3 := nj 3 _ (by omega) rfl;have n4 := nj 4 _ (by omega) rfl;have n5 := nj 5 _ (by omega) rfl;have n6 := nj 6 _ (by omega) rfl;have n7 := nj 7 _ (by omega) rfl;have n8 := nj 8 _ (by omega) rfl;have n9 := nj 9 _ (by omega) rfl;have n10 := nj 10 _ (by omega) rfl;have n11 := nj 11 _ (by omega) rfl;clear nj z0;have hbx := hEj.out.box 55 (zae x (.slice AA x.args.length aac)).toArray;have hbv := hbj.out.alloc hEj.out.size (.cells (zae x (.slice AA x.args.length aac)).toArray 55);obtain ⟨TB, hTB⟩ := nm (wr.heap.size);obtain ⟨v1, hv1⟩ := nm (wr.alloc (.cells (zae x (.slice AA x.args.length aac)).toArray 55));rw [<- hv1, <- hTB] at hbx;rw [<- hv1] at hbv;have hv1' : wr.alloc (.cells #[.int .u8 x.op, .int .u8 x.byo, .int .i64 x.d, .int .i64 x.e, .int .i64 x.a, .int .i64 x.b, .int .i64 x.f, .int .i64 x.cell, .int .u64 x.imm, .slice AA x.args.length aac, .int .i64 x.next, .int .i64 x.els] 55) = v1 := hv1.symm
   have hjI : (j : Int) < N := by omega
   have hB1 := hbx.blk;have m0 : v1.cell? ⟨TB, 0, none⟩ = some (.int .u8 x.op) := hB1.cell 0;have f11 : v1.cell? ⟨FP, 11, none⟩ = some (.bool df) := hbx.fn.2.2.2.2.2.2.2.1;have z11 : v1.frozen? ⟨FP, 11, none⟩ = false := hbx.fpFree 11;have hfpb : base <= FP := hbx.fpb.1
   have hds : zbi (g.nodes.take (j + 1)) = (df || decide (x.op = 13)) := by
    unfold zbi;rw [List.take_add_one, hx, Option.toList_some, List.any_append, <- hdf.out];simp [zbi]
   obtain ⟨Hx, Hxm, Hav, Hbx, Hbv, HTB, Hv1, HV1E⟩ := hd8 hx hxm hav hbx hbv hTB hv1 hv1';obtain ⟨HB1, Hds⟩ := hd2 hB1 hds;clear hds hB1 hv1' hv1 hTB hbv hbx hav hxm hx;go_upto_region 5 with fail;rw [HV1E.out, <- HTB.out];clear n0 n1 n2 n3 n4 n5 n6 n7 n8 n9 n10 n11
   cases df
   case true =>
    have hfin := (Hbx.out.drop).setDf true;have hbn := Hbv.out.setCell (p := ⟨FP, 11, none⟩) hfpb (.bool true)
    have hd2 : zbi (g.nodes.take (j + 1)) = true := by rw [Hds.out]; rfl
    obtain ⟨Hfin, Hbn, Hd2⟩ := hd3 hfin hbn hd2;clear hd2 hbn hfin;go_wp2_with fail
    go_roundg (gk - 1)
    case measure => omega
    case rel => exact ⟨j + 1, true, by omega, by simp, Hd2, Hfin, Hbn⟩
   case false =>
    by_cases h13 : x.op = 13
    ·have hb13 : (x.op == 13) = true := by simp [h13]
     have hfin := (Hbx.out.drop).setDf true;have hbn := Hbv.out.setCell (p := ⟨FP, 11, none⟩) hfpb (.bool true)
     have hd2 : zbi (g.nodes.take (j + 1)) = true := by rw [Hds.out, decide_eq_true h13]; rfl
     obtain ⟨Hfin, Hbn, Hd2, H13⟩ := hd4 hfin hbn hd2 h13;clear h13 hd2 hbn hfin;go_wp2_with fail
     go_roundg (gk - 1)
     case measure => omega
     case rel => exact ⟨j + 1, true, by omega, by simp, Hd2, Hfin, Hbn⟩
    ·have hb13 : (x.op == 13) = false := by simpa using h13
     have hfin := (Hbx.out.drop).setDf false;have hbn := Hbv.out.setCell (p := ⟨FP, 11, none⟩) hfpb (.bool false)
     have hd2 : zbi (g.nodes.take (j + 1)) = false := by rw [Hds.out, decide_eq_false h13]; rfl
     obtain ⟨Hfin, Hbn, Hd2, H13⟩ := hd4 hfin hbn hd2 h13;clear h13 hd2 hbn hfin;go_wp2_with fail
     go_roundg (gk - 1)
     case measure => omega
     case rel => exact ⟨j + 1, false, by omega, by simp, Hd2, Hfin, Hbn⟩
  ·obtain rfl : N = j := by omega
   have hNI : ¬ (N : Int) < N := by omega
   rw [List.take_of_length_le (by rw [HNN.out]; exact Nat.le_refl _)] at hdf;obtain ⟨CA, cc, k0'⟩ := hEj.out.code
   replace k0' : wr.cell? ⟨ep, 0, none⟩ = some (.slice CA T.code.length cc) := k0'
   have hLB : Blk wr Lb 73 #[.int .i64 (zaF g), slv, clv, .slice SA sn sc, .int .i64 (zdB g)] := (hEj.out.mem (x := .blk Lb 73 #[.int .i64 (zaF g), slv, clv, .slice SA sn sc, .int .i64 (zdB g)]) (List.mem_append_right _ List.mem_cons_self)).2;have kl0 := bc hLB 0;have kl3 := bc hLB 3;have hepl : ep < wr.heap.size := hEj.out.fpb.2.2.2;have hLbl := hLB.lt;have HLB := Lib.hid hLB;clear hLB;go_upto_region 7 with fail;refine zbh (S := fun W => W.cell? ⟨ep, 0, none⟩ = some (.slice CA T.code.length cc) /\ W.cell? ⟨Lb, 0, none⟩ = some (.int .i64 (zaF g)) /\ W.cell? ⟨Lb, 3, none⟩ = some (.slice SA sn sc)) #[false, false, false, false, false, false, false, false, false, false, false, true] (by kernel_rfl) ⟨k0', kl0, kl3⟩ (fun hHeld => ?_);refine zaj 0 ?_;refine zaj 1 ?_;refine zaj 2 ?_;refine zaj 3 ?_;refine zaj 4 ?_;refine zaj 5 ?_;refine zaj 6 ?_;refine zaj 7 ?_;refine zaj 8 ?_;refine zaj 9 ?_;refine zdy (i := 10) (by kernel_rfl) rfl (fun K hK => ?_);go_simp;refine hK.out _ _ ⟨(World.cell?_alloc_lt wr.drew _ ⟨ep, 0, none⟩ hepl).trans k0', (World.cell?_alloc_lt wr.drew _ ⟨Lb, 0, none⟩ hLbl).trans kl0, (World.cell?_alloc_lt wr.drew _ ⟨Lb, 3, none⟩ hLbl).trans kl3⟩ (fun hHeld2 => ?_);clear hK K hHeld;refine lay ?_;refine zbF (i := 11) (by kernel_rfl) rfl ⟨11, by kernel_rfl, by kernel_rfl⟩ (fun K hK => ?_);go_simp;refine hK.out _ _ ?_;clear hK K;refine lay ?_;refine zbY (by kernel_rfl) ?_ _;have hE7 := (hEj.out.box 48 #[.int .i64 (T.code.length : Nat), .int .i64 0, .int .i64 (zaF g), .slice none 0 0, .slice SA sn sc, .int .i64 (-1)]).drew;have hb7 := (hbj.out.alloc hEj.out.size (.cells #[.int .i64 (T.code.length : Nat), .int .i64 0, .int .i64 (zaF g), .slice none 0 0, .slice SA sn sc, .int .i64 (-1)] 48)).drew;obtain ⟨Rb, hRb⟩ := nm (wr.heap.size);obtain ⟨w7, hw7⟩ := nm ((wr.alloc (.cells #[.int .i64 (T.code.length : Nat), .int .i64 0, .int .i64 (zaF g), .slice none 0 0, .slice SA sn sc, .int .i64 (-1)] 48)).drew);rw [<- hRb, <- hw7] at hE7;rw [<- hw7] at hb7;rw [<- hRb, <- hw7];have hE8 := (hE7.extend (x := .row (.slice none 0 0) 87 1 0 []) (World.grownBy.refl _ _) (World.ownsRow_nil _ _ _ _) (fun b e => by cases e)).permR (List.Perm.swap _ _ _);have c07 := (hb7.cell (p := ⟨gb, go, none⟩) hglt).trans c0
   have hpl1 : (Np : Int) <= 4 := by omega
   clear k0' kl0 kl3 hHeld2;obtain ⟨HE7, Hb7, HRb, Hw7, HE8⟩ := hd5 hE7 hb7 hRb hw7 hE8;clear hE8 hw7 hRb hb7 hE7;go_wp2_with fail;clear c07
   go_loopg [59] Np (fun gk iv wr => ∃ (j : Nat) (KV : Value), j + gk = Np /\ iv = .int .i64 j /\ Hid (zaz wr base (xAt g ep FP gb go slv clv (.slice SA sn sc) stv fv df (.slice none 0 0)) (zbc T) (.blk Rb 48 #[.int .i64 (T.code.length : Nat), .int .i64 0, .int .i64 (zaF g), KV, .slice SA sn sc, .int .i64 (-1)] :: .row KV 87 1 j (zcf (zjN g (g.params.take j))) :: (zgq T stv fv ps ++ (.blk Lb 73 #[.int .i64 (zaF g), slv, clv, .slice SA sn sc, .int .i64 (zdB g)] :: rest)))) /\ Hid (Below base w wr))
   case atStart => exact ⟨0, .slice none 0 0, by omega, rfl, HE8, Hb7⟩
   case round =>
    obtain ⟨j, KV, hj, rfl, hEk, hbk⟩ := hrel
    by_cases hjm : j < Np
    ·obtain ⟨p0, hp0⟩ : ∃ p0, g.params[j]? = some p0 := ⟨_, List.getElem?_eq_getElem (by rw [HNp.out]; exact hjm)⟩
     obtain ⟨hp1, hp2⟩ := Hok.out.params p0 (List.mem_of_getElem? hp0)
     obtain ⟨p, rfl⟩ : ∃ p : Nat, p0 = (p : Int) := ⟨p0.toNat, by omega⟩
     rw [HNk.out] at hp2;obtain ⟨pad, u, hA, hpab, hu, hcu⟩ := (HPR.out.keep fun _ hp => hbk.out.cell hp).at_ hjm;subst hA
     have hu2 : u = .int .i64 (p : Nat) := by
      rw [List.getElem?_map, hp0] at hu;injection hu with hu;exact hu.symm
     subst hu2;obtain ⟨kad, ku, hkA, hkab, hku, hkcu⟩ := (HKR.out.keep fun _ hp => hbk.out.cell hp).at_ (k := p) (by omega);subst hkA;obtain ⟨kk, hkk⟩ := mn (g.kinds.getD p 0)
     have hku2 : ku = .int .u8 kk := by
      rw [List.getElem?_map, List.getElem?_eq_getElem (by rw [HNk.out]; omega)] at hku;injection hku with hku;rw [<- hkk, <- hku, List.getD_eq_getElem?_getD, List.getElem?_eq_getElem (by rw [HNk.out]; omega)]; rfl
     subst hku2
     have hsn' : zjN g (g.params.take (j + 1)) = zjN g (g.params.take j) ++ [kk] := by
      rw [List.take_add_one, hp0, Option.toList_some, zj8, Int.toNat_natCast, hkk]
     have hE9 : zaz wr base _ (zbc T) (.row KV 87 1 j (zcf (zjN g (g.params.take j))) :: .blk Rb 48 _ :: _) := hEk.out.permR (List.Perm.swap _ _ _);obtain ⟨QA, qc, hKV, _⟩ := zak hE9.own;subst hKV;have kR := hEk.out.blk;have lR := kR.lt;have kr3 := bc kR 3;have c11 := (hbk.out.cell (p := ⟨gb, go + 1, none⟩) hglt).trans c1
     have hjI : (j : Int) < Np := by omega
     have hpI : (p : Int) < Nk := by omega
     have hpw : IntKind.i64.wrap (p : Int) = p := by rw [IntKind.wrap_i64]; omega
     have hgl : gb < wr.heap.size := Nat.lt_of_lt_of_le hglt hEk.out.size;have hkl : kad.block < wr.heap.size := Nat.lt_of_lt_of_le hkab hEk.out.size;obtain ⟨Hp0, Hu, Hku, Hkk, Hsn', HE9, HkR⟩ := hd7 hp0 hu hku hkk hsn' hE9 kR;clear kR hE9 hsn' hkk hku hu hp0;go_upto_region 11 with fail;refine zaf (S := fun W => W.cell? ⟨Rb, 3, none⟩ = some (.slice QA j qc) /\ W.cell? ⟨gb, go + 1, none⟩ = some (.slice (some kad) Nk kc) /\ W.cell? (kad.add p) = some (.int .u8 kk)) #[false, false, false, false, false, false, false, false, false, false, false, false, true] (by kernel_rfl) ⟨kr3, c11, hkcu⟩ (fun hHeld => ?_);refine zaa 0 ?_;refine zaa 1 ?_;refine zaa 2 ?_;refine zaa 3 ?_;refine zaa 4 ?_;refine zaa 5 ?_;refine zaa 6 ?_;refine zaa 7 ?_;refine zaa 8 ?_;refine zag 9 (fun K hK => ?_);go_simp;refine hK.out _ _ ⟨(World.cell?_alloc_lt _ _ ⟨Rb, 3, none⟩ lR).trans kr3, (World.cell?_alloc_lt _ _ ⟨gb, go + 1, none⟩ hgl).trans c11, (World.cell?_alloc_lt _ _ (kad.add p) (by rw [zas]; exact hkl)).trans hkcu⟩ (fun hHeld2 => ?_);clear hK K hHeld;refine lay ?_;refine zag 10 (fun K hK => ?_);refine zaB _ rfl (.tmp 64) (.tmp 72) _ rfl base 87 iK _ 1 1 Tryd.underlying41 hiK kz0 kz1 kz2 rfl (by omega) (.slice QA j qc) j (zcf (zjN g (g.params.take j))) rfl ((HE9.out.drew.alloc _).own) (wr.heap.size + 1) (some ⟨wr.heap.size, 0, none⟩) 1 1 [.int .u8 kk] rfl (zal.new1 _ _ _) ?c1 ?c2 ?c3 ?c4 ?_
     case c1 => intro u hu; simp at hu; rw [hu]; rfl
     case c2 => simp only [maxLen]; omega
     case c3 => omega
     case c4 => have := HE9.out.size; simp; omega
     intro v4 w4 hown4 hg4 hat4;obtain ⟨A4, c4, rfl, _⟩ := zak hown4
     have hEp := (HE9.out.drew.alloc (.cells #[.int .u8 kk] 87)).pushFirst hown4 hg4 (by
      rcases hat4 with e | e
      ·exact .inl e
      ·exact .inr fun b hb => by rw [e] at hb; injection hb with hb; simp at hb; simp; omega)
     have hb4 := (hbk.out.drew.alloc HE9.out.drew.size (.cells #[.int .u8 kk] 87)).grown hg4 (by have := HE9.out.size; simp; omega) (fun b e => ((HE9.out.drew.alloc (.cells #[.int .u8 kk] 87)).own.lt b e).1);have hEq := hEp.permR (List.Perm.swap _ _ _);have hT4 := hEq.blk;have kx3 := bc hT4 3;have fx3 := Blk.frozen hT4 3;obtain ⟨hEs, hTb⟩ := hEq.setFirst 3 (.slice A4 (j + 1) c4);simp only [List.setIfInBounds_toArray, List.set_cons_succ, List.set_cons_zero] at hEs;rw [show zcf (zjN g (g.params.take j)) ++ [Value.int .u8 kk] = zcf (zjN g (g.params.take (j + 1))) by rw [Hsn'.out]; unfold zcf; rw [List.map_append]; rfl] at hEs;have hbn := hb4.setCell (p := ⟨Rb, 3, none⟩) hTb (.slice A4 (j + 1) c4);have kk2 := (hb4.cell (p := kad.add p) (by rw [zas]; exact hkab)).trans ((Below.cell (Below.refl base w) (p := kad.add p) (by rw [zas]; exact hkab)));have kkx : w4.cell? (kad.add p) = some (.int .u8 kk) := (hb4.cell (p := kad.add p) (by rw [zas]; exact hkab)).trans (((hbk.out.cell (p := kad.add p) (by rw [zas]; exact hkab)).symm).trans hkcu);have c1x : w4.cell? ⟨gb, go + 1, none⟩ = some (.slice (some kad) Nk kc) := (hb4.cell (p := ⟨gb, go + 1, none⟩) hglt).trans c1;refine hK.out _ _ ⟨kx3, c1x, kkx⟩ (fun hHeld3 => ?_);clear hK K hHeld2 kk2;obtain ⟨HEp, Hb4, HEq, HT4, HEs, Hbn, Hown4, Hg4⟩ := hd8 hEp hb4 hEq hT4 hEs hbn hown4 hg4;have Hat4 := Lib.hid hat4;clear hat4 hg4 hown4 hbn hEs hT4 hEq hb4 hEp;refine lay ?_;refine zaa 11 ?_;refine zao 12 (fun K hK => ?_);go_simp;refine hK.out _ _ ?_;clear hK K;refine lay ?_;refine zai (by kernel_rfl) ?_ _;clear kx3 c1x kkx fx3 kr3 c11 hkcu hcu hHeld3;go_wp2_with fail
     go_roundg (gk - 1)
     case measure => omega
     case rel => exact ⟨j + 1, .slice A4 (j + 1) c4, by omega, by simp, HEs, Hbn⟩
    ·obtain rfl : Np = j := by omega
     have hNpI : ¬ (Np : Int) < Np := by omega
     rw [List.take_of_length_le (by rw [HNp.out]; exact Nat.le_refl _)] at hEk;obtain ⟨QA, qc, hKV, _⟩ := zak ((hEk.out.permR (List.Perm.swap _ _ _)).own);subst hKV;have kR := hEk.out.blk;have kr0 := bc kR 0;obtain ⟨e1, _⟩ := hEk.out.epCells
     replace e1 : wr.cell? ⟨ep, 1, none⟩ = some stv := e1
     have hst : wr.ownsRow base 3 1 stv T.start.length (zd9 T.start) := hEk.out.idx (i := 2) rfl;obtain ⟨STA, stc, hstv, _⟩ := zak hst;subst hstv;have hepl := hEk.out.fpb.2.2.2
     replace hepl : ep < wr.heap.size := hepl
     have lR := kR.lt;obtain ⟨ts, hts⟩ := mn (T.start.length);rw [hts] at e1 hst;obtain ⟨HkR, Hst, Hts⟩ := hd3 kR hst hts;clear hts hst kR;go_upto_region 13 with fail;refine zaf (S := fun W => W.cell? ⟨ep, 1, none⟩ = some (.slice STA ts stc) /\ W.cell? ⟨Rb, 0, none⟩ = some (.int .i64 (T.code.length : Nat))) #[false, false, false, false, false, false, false, false, false, false, false, true] (by kernel_rfl) ⟨e1, kr0⟩ (fun hHeld => ?_);refine zaa 0 ?_;refine zaa 1 ?_;refine zaa 2 ?_;refine zaa 3 ?_;refine zaa 4 ?_;refine zaa 5 ?_;refine zaa 6 ?_;refine zag 7 (fun K hK => ?_);go_simp;refine hK.out _ _ ⟨(World.cell?_alloc_lt _ _ ⟨ep, 1, none⟩ hepl).trans e1, (World.cell?_alloc_lt _ _ ⟨Rb, 0, none⟩ lR).trans kr0⟩ (fun hHeld2 => ?_);clear hK K hHeld;refine lay ?_;refine zag 8 (fun K hK => ?_);refine zaB _ rfl (.tmp 80) (.tmp 83) _ rfl base 3 iI _ 1 8 Tryd.underlying40 hiI iz0 iz1 iz2 rfl (by omega) (.slice STA ts stc) ts (zd9 T.start) rfl ((zdC Hst.out).alloc _) (wr.heap.size + 1) (some ⟨wr.heap.size, 0, none⟩) 1 1 [.int .i64 (T.code.length : Nat)] rfl (zal.new1 _ _ _) ?c1 ?c2 ?c3 ?c4 ?_
     case c1 => intro u hu; simp at hu; rw [hu]; rfl
     case c2 => have := Hts.out; simp only [maxLen]; omega
     case c3 => have := Hts.out; omega
     case c4 => have := hEk.out.size; simp; omega
     intro v4 w4 hown4 hg4 hat4;obtain ⟨A4, c4, rfl, _⟩ := zak hown4
     have hEp := (hEk.out.drew.alloc (.cells #[.int .i64 (T.code.length : Nat)] 3)).pushR (i := 2) (v := .slice STA T.start.length stc) (size := 1) (n := T.start.length) (xs := zd9 T.start) (e := 3) rfl hown4 (by rw [Hts.out]; exact hg4) (by
      rw [Hts.out]
      rcases hat4 with e | e
      ·exact .inl e
      ·exact .inr fun b hb => by rw [e] at hb; injection hb with hb; simp at hb; simp; omega)
     have hb4 := (hbk.out.drew.alloc hEk.out.drew.size (.cells #[.int .i64 (T.code.length : Nat)] 3)).grown hg4 (by have := hEk.out.size; simp; omega) (fun b e => (((zdC Hst.out).alloc (.cells #[.int .i64 (T.code.length : Nat)] 3)).lt b e).1);obtain ⟨y1, _⟩ := hEp.epCells;have y1f := hEp.epFree 1
     replace y1 : w4.cell? ⟨ep, 1, none⟩ = some (.slice STA ts stc) := by rw [<- Hts.out]; exact y1
     replace y1f : w4.frozen? ⟨ep, 1, none⟩ = false := y1f
     have hkR4 := hEp.blk;have ky0 := bc hkR4 0;have hEs := hEp.setStv (.slice A4 (ts + 1) c4);have hepb : base <= ep := hEp.fpb.2.2.1;have hbn := hb4.setCell (p := ⟨ep, 1, none⟩) hepb (.slice A4 (ts + 1) c4);obtain ⟨RT, hRT⟩ := mn (zdX T.rows ps ++ (.blk Lb 73 #[.int .i64 (zaF g), slv, clv, .slice SA sn sc, .int .i64 (zdB g)] :: rest));obtain ⟨w9, hw9⟩ := nm (w4.setCell ⟨ep, 1, none⟩ (.slice A4 (ts + 1) c4));obtain ⟨pks, hpks⟩ := mn (zjN g g.params)
     have hE10 : zaz w9 base (xAt g ep FP gb go slv clv (.slice SA sn sc) (.slice A4 (ts + 1) c4) fv df (.slice none 0 0)) (zbc T) (.blk Rb 48 #[.int .i64 (T.code.length : Nat), .int .i64 0, .int .i64 (zaF g), .slice QA Np qc, .slice SA sn sc, .int .i64 (-1)] :: .row (.slice QA Np qc) 87 1 Np (zcf pks) :: .row (.slice A4 (ts + 1) c4) 3 1 (ts + 1) (zd9 (T.start ++ [T.code.length])) :: .row fv 48 6 T.rows.length (zaQ T.rows ps) :: RT) := by
      rw [hw9, <- hRT, <- hpks, show zd9 (T.start ++ [T.code.length]) = zd9 T.start ++ [.int .i64 (T.code.length : Nat)] by unfold zd9; rw [List.map_append]; rfl];exact hEs
     have hb10 : Below base w w9 := by rw [hw9]; exact hbn
     refine hK.out _ _ ⟨y1, ky0⟩ (fun hHeld3 => ?_);clear hK K hHeld2 hEs hbn;have hE10' := hE10;have f6' := (hb10.cell (p := ⟨gb, go + 6, none⟩) hglt).trans c6;obtain ⟨HEp, Hb4, HkR4, HE10, Hb10, Hown4, Hg4, Hat4⟩ := hd8 hEp hb4 hkR4 hE10 hb10 hown4 hg4 hat4;obtain ⟨HRT, Hw9, Hpks⟩ := hd3 hRT hw9 hpks;clear hpks hw9 hRT hat4 hg4 hown4 hb10 hE10 hkR4 hb4 hEp;refine lay ?_;refine zaa 9 ?_;refine zaa 10 ?_;refine zao 11 (fun K hK => ?_);go_simp;refine hK.out _ _ ?_;clear hK K;refine lay ?_;refine zai (by kernel_rfl) ?_ _;rw [<- Hw9.out];clear y1 y1f ky0 e1 kr0 hHeld3 hE10';have hok := Hok.out
     have hlive : Calls Tryd.prog 38 #[.pointer (some ⟨FP, 0, none⟩)] w9 fun e w' => zm8 base (xAt g ep FP gb go slv clv (.slice SA sn sc) (.slice A4 (ts + 1) c4) fv df (.slice none 0 0)) (zbc T) (.blk Rb 48 #[.int .i64 (T.code.length : Nat), .int .i64 0, .int .i64 (zaF g), .slice QA Np qc, .slice SA sn sc, .int .i64 (-1)] :: .row (.slice QA Np qc) 87 1 Np (zcf pks) :: .row (.slice A4 (ts + 1) c4) 3 1 (ts + 1) (zd9 (T.start ++ [T.code.length])) :: .row fv 48 6 T.rows.length (zaQ T.rows ps) :: RT) Nk N (zhl Nk g.nodes) w9 e w' := by
      have := zmu (n := Nk) HE10.out rfl (HG.out.below Hb10.out) HNk.out (by have := hok.right.k0; rw [HNk.out] at this; omega) (by omega) (by rw [HNN.out]; omega) (fun x hx => (hok.nodes x hx).next) (fun x hx => by have := hok.reads x hx; rwa [HNk.out] at this) (fun x hx => by have := hok.writes x hx; rwa [HNk.out] at this) hok.args (fun W hW => HT.out W (Hb10.out.trans hW)) htb;rw [HNN.out] at this;exact this
     obtain ⟨Hok2, Hlive⟩ := hd2 hok hlive;clear hlive hok;go_wp2_with fail;refine Hlive.out.mono ?_;rintro e w11 ⟨rfl, ⟨pb, ib, F, hE11, hokF⟩, hb11⟩;obtain ⟨Xp, hXp⟩ := nm (xAt g ep FP gb go slv clv (.slice SA sn sc) (.slice A4 (ts + 1) c4) fv df (.slice (some ⟨pb, 0, none⟩) N N) : EmX);obtain ⟨R2, hR2⟩ := nm (.row (.slice QA Np qc) 87 1 Np (zcf pks) :: .row (.slice A4 (ts + 1) c4) 3 1 (ts + 1) (zd9 (T.start ++ [T.code.length])) :: .row fv 48 6 T.rows.length (zaQ T.rows ps) :: RT : List It);obtain ⟨R3, hR3⟩ := nm ([zbO pb N N (zcC F.g 1 N N), zbO ib N N (zcC F.g 0 N N)] ++ (zaN Nk (2 * N) F ++ R2) : List It)
     have hE12 : zaz w11 base Xp (zbc T) (.blk Rb 48 #[.int .i64 (T.code.length : Nat), .int .i64 0, .int .i64 (zaF g), .slice QA Np qc, .slice SA sn sc, .int .i64 (-1)] :: R3) := by
      rw [hXp, hR3, hR2];refine hE11.permR ?_;rw [<- List.append_assoc, <- List.append_assoc];exact List.perm_middle
     have hb12 := Hb10.out.trans hb11
     have hsv0 : ∀ s ∈ Xp.saves, 0 <= s.1 := fun s hs => by
      rw [hXp] at hs;have := zc1 g s hs; omega
     have hslx : Xp.saves.length <= 6 := by
      rw [hXp];show (zbG g).length <= 6;rw [zcJ];exact zb7 _ _
     have hXns : Xp.ns = zaG g := by rw [hXp]; rfl
     have hXnc : Xp.nc = zaU g := by rw [hXp]; rfl
     have hXga : Xp.ga = ⟨gb, go, none⟩ := by rw [hXp]; rfl
     have hXfp : Xp.fp = FP := by rw [hXp]; rfl
     have hns := Hok2.out.right.k1;have hcl0 := Hok2.out.right.c0;have hcl1 := Hok2.out.right.c1;have hk0 := Hok2.out.right.k0
     have hnsl : zaG g <= 1008 := by unfold zaG; omega
     have hncl : zaU g <= 64 := by unfold zaU; omega
     have hns16 : Nk = 16 + zaG g := by have := HNk.out; unfold zaG; omega
     have hncz : g.cells = ((zaU g : Nat) : Int) := by unfold zaU; omega
     have hil := Hok2.out.il
     have hszs : (zbc T).sz = T.code.length + T.cn + T.sites.length := by unfold EmS.sz zbc; simp
     obtain ⟨Eb, hEb⟩ := mn ((zbc T).begin (xOf g) g.init);have hbsz := ziu (zbc T) Xp g.init
     have hbc : (zbc T).begin Xp g.init = Eb := by rw [<- hEb, hXp]; exact zio _ _ rfl rfl rfl rfl
     rw [hbc, hXns, hXnc, hszs] at hbsz
     have hbeg : Calls Tryd.prog 39 #[.pointer (some ⟨FP, 0, none⟩)] w11 fun e w' => zbK base Xp (.blk Rb 48 #[.int .i64 (T.code.length : Nat), .int .i64 0, .int .i64 (zaF g), .slice QA Np qc, .slice SA sn sc, .int .i64 (-1)] :: R3) w11 (.tuple #[]) Eb e w' := by
      have := zlR hE12 hXga (HG.out.below hb12) (fun c hc => by rw [hXnc, <- hncz]; exact Hok2.out.init c hc) (by have := HNp.out; omega) hsv0 (by omega) (by rw [hXns]; omega) (by rw [hXnc]; omega) (by rw [hszs]; omega);rw [hXfp, hbc] at this;exact this
     have hNpo := HNp.out;obtain ⟨HE11, HokF, Hb11, HXp, HR2, HR3, HE12, Hb12⟩ := hd8 hE11 hokF hb11 hXp hR2 hR3 hE12 hb12;obtain ⟨Hsv0, HXns, HXnc, HXga, HXfp, HEb, Hbc, Hbeg⟩ := hd8 hsv0 hXns hXnc hXga hXfp hEb hbc hbeg;obtain ⟨Hns16, Hncz, Hszs⟩ := hd3 hns16 hncz hszs;clear hszs hncz hns16 hbeg hbc hEb hXfp hXga hXnc hXns hsv0 hb12 hE12 hR3 hR2 hXp hb11 hokF hE11;go_wp2_with fail;refine Hbeg.out.mono ?_;rintro e w13 ⟨rfl, hE13, hb13⟩;have hb14 := Hb12.out.trans hb13;have c62 := (hb14.cell (p := ⟨gb, go + 6, none⟩) hglt).trans c6;obtain ⟨HE13, Hb13, Hb14⟩ := hd3 hE13 hb13 hb14;clear hb14 hb13 hE13;go_wp2_with fail;clear c62 f6'
     go_loopg [96] N (fun gk iv wr => ∃ j : Nat, j + gk = N /\ iv = .int .i64 j /\ Hid (zaz wr base Xp (Eb.nodes (zaG g) (zdB g) (zct g) (g.nodes.take j)) (.blk Rb 48 #[.int .i64 (T.code.length : Nat), .int .i64 0, .int .i64 (zaF g), .slice QA Np qc, .slice SA sn sc, .int .i64 (-1)] :: R3)) /\ Hid (Below base w wr))
     case atStart => exact ⟨0, by omega, rfl, HE13, Hb14⟩
     case round =>
      obtain ⟨j, hj, rfl, hEn, hbn⟩ := hrel
      by_cases hjm : j < N
      ·obtain ⟨x, hx⟩ : ∃ x, g.nodes[j]? = some x := ⟨_, List.getElem?_eq_getElem (by rw [HNN.out]; omega)⟩
       have hxm := List.mem_of_getElem? hx
       have hjI : (j : Int) < N := by omega
       have htk : g.nodes.take (j + 1) = g.nodes.take j ++ [x] := by rw [List.take_add_one, hx]; rfl
       have htl : (g.nodes.take j).length = j := by rw [List.length_take, HNN.out]; omega
       have hnx := zdP Eb (zaG g) (zdB g) (zct g) (g.nodes.take j) x;rw [<- htk, htl] at hnx;have hszn := zgs Eb (zaG g) (zdB g) (zct g) (g.nodes.take j);rw [htl] at hszn
       have hnode : Calls Tryd.prog 40 #[.pointer (some ⟨FP, 0, none⟩), .int .i64 (j : Nat)] wr fun e w' => zbK base Xp (.blk Rb 48 #[.int .i64 (T.code.length : Nat), .int .i64 0, .int .i64 (zaF g), .slice QA Np qc, .slice SA sn sc, .int .i64 (-1)] :: R3) wr (.tuple #[]) (Eb.nodes (zaG g) (zdB g) (zct g) (g.nodes.take (j + 1))) e w' := by
        have := zmo (n := Nk) (S := zhl Nk g.nodes (2 * j + 1)) (KD := znc g) hEn.out HXga.out (HG.out.below hbn.out) hx (Hok2.out.nodes x hxm) Hok2.out.fs (by rw [HNk.out, HXns.out]; exact Hns16.out) (by rw [HXnc.out]; exact Hncz.out) (Hok2.out.imm x hxm)
         (fun W E' hW => by
          have hW1 : zaz W base Xp E' (.blk Rb 48 #[.int .i64 (T.code.length : Nat), .int .i64 0, .int .i64 (zaF g), .slice QA Np qc, .slice SA sn sc, .int .i64 (-1)] :: ([zbO pb N N (zcC F.g 1 N N), zbO ib N N (zcC F.g 0 N N)] ++ (zaN Nk (2 * N) F ++ R2))) := by rw [<- HR3.out]; exact hW
          obtain ⟨q1, _, _⟩ := hW1.rowCell (i := 1) rfl hjm (zem hjm hjm);refine ⟨⟨pb, 0, none⟩, N, N, F.g (2 * j + 1), F.h (2 * j + 1), by rw [HXp.out]; rfl, hjm, ?_, ?_⟩
          ·rw [Addr.add_mid, Nat.zero_add]; exact q1
          ·exact zaz.fam (l1 := [.blk Rb 48 #[.int .i64 (T.code.length : Nat), .int .i64 0, .int .i64 (zaF g), .slice QA Np qc, .slice SA sn sc, .int .i64 (-1)], zbO pb N N (zcC F.g 1 N N), zbO ib N N (zcC F.g 0 N N)]) hW1 HokF.out (by omega))
         (fun k hk => BdL.live (fun x hx => by have := Hok2.out.reads x hx; rwa [HNk.out] at this) _ _ hk) (by rw [HXns.out]; have := Hns16.out; omega)
         (fun W hW => by
          have hbW := hbn.out.trans hW;refine ⟨.slice KA Nk kc, (hbW.cell (p := ⟨gb, go + 1, none⟩) hglt).trans c1, fun k hk => ?_⟩;obtain ⟨kad, ku, hkA, hkab, hku, hkcu⟩ := (HKR.out.keep fun _ hp => hbW.cell hp).at_ (k := k) hk;refine ⟨kad, kc, by rw [hkA], ?_⟩;rw [hkcu];rw [List.getElem?_map, List.getElem?_eq_getElem (by rw [HNk.out]; exact hk)] at hku;injection hku with hku
          rw [<- hku, znc, List.getD_eq_getElem?_getD, List.getElem?_eq_getElem (by rw [HNk.out]; exact hk)]; rfl)
         (fun W hW => HT.out W (hbn.out.trans hW)) (by rw [HXns.out]; omega) (by rw [HXnc.out]; omega) (by rw [HNN.out]; omega) (by omega)
        rw [HXfp.out, HXns.out, show Xp.res = zdB g by rw [HXp.out]; rfl] at this;rw [hnx]
        have e1 : zct g j = zdi (znc g) (zbB Nk (zhl Nk g.nodes (2 * j + 1))) := by unfold zct; rw [HNk.out]
        rw [e1];exact this
       obtain ⟨Hx, Hxm, Htk, Htl, Hnx, Hnode⟩ := hd6 hx hxm htk htl hnx hnode;clear hnode hnx htl htk hxm hx;clear hszn;go_wp2_with fail;refine Hnode.out.mono ?_;rintro e w15 ⟨rfl, hE15, hb15⟩;have hb16 := hbn.out.trans hb15;obtain ⟨HE15, Hb15, Hb16⟩ := hd3 hE15 hb15 hb16;clear hb16 hb15 hE15;go_wp2_with fail
       go_roundg (gk - 1)
       case measure => omega
       case rel => exact ⟨j + 1, by omega, by simp, HE15, Hb16⟩
      ·obtain rfl : N = j := by omega
       rw [List.take_of_length_le (by rw [HNN.out]; exact Nat.le_refl _)] at hEn;have hszn := zgs Eb (zaG g) (zdB g) (zct g) g.nodes;rw [HNN.out] at hszn;obtain ⟨En, hEne⟩ := mn (Eb.nodes (zaG g) (zdB g) (zct g) g.nodes);rw [hEne] at hEn hszn
       have hbody : zdb T g = En := by unfold zdb; rw [HEb.out]; exact hEne
       have hcon := zkG (X := Xp) (Y := xOf g) En g.result g.keep (by rw [HXp.out]; rfl) (by rw [HXp.out]; rfl) (by rw [HXp.out]; rfl) (by rw [HXp.out]; exact hdf.out.symm) (by rw [HXp.out]; rfl);obtain ⟨Ee, hEe⟩ := mn (zdI T g);obtain ⟨rz, hrz⟩ := mn ((zdb T g).resumeAt (xOf g) g.result)
       have hce : En.end_ Xp g.result g.keep = Ee := by rw [hcon.1, <- hEe]; unfold zdI; rw [hbody]
       have hcr : En.resumeAt Xp g.result = rz := by rw [hcon.2, <- hrz, hbody]
       have hend : Calls Tryd.prog 41 #[.pointer (some ⟨FP, 0, none⟩), .pointer (some ⟨Rb, 0, none⟩)] wr fun e w' => e = .returned (.tuple #[]) /\ zaz w' base Xp Ee (.blk Rb 48 #[.int .i64 (T.code.length : Nat), .int .i64 0, .int .i64 (zaF g), .slice QA Np qc, .slice SA sn sc, .int .i64 rz] :: R3) /\ Below base wr w' := by
        have := zm3 hEn.out HXga.out (HG.out.below hbn.out) (by rw [HXnc.out, <- Hncz.out]; exact Hok2.out.keep) Hsv0.out (by omega) (by rw [HXns.out]; omega) (by rw [HXnc.out]; omega) (by omega);rw [HXfp.out, hce, hcr] at this;exact this
       obtain ⟨HEne, Hbody, Hcon, HEe, Hrz, Hce, Hcr, Hend⟩ := hd8 hEne hbody hcon hEe hrz hce hcr hend;clear hend hcr hce hrz hEe hcon hbody hEne;go_wp2_with fail;refine Hend.out.mono ?_;rintro e w17 ⟨rfl, hE17, hb17⟩;have hb18 := hbn.out.trans hb17;obtain ⟨cvz, svz, zvz, nvz, Mcz, J, L, lvz, hlz, hI⟩ := id hE17;obtain ⟨IL, hIL⟩ := mn (za1 Xp Ee cvz svz zvz nvz Mcz J L lvz ++ (zaM Ee.sites lvz ++ (.blk Rb 48 #[.int .i64 (T.code.length : Nat), .int .i64 0, .int .i64 (zaF g), .slice QA Np qc, .slice SA sn sc, .int .i64 rz] :: R3)))
       have hil0 : IL[0]? = some (.blk Xp.ep 67 (zkM Xp cvz Mcz svz)) := by rw [<- hIL]; rfl
       have hil1 : IL[1]? = some (.row cvz 71 5 Ee.code.length (Ee.code.flatMap zaW)) := by rw [<- hIL]; rfl
       have hil3 : IL[3]? = some (.blk Xp.fp 101 (zeN Xp J L zvz nvz)) := by rw [<- hIL]; rfl
       have hil4 : IL[4]? = some (.map J Ee.jn Ee.jumps) := by rw [<- hIL]; rfl
       have hil5 : IL[5]? = some (.map L Ee.ln Ee.labels) := by rw [<- hIL]; rfl
       rw [hIL] at hI;have hl1 := (List.getElem?_eq_some_iff.1 hil1).1;have hee := HEe.out;have hlen := (zcG T (P := fun _ => True) Hok2.out (fun _ => trivial)).len;obtain ⟨nC, hnC⟩ := mn (Ee.code.length);have hszE := zlZ En Xp g.result g.keep;rw [Hce.out] at hszE
       have hnCs : nC <= Ee.sz := by rw [<- hnC]; unfold EmS.sz; omega
       rw [hnC] at hil1
       have hcpos : 0 < nC := by
        have := zew T Hok2.out;rw [hee, hnC] at this
        omega
       obtain ⟨CB, vc, hcv, _, _, _, _⟩ := zbn (hI.own hil1) hcpos;subst hcv
       have hpat : zcw w17 base IL CB nC vc (zcd Ee.code Ee.jumps Ee.labels (fun _ => true)) := by
        unfold zcw;rw [zen _ _ _ _ (fun _ _ => rfl)]
        have e : IL.set 1 (.row (.slice (some ⟨CB, 0, none⟩) nC vc) 71 5 nC (Ee.code.flatMap zaW)) = IL := by
         refine List.ext_getElem? fun k => ?_
         rw [List.getElem?_set]
         by_cases hk : 1 = k
         ·subst hk; rw [if_pos rfl, if_pos hl1, hil1]
         ·rw [if_neg hk]
        rw [e]; exact hI
       obtain ⟨D, hown, hget, hkeys⟩ := hI.imap hil4
       have hJn : Ee.jn <= Ee.sz := by unfold EmS.sz; omega
       have hfree : ∀ x ∈ IL, x.block ≠ some w17.heap.size := fun x hx e => by
        have := ((hI.each x hx).lt _ e).2
        omega
       obtain ⟨r, hr⟩ := nm (w17.heap.size)
       have hCBr : CB ≠ r := by
        have := ((hI.at_ hil1).lt CB rfl).2
        omega
       have hJr : J ≠ r := by
        have := ((hI.at_ hil4).lt J rfl).2
        omega
       rw [<- hr] at hfree
       have hCBJ : CB ≠ J := fun e => hI.apart 4 1 _ _ (by omega) hil4 hil1 J rfl (by rw [<- e]; rfl)
       have fJ : w17.cell? ⟨FP, 7, none⟩ = some (.map (some J)) := by rw [<- HXfp.out]; exact (hI.blk hil3).cell 7
       have hbd : ∀ i l, Ee.jumps i = some l -> i < nC := fun i l h => by
        rw [<- hee] at h hnC;have := zgj T Hok2.out h
        omega
       have hstart : ∀ i : Nat, Ee.jumps i ≠ none -> Maps.has D (.int .i64 (i : Int)) = true := fun i hi => by
        rcases h : Ee.jumps i with _ | l
        ·exact absurd h hi
        ·exact ((hget i).1 l h).1
       have hpatR : zcw w17 base IL CB nC vc (zcd Ee.code Ee.jumps Ee.labels (fun i => Maps.has D (.int .i64 (i : Int)))) := by
        have e : zcd Ee.code Ee.jumps Ee.labels (fun i => Maps.has D (.int .i64 (i : Int))) = zcd Ee.code Ee.jumps Ee.labels (fun _ => true) := by
         rw [zen _ _ _ _ hstart, zen _ _ _ _ (fun _ _ => rfl)]
        rw [e]; exact hpat
       obtain ⟨HpatR, HE17, Hb17, Hb18, Hlz, HIL, Hil0, Hil1⟩ := hd8 hpatR hE17 hb17 hb18 hlz hIL hil0 hil1;obtain ⟨Hil3, Hil4, Hil5, HI, Hl1, Hee, Hlen, HnC⟩ := hd8 hil3 hil4 hil5 hI hl1 hee hlen hnC;obtain ⟨Hcpos, Hpat, Hown, Hget, Hkeys, Hfree, Hr, Hbd⟩ := hd8 hcpos hpat hown hget hkeys hfree hr hbd;have Hstart := Lib.hid hstart;clear hstart hbd hr hfree hkeys hget hown hpat hcpos hnC hlen hee hl1 hI hil5 hil4 hil3 hil1 hil0 hIL hlz hb18 hb17 hE17 hpatR;go_wp2_with (first | (at_range; refine wpList_range_own _ rfl _ 64 rfl 3 3 zic Tryd.underlying64 _ J _ D rfl Hown.out ?_; intro w18 hrg0 hg0 hs0))
       go_frame
       rw [<- Hr.out];rw [<- Hr.out] at hrg0;have hb19 : Below base w w18 := Hb18.out.trans (Below.grown (Below.refl base w17) hg0 HE17.out.size (fun k e => by cases e));have hpat0 := HpatR.out.keep hg0;obtain ⟨Hrg0, Hg0, Hb19, Hpat0⟩ := hd4 hrg0 hg0 hb19 hpat0;clear hpat0 hb19 hg0 hrg0;clear fJ
       go_loopw [13, 14] (fun _ _ wr => ∃ (left : Lit -> Bool) (cnt : Nat), Hid (wr.ranges Tryd.prog 3 (plainElem Tryd.prog 3) J r Ee.jn D left cnt) /\ Hid (zcw wr base IL CB nC vc (zcd Ee.code Ee.jumps Ee.labels (fun i => left (.int .i64 (i : Int))))) /\ Hid (Below base w wr)) (fun _ _ wr => wr.rangeLeft J r)
       case atStart => exact ⟨Maps.has D, Maps.size D, Hrg0, Hpat0, Hb19⟩
       case round =>
        obtain ⟨left, cnt, hrg, hpt, hbr⟩ := hrel;go_wp2_with (first | (at_next; refine wpList_next_ranges_ii _ rfl _ rfl 3 3 .i64 .i64 zic Tryd.underlying3 Tryd.underlying3 J r _ D left cnt rfl hrg.out ?_ ?_))
        ·intro _ hl0
         have hpf : zcw wr base IL CB nC vc (zcd Ee.code Ee.jumps Ee.labels (fun _ => false)) := by
          have e : (fun i : Nat => left (.int .i64 (i : Int))) = fun _ => false := funext fun i => hl0 _
          rw [<- e]; exact hpt.out
         have e0 : wr.cell? ⟨ep, 0, none⟩ = some (.slice (some ⟨CB, 0, none⟩) nC vc) := by
          have := (hpf.other (i := 0) (by omega) Hil0.out).2.cell 0;rw [HXp.out] at this;exact this
         obtain ⟨Hl0, Hpf, Hrg, Hpt⟩ := hd4 hl0 hpf hrg hpt;clear hpt hrg hpf hl0;go_upto_region 26 with fail;obtain ⟨ILR, hILR⟩ := mn (IL.set 1 (.row (.slice (some ⟨CB, 0, none⟩) nC vc) 71 5 nC ((zcd Ee.code Ee.jumps Ee.labels (fun _ => false)).flatMap zaW)))
         have hIR : zaA wr base ILR := by rw [<- hILR]; exact Hpf.out
         have hmk : IL = za1 Xp Ee (.slice (some ⟨CB, 0, none⟩) nC vc) svz zvz nvz Mcz J L lvz ++ (zaM Ee.sites lvz ++ (.blk Rb 48 #[.int .i64 (T.code.length : Nat), .int .i64 0, .int .i64 (zaF g), .slice QA Np qc, .slice SA sn sc, .int .i64 rz] :: R3)) := HIL.out.symm;obtain ⟨E5, hE5⟩ := nm ({ Ee with code := zcd Ee.code Ee.jumps Ee.labels (fun _ => false) } : EmS)
         have hE20 : zaz wr base Xp E5 (.blk Rb 48 #[.int .i64 (T.code.length : Nat), .int .i64 0, .int .i64 (zaF g), .slice QA Np qc, .slice SA sn sc, .int .i64 rz] :: R3) := by
          refine ⟨.slice (some ⟨CB, 0, none⟩) nC vc, svz, zvz, nvz, Mcz, J, L, lvz, by rw [hE5]; exact Hlz.out, ?_⟩
          have e : za1 Xp E5 (.slice (some ⟨CB, 0, none⟩) nC vc) svz zvz nvz Mcz J L lvz ++ (zaM E5.sites lvz ++ (.blk Rb 48 #[.int .i64 (T.code.length : Nat), .int .i64 0, .int .i64 (zaF g), .slice QA Np qc, .slice SA sn sc, .int .i64 rz] :: R3)) = ILR := by
           rw [<- hILR, hmk, hE5]
           have e2 : nC = (zcd Ee.code Ee.jumps Ee.labels (fun _ => false)).length := by rw [zbH]; exact HnC.out.symm
           unfold za1;rw [List.set_append_left _ _ (by simp)];simp only [List.set_cons_succ, List.set_cons_zero];rw [<- e2]
          rw [e]; exact hIR
         have kR := hE20.blk;have kr1 := bc kR 1;have fr1 := Blk.frozen kR 1;obtain ⟨hE21, hRbb⟩ := hE20.setFirst 1 (.int .i64 (nC : Nat));simp only [List.setIfInBounds_toArray, List.set_cons_succ, List.set_cons_zero] at hE21;have hb21 := hbr.out.setCell (p := ⟨Rb, 1, none⟩) hRbb (.int .i64 (nC : Nat));obtain ⟨w21, hw21⟩ := nm (wr.setCell ⟨Rb, 1, none⟩ (.int .i64 (nC : Nat)));rw [<- hw21] at hE21 hb21;obtain ⟨HILR, HIR, Hmk, HE5, HE20, HkR, HE21, Hb21⟩ := hd8 hILR hIR hmk hE5 hE20 kR hE21 hb21;have Hw21 := Lib.hid hw21;clear hw21 hb21 hE21 kR hE20 hE5 hmk hIR hILR;go_upto_region 27 with fail;rw [<- Hw21.out];clear e0 kr1 fr1
         have hE22 : zaz w21 base Xp E5 (.row fv 48 6 T.rows.length (zaQ T.rows ps) :: .blk Rb 48 #[.int .i64 (T.code.length : Nat), .int .i64 (nC : Nat), .int .i64 (zaF g), .slice QA Np qc, .slice SA sn sc, .int .i64 rz] :: .row (.slice QA Np qc) 87 1 Np (zcf pks) :: .row (.slice A4 (ts + 1) c4) 3 1 (ts + 1) (zd9 (T.start ++ [T.code.length])) :: RT) := by
          have h1 := HE21.out;rw [HR3.out, HR2.out] at h1;have h2 := h1.subR (rest' := .blk Rb 48 #[.int .i64 (T.code.length : Nat), .int .i64 (nC : Nat), .int .i64 (zaF g), .slice QA Np qc, .slice SA sn sc, .int .i64 rz] :: .row (.slice QA Np qc) 87 1 Np (zcf pks) :: .row (.slice A4 (ts + 1) c4) 3 1 (ts + 1) (zd9 (T.start ++ [T.code.length])) :: .row fv 48 6 T.rows.length (zaQ T.rows ps) :: RT) (.cons_cons _ ((List.sublist_append_right _ _).trans (List.sublist_append_right _ _)));exact h2.permR zj7
         obtain ⟨FA, fc, hfv, _⟩ := zak hE22.own;obtain ⟨rn, hrn⟩ := mn (T.rows.length);rw [hrn] at hfv hE22;subst hfv;have hRB2 : Blk w21 Rb 48 #[.int .i64 (T.code.length : Nat), .int .i64 (nC : Nat), .int .i64 (zaF g), .slice QA Np qc, .slice SA sn sc, .int .i64 rz] := (hE22.idx (i := 1) rfl).2;have kq0 := bc hRB2 0;have kq1 := bc hRB2 1;have kq2 := bc hRB2 2;have kq3 := bc hRB2 3;have kq4 := bc hRB2 4;have kq5 := bc hRB2 5;have lR2 := hRB2.lt;obtain ⟨_, e3⟩ := hE22.epCells
         replace e3 : w21.cell? ⟨ep, 3, none⟩ = some (.slice FA rn fc) := by rw [HXp.out] at e3; exact e3
         have hepl2 := hE22.fpb.2.2.2
         replace hepl2 : ep < w21.heap.size := by rw [HXp.out] at hepl2; exact hepl2
         obtain ⟨HRB2, HE22, Hrn⟩ := hd3 hRB2 hE22 hrn;clear hrn hE22 hRB2;refine zaf (S := fun W => W.cell? ⟨ep, 3, none⟩ = some (.slice FA rn fc) /\ W.cell? ⟨Rb, 0, none⟩ = some (.int .i64 (T.code.length : Nat)) /\ W.cell? ⟨Rb, 1, none⟩ = some (.int .i64 (nC : Nat)) /\ W.cell? ⟨Rb, 2, none⟩ = some (.int .i64 (zaF g)) /\ W.cell? ⟨Rb, 3, none⟩ = some (.slice QA Np qc) /\ W.cell? ⟨Rb, 4, none⟩ = some (.slice SA sn sc) /\ W.cell? ⟨Rb, 5, none⟩ = some (.int .i64 rz)) #[false, false, false, false, false, false, false, false, false, false, false, false, true] (by kernel_rfl) ⟨e3, kq0, kq1, kq2, kq3, kq4, kq5⟩ (fun hHeld => ?_);refine zaa 0 ?_;refine zaa 1 ?_;refine zaa 2 ?_;refine zaa 3 ?_;refine zaa 4 ?_;refine zaa 5 ?_;refine zaa 6 ?_;refine zag 7 (fun K hK => ?_);go_simp;refine hK.out _ _ ⟨(World.cell?_alloc_lt _ _ ⟨ep, 3, none⟩ hepl2).trans e3, (World.cell?_alloc_lt _ _ ⟨Rb, 0, none⟩ lR2).trans kq0, (World.cell?_alloc_lt _ _ ⟨Rb, 1, none⟩ lR2).trans kq1, (World.cell?_alloc_lt _ _ ⟨Rb, 2, none⟩ lR2).trans kq2, (World.cell?_alloc_lt _ _ ⟨Rb, 3, none⟩ lR2).trans kq3, (World.cell?_alloc_lt _ _ ⟨Rb, 4, none⟩ lR2).trans kq4, (World.cell?_alloc_lt _ _ ⟨Rb, 5, none⟩ lR2).trans kq5⟩ (fun hHeld2 => ?_);clear hK K hHeld;refine lay ?_;refine zag 8 (fun K hK => ?_);refine zaB _ rfl (.tmp 140) (.tmp 142) _ rfl base 48 iF _ 6 80 Tryd.underlying28 hiF fz0 fz1 fz2 rfl (by omega) (.slice FA rn fc) rn (zaQ T.rows ps) rfl ((HE22.out.drew.alloc _).own) (w21.heap.size + 1) (some ⟨w21.heap.size, 0, none⟩) 1 1 [.int .i64 (T.code.length : Nat), .int .i64 (nC : Nat), .int .i64 (zaF g), .slice QA Np qc, .slice SA sn sc, .int .i64 rz] rfl (zal.newS _ rfl _ _ _ _ _ rfl rfl) ?c1 ?c2 ?c3 ?c4 ?_
         case c1 => intro u hu; simp at hu; rcases hu with rfl | rfl | rfl | rfl | rfl | rfl <;> rfl
         case c2 => have := Hrn.out; simp only [maxLen]; omega
         case c3 => have := Hrn.out; omega
         case c4 => have := HE22.out.size; simp; omega
         intro v4 w22 hown4 hg4 hat4;obtain ⟨A5, c5, rfl, _⟩ := zak hown4
         have hEp := (HE22.out.drew.alloc (.cells #[.int .i64 (T.code.length : Nat), .int .i64 (nC : Nat), .int .i64 (zaF g), .slice QA Np qc, .slice SA sn sc, .int .i64 rz] 48)).pushFirst hown4 hg4 (by
          rcases hat4 with e | e
          ·exact .inl e
          ·exact .inr fun b hb => by rw [e] at hb; injection hb with hb; simp at hb; simp; omega)
         have hb4 := (Hb21.out.drew.alloc HE22.out.drew.size (.cells #[.int .i64 (T.code.length : Nat), .int .i64 (nC : Nat), .int .i64 (zaF g), .slice QA Np qc, .slice SA sn sc, .int .i64 rz] 48)).grown hg4 (by have := HE22.out.size; simp; omega) (fun b e => ((HE22.out.drew.alloc (.cells #[.int .i64 (T.code.length : Nat), .int .i64 (nC : Nat), .int .i64 (zaF g), .slice QA Np qc, .slice SA sn sc, .int .i64 rz] 48)).own.lt b e).1);have hRB3 : Blk w22 Rb 48 #[.int .i64 (T.code.length : Nat), .int .i64 (nC : Nat), .int .i64 (zaF g), .slice QA Np qc, .slice SA sn sc, .int .i64 rz] := (hEp.idx (i := 1) rfl).2;have ky0 := bc hRB3 0;have ky1 := bc hRB3 1;have ky2 := bc hRB3 2;have ky3 := bc hRB3 3;have ky4 := bc hRB3 4;have ky5 := bc hRB3 5;obtain ⟨_, y3⟩ := hEp.epCells;have y3f := hEp.epFree 3
         replace y3 : w22.cell? ⟨ep, 3, none⟩ = some (.slice FA rn fc) := by rw [HXp.out] at y3; exact y3
         replace y3f : w22.frozen? ⟨ep, 3, none⟩ = false := by rw [HXp.out] at y3f; exact y3f
         have hEs := hEp.setFv (.slice A5 (rn + 1) c5)
         have hXep : Xp.ep = ep := by rw [HXp.out]; rfl
         have hbn := hb4.setCell (p := ⟨ep, 3, none⟩) (by rw [<- hXep]; exact hEp.fpb.2.2.1) (.slice A5 (rn + 1) c5)
         have hpkl : pks.length = Np := by rw [<- Hpks.out, zjN, List.length_map, HNp.out]
         have htop : zbZ (w22.setCell ⟨ep, 3, none⟩ (.slice A5 (rn + 1) c5)) base ep R rest := by
          obtain ⟨cvf, svf, zvf, nvf, Mcf, Jf, Lf, lvf, hlf, hIf⟩ := hEs
          have hrow : zhQ T g = ⟨T.code.length, nC, (zaF g : Nat), pks, zbG g, rz⟩ := by
           unfold zhQ;rw [HEe.out, HnC.out, Hrz.out, <- Hpks.out]; rfl
          have hRd : R = ⟨E5.code, E5.calls, E5.cn, E5.sites, T.start ++ [T.code.length], T.rows ++ [⟨T.code.length, nC, (zaF g : Nat), pks, zbG g, rz⟩]⟩ := by
           rw [<- HR.out];unfold zco.fn;rw [HEe.out, hrow, HE5.out]
          refine ⟨cvf, .slice A4 (ts + 1) c4, .slice A5 (rn + 1) c5, svf, Mcf, lvf, ps ++ [(.slice QA Np qc, .slice SA sn sc)], by rw [hRd]; exact hlf, by rw [hRd]; simp only [List.length_append, List.length_singleton]; rw [hl2], ?_⟩;rw [hRd];unfold zcn;rw [zhR hl2, zfS hl2];simp only [List.length_append, List.length_singleton];rw [hpkl, Hrn.out, Hts.out];rw [<- HRT.out] at hIf;have hIg := hIf;unfold za1 at hIg;have h9 := zjm _ _ _ _ _ _ _ _ _ _ _ _ _ _ _ _ _ _ _ _ hIg;rw [HXp.out] at h9;exact h9
         refine hK.out _ _ ⟨y3, ky0, ky1, ky2, ky3, ky4, ky5⟩ (fun hHeld3 => ?_);clear hK K hHeld2;obtain ⟨HEp, Hb4, HRB3, HEs, Hbn, Hown4, Hg4, Hat4⟩ := hd8 hEp hb4 hRB3 hEs hbn hown4 hg4 hat4;have Htop := Lib.hid htop;clear htop hat4 hg4 hown4 hbn hEs hRB3 hb4 hEp;refine lay ?_;refine zaa 9 ?_;refine zaa 10 ?_;refine zaa 11 ?_;refine zao 12 (fun K hK => ?_);go_simp;refine hK.out _ _ ?_;clear hK K;refine lay ?_;refine zai (by kernel_rfl) ?_ _;go_wp2_with fail;go_end0;exact ⟨rfl, Htop.out, Hbn.out⟩
        ·intro xk ck v1 cnt1 hwx hwc hlx hat hrg1 hlt hg1 hs1 hen
         have hhas : Maps.has D (.int .i64 xk) = true := by
          rcases hh : Maps.has D (.int .i64 xk) with _ | _
          ·have h1 := hat (.lit (.int .i64 (ck + 1)));rw [Maps.atKey_of_not_has hh] at h1;have := zdD h1
           omega
          ·rfl
         obtain ⟨k, hk⟩ := Hkeys.out _ hhas;injection hk with _ hk;subst hk
         obtain ⟨l, hl⟩ : ∃ l, Ee.jumps k = some l := by
          rcases hj : Ee.jumps k with _ | l
          ·rw [(Hget.out k).2 hj] at hhas; cases hhas
          ·exact ⟨l, rfl⟩
         have hcl : ck = (l : Nat) := by
          have h1 := ((Hget.out k).1 l hl).2 (.lit (.int .i64 0));rw [hat] at h1;exact zdD h1
         subst hcl;have hkn := Hbd.out k l hl
         obtain ⟨m, hm⟩ : ∃ m, Ee.code[k]? = some m := ⟨_, List.getElem?_eq_getElem (by rw [HnC.out]; exact hkn)⟩
         have hpm : (zcd Ee.code Ee.jumps Ee.labels (fun i => left (.int .i64 (i : Int))))[k]? = some m := by
          rw [zbR, hm];show some (zaV _ _ _ k m) = some m;unfold zaV;rw [hl];simp [hlx]
         have hll : l < 9223372036854775808 := by
          have := hwc;simp [Lit.wf, IntKind.min, IntKind.max, IntKind.bits, IntKind.signed] at this
          omega
         obtain ⟨lv, hlv⟩ := mn ((Ee.labels l).getD 0 : Nat);have hpt1 := (hpt.out.kept Hfree.out hCBr hg1).drew;have hlook := zcx.look (w := v1.drew) (hpt1.other (i := 5) (by omega) Hil5.out).2 l hll;rw [hlv] at hlook;obtain ⟨o, ho⟩ := mn (w32 (lv : Int));have how : IntKind.i32.wrap (lv : Int) = o := ho;obtain ⟨hpn, hCBb, s4, r4, hCBl⟩ := hpt1.put Hl1.out hpm hkn o;have hps := zf7 Ee.code Ee.jumps Ee.labels (fun i => left (.int .i64 (i : Int))) hl hm;rw [hlv, ho] at hps;rw [hps] at hpn
         have hlf : (fun i : Nat => left (.int .i64 (i : Int)) && decide (i ≠ k)) = fun i : Nat => left (.int .i64 (i : Int)) && !(Lit.int .i64 (i : Int)).sameKey (.int .i64 (k : Int)) := by
          funext i
          rw [zfr];simp
         rw [hlf] at hpn
         have e0 : v1.cell? ⟨ep, 0, none⟩ = some (.slice (some ⟨CB, 0, none⟩) nC vc) := by
          have := (hpt1.other (i := 0) (by omega) Hil0.out).2.cell 0;rw [HXp.out] at this;exact this
         have e8 : v1.cell? ⟨FP, 8, none⟩ = some (.map (some L)) := by
          rw [<- HXfp.out];exact (hpt1.other (i := 3) (by omega) Hil3.out).2.cell 8
         have hbz : base <= r := by have := HE17.out.size; have := Hr.out; omega
         have hb1 : Below base w v1 := hbr.out.grown hg1 (by have := hs1; have := hrg.out.lt; omega) (fun b e => by injection e with e; omega);have hbn := (hb1.drew).setCell (p := ⟨CB, k * 5 + 4, none⟩) hCBb (.int .i32 o)
         have hrg2 := (World.ranges.kept (w := v1) (w' := v1.drew.setCell ⟨CB, k * 5 + 4, none⟩ (.int .i32 o)) hrg1 (row := some CB) (by exact (zb8 (World.grownBy.refl v1 _)).trans (zar v1.drew ⟨CB, k * 5 + 4, none⟩ (.int .i32 o))) (fun e => by injection e with e; exact hCBJ e.symm) (fun e => by injection e with e; exact hCBr e.symm))
         have hkI : (k : Int) < nC := by omega
         obtain ⟨Hpt1, Hlv, Ho, Hpn, Hps, Hlf, Hb1, Hbn⟩ := hd8 hpt1 hlv ho hpn hps hlf hb1 hbn;obtain ⟨Hrg1, Hrg2, Hm, Hpm, Hhas, Hl, Hat, Hpt⟩ := hd8 hrg1 hrg2 hm hpm hhas hl hat hpt;obtain ⟨Hrg, Hbr⟩ := hd2 hrg hbr;clear hbr hrg hpt hat hl hhas hpm hm hrg2 hrg1 hbn hb1 hlf hps hpn ho hlv hpt1;go_upto_region 25 with fail;refine zbh (S := fun W => W.cell? ⟨ep, 0, none⟩ = some (.slice (some ⟨CB, 0, none⟩) nC vc) /\ W.cell? ⟨FP, 8, none⟩ = some (.map (some L)) /\ (Instr.lookup 64 (.map (some L)) (.int .i64 (l : Nat)) false).run Tryd.prog W = .ok (.int .i64 (lv : Nat)) W) #[false, false, false, false, false, false, false, false, false, false, false, false, false, false, true] (by kernel_rfl) ⟨e0, e8, hlook⟩ (fun hHeld => ?_);refine zaj 0 ?_;refine zaj 1 ?_;refine zaj 2 ?_;refine zaj 3 ?_;refine zaj 4 ?_;refine zaj 5 ?_;refine zaj 6 ?_;refine zaj 7 ?_;refine zaj 8 ?_;refine zaj 9 ?_;refine zaj 10 ?_;refine zaj 11 ?_;refine zaj 12 ?_;refine zaj 13 ?_;refine zbF (i := 14) (by kernel_rfl) rfl ⟨14, by kernel_rfl, by kernel_rfl⟩ (fun K hK => ?_);go_simp;refine hK.out _ _ ?_;clear hK K;refine lay ?_;refine zbY (by kernel_rfl) ?_ _;go_wp2_with fail;have hrg3 : ((v1.setCell ⟨CB, k * 5 + 4, none⟩ (.int .i32 o)).drew).ranges Tryd.prog 3 (plainElem Tryd.prog 3) J r Ee.jn D (fun z => left z && !z.sameKey (.int .i64 (k : Int))) cnt1 := Hrg2.out;refine ⟨⟨fun z => left z && !z.sameKey (.int .i64 (k : Int)), cnt1, Lib.hid hrg3, Lib.hid Hpn.out, Lib.hid Hbn.out⟩, ?_⟩;rw [hrg3.left_eq, Hrg.out.left_eq];exact hlt
end
end Go.Proofs.YtnfjjliiajaijaaDoor
