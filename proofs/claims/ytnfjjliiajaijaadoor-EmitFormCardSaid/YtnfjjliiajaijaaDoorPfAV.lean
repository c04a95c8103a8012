/- Part of the proof, named by its texts: EmU LinOk TopP TopI. No condition of its own. -/
import Derived.Test.YtnfjjliiajaijaaDoorPfAA
import Derived.Test.YtnfjjliiajaijaaDoorPfAN
import Derived.Test.YtnfjjliiajaijaaDoorPfAH
import Derived.Test.YtnfjjliiajaijaaDoorPfAT
import Derived.Test.YtnfjjliiajaijaaDoorPfAU
set_option linter.unusedVariables false
set_option linter.unusedSimpArgs false
set_option maxRecDepth 100000
set_option maxHeartbeats 16000000
namespace Go.Proofs.YtnfjjliiajaijaaDoor
open Go.RowKit
def zfD (p : Int) : Bool := decide (13 <= p) && decide (p < 16)
def zeF (x : zam) : Bool := (zaT x ++ zaD x).any zfD
def zcA (g : zad) : Bool := g.nodes.any zeF
theorem zk1 {w : World} {ga : Addr} {g : zad} {nv : Value} (c6 : w.cell? ⟨ga.block, ga.off + 6, none⟩ = some nv) (hN : zaE 12 zbj w w.heap.size nv g.nodes) (hNb : g.nodes.length <= 1048576) (hal : ∀ x ∈ g.nodes, x.args.length * 8 <= 140737488351232) (hrl : ∀ x ∈ g.nodes, (zaT x).length <= 1048576) :
  Calls Tryd.prog 16 #[.pointer (some ga)] w fun e w' => e = .returned (.bool (zcA g)) /\ Below w.heap.size w w' := by
 obtain ⟨iI, hiI, iz0, iz1, iz2⟩ := info_parts zdk;obtain ⟨R, hR⟩ := mn (zcA g);rw [hR];obtain ⟨NA, nc, rfl, _, _⟩ := hN.slice;obtain ⟨N, hNN⟩ := mn (g.nodes.length);rw [hNN] at c6 hNb;obtain ⟨HN, HNN, HR, Hal, Hrl⟩ := hd5 hN hNN hR hal hrl;clear hrl hal hR hNN hN;go_enter Tryd.func16, Tryd.ntmps16;go_wp2_with fail
 go_loopg [12] N (fun gk iv wr => ∃ j : Nat, j + gk = N /\ iv = .int .i64 j /\ Hid ((g.nodes.take j).any zeF = false) /\ Hid (Below w.heap.size w wr))
 case atStart => exact ⟨0, by omega, rfl, Lib.hid (by simp), Lib.hid (Below.refl _ _)⟩
 case round =>
  obtain ⟨j, hj, rfl, hno, hbj⟩ := hrel
  by_cases hjm : j < N
  ·obtain ⟨x, hx⟩ : ∃ x, g.nodes[j]? = some x := ⟨_, List.getElem?_eq_getElem (by rw [HNN.out]; omega)⟩
   have hxm := List.mem_of_getElem? hx;obtain ⟨nad, cs, hna, hnb', _, _, ⟨av, hcs, hav⟩, z0', nj'⟩ := zaE.at_ HN.out hx
   have z0 : ∀ u, cs[0]? = some u -> wr.cell? (nad.add (j * 12)) = some u := fun u hu => (hbj.out.cell (p := nad.add (j * 12)) (by rw [zas]; exact hnb')).trans (z0' u hu)
   have nj : ∀ k u, 0 < k -> cs[k]? = some u -> wr.cell? ⟨(nad.add (j * 12)).block, (nad.add (j * 12)).off + k, none⟩ = some u := fun k u hk hu => (hbj.out.cell (p := ⟨(nad.add (j * 12)).block, (nad.add (j * 12)).off + k, none⟩) (by show (nad.add (j * 12)).block < w.heap.size; rw [zas]; exact hnb')).trans (nj' k u hk hu)
   clear z0' nj';subst hna hcs;obtain ⟨AA, aac, hava, _, _, _⟩ := hav.slice;subst hava;have n0 : wr.cell? (nad.add (j * 12)) = some (.int .u8 x.op) := z0 _ rfl;have n1 := nj 1 _ (by omega) rfl;have n2 := nj 2 _ (by omega) rfl;have n3 := nj 3 _ (by omega) rfl;have n4 := nj 4 _ (by omega) rfl;have n5 := nj 5 _ (by omega) rfl;have n6 := nj 6 _ (by omega) rfl;have n7 := nj 7 _ (by omega) rfl;have n8 := nj 8 _ (by omega) rfl;have n9 := nj 9 _ (by omega) rfl;have n10 := nj 10 _ (by omega) rfl;have n11 := nj 11 _ (by omega) rfl;clear nj z0;have hbv := hbj.out.alloc hbj.out.size (.cells (zae x (.slice AA x.args.length aac)).toArray 55);have hB0 := Blk.new wr 55 (zae x (.slice AA x.args.length aac)).toArray;obtain ⟨TB, hTB⟩ := nm (wr.heap.size);obtain ⟨v1, hv1⟩ := nm (wr.alloc (.cells (zae x (.slice AA x.args.length aac)).toArray 55));rw [<- hv1, <- hTB] at hB0;rw [<- hv1] at hbv;have hv1' : wr.alloc (.cells #[.int .u8 x.op, .int .u8 x.byo, .int .i64 x.d, .int .i64 x.e, .int .i64 x.a, .int .i64 x.b, .int .i64 x.f, .int .i64 x.cell, .int .u64 x.imm, .slice AA x.args.length aac, .int .i64 x.next, .int .i64 x.els] 55) = v1 := hv1.symm
   have hjI : (j : Int) < N := by omega
   have hrange : v1.rangeAt TB 0 (zae x (.slice AA x.args.length aac)) := fun k v hv => by
    rw [hB0.cell (0 + k), Nat.zero_add, List.getElem?_toArray];exact hv
   obtain ⟨NC, hNC⟩ := mn ((zae x (.slice AA x.args.length aac)).toArray);have hal2 := Hal.out x hxm;have hreads := zhb v1.drew x (.slice AA x.args.length aac) w.heap.size hbv.drew.size (hav.below hbv.drew) (by omega);rw [hNC] at hreads
   have hsn : (g.nodes.take (j + 1)).any zeF = zeF x := by
    rw [List.take_add_one, hx, Option.toList_some, List.any_append, hno.out]; simp
   obtain ⟨Hx, Hxm, Hav, Hbv, HB0, HTB, Hv1, HV1E⟩ := hd8 hx hxm hav hbv hB0 hTB hv1 hv1';obtain ⟨HNC, Hreads, Hsn⟩ := hd3 hNC hreads hsn;clear hsn hreads hNC hv1' hv1 hTB hB0 hbv hav hxm hx;go_upto_region 4 with fail;rw [HV1E.out, <- HTB.out];clear n0 n1 n2 n3 n4 n5 n6 n7 n8 n9 n10 n11;refine zbh (S := fun W => W.rangeAt TB 0 (zae x (.slice AA x.args.length aac))) #[false, false, false, false, true, false, false] (by kernel_rfl) hrange (fun hHeld => ?_);refine zd2 (i := 0) rfl (by kernel_rfl) (by kernel_rfl) (by kernel_rfl) (by kernel_rfl) (fun _ _ _ h => h) (yieldsIf_load_mid (by rfl) 55 _ rfl TB 0 rfl (zae x (.slice AA x.args.length aac)) _ (fun w h => h) Tryd.underlying55 rfl (by kernel_rfl)) (by assumption) ?_;refine lay ?_;refine zd2 (i := 2) rfl (by kernel_rfl) (by kernel_rfl) (by kernel_rfl) (by kernel_rfl) (fun _ _ _ h => h) (yieldsIf_load_mid (by rfl) 55 _ rfl TB 0 rfl (zae x (.slice AA x.args.length aac)) _ (fun w h => h) Tryd.underlying55 rfl (by kernel_rfl)) (by assumption) ?_;refine lay ?_;refine zdd (i := 6) (v := ?_) rfl (by kernel_rfl) (by kernel_rfl) (by kernel_rfl) (by kernel_rfl) (fun _ _ _ h => h) (Or.inl ⟨by rfl, ?_⟩) (by first | assumption | exact Or.inr (by assumption)) ?_
   rotate_left
   ·intro w hSw; (try dsimp only at hSw); go_simp; try with_reducible rfl
   simp only [Act.put, List.getElem_toArray, List.getElem_cons_zero, List.getElem_cons_succ, List.setIfInBounds_toArray, List.set_cons_zero, List.set_cons_succ];refine zdy (i := 1) (by kernel_rfl) rfl (fun K hK => ?_);go_simp;rw [HNC.out];refine Hreads.out.mono ?_;rintro e v2 ⟨⟨rv, rfl, hLr⟩, hb2⟩;unfold zeA at hLr;obtain ⟨RA, rc, rfl, hrc1, hrc2, _⟩ := zak hLr;have hB2 := HB0.out.below (w := v1) (w' := v2) (Below.of_drew hb2) HB0.out.lt
   have hrange2 : v2.rangeAt TB 0 (zae x (.slice AA x.args.length aac)) := fun k v hv => by
    rw [hB2.cell (0 + k), Nat.zero_add, List.getElem?_toArray];exact hv
   have hwrites := zf0 v2 x (.slice AA x.args.length aac);rw [HNC.out] at hwrites;obtain ⟨m1, hm1⟩ := mn ((zaT x).length);rw [hm1] at hLr hrc1;rw [hm1];refine hK.out _ _ hrange2 (fun hHeld2 => ?_);clear hK K hHeld;refine lay ?_;refine zdy (i := 3) (by kernel_rfl) rfl (fun K hK => ?_);go_simp
   try rw [HNC.out]
   refine hwrites.mono ?_;rintro e v3 ⟨⟨wv, rfl, hLw⟩, hb3⟩;unfold zeA at hLw;obtain ⟨WA, wc, rfl, hwc1, hwc2, _⟩ := zak hLw;have hB3 := hB2.below hb3 hB2.lt
   have hrange3 : v3.rangeAt TB 0 (zae x (.slice AA x.args.length aac)) := fun k v hv => by
    rw [hB3.cell (0 + k), Nat.zero_add, List.getElem?_toArray];exact hv
   obtain ⟨m2, hm2⟩ := mn ((zaD x).length);rw [hm2] at hLw hwc1;rw [hm2];refine hK.out _ _ hrange3 (fun hHeld3 => ?_);clear hK K hHeld2;refine lay ?_;refine zbF (i := 4) (by kernel_rfl) rfl ⟨4, by kernel_rfl, by kernel_rfl⟩ (fun K hK => ?_);have hLr3 : v3.ownsRow v1.drew.heap.size 3 1 (.slice RA m1 rc) m1 ((zaT x).map (Value.int .i64)) := It.At.kept (x := .row (.slice RA m1 rc) 3 1 m1 ((zaT x).map (Value.int .i64))) hLr (zah hb3 none) (fun b hb => nofun);have hb2s := hb2.size;have hb3s := hb3.size
   have hm1s : m1 <= 1048576 := by rw [<- hm1]; exact Hrl.out x Hxm.out
   have hm2s : m2 <= 1048576 := by
    have := zeE x
    omega
   refine zaB _ rfl (.tmp 17) (.tmp 19) _ rfl v1.drew.heap.size 3 iI _ 1 8 Tryd.underlying40 hiI iz0 iz1 iz2 rfl (by omega) (.slice RA m1 rc) m1 ((zaT x).map (Value.int .i64)) rfl hLr3 v3.heap.size WA m2 wc ((zaD x).map (Value.int .i64)) rfl (zal.of_own hLw) ?c1 ?c2 ?c3 ?c4 ?_
   case c1 => exact zbW _ _
   case c2 => simp only [maxLen]; omega
   case c3 => omega
   case c4 => omega
   intro v4 w4 hown4 hg4 hat4;obtain ⟨LA, lc, rfl, hlc1, hlc2, _⟩ := zak hown4
   have hbf : Below w.heap.size w w4 := by
    have h1 := ((Hbv.out.drew).trans (hb2.mono Hbv.out.drew.size)).trans (hb3.mono (Nat.le_trans Hbv.out.drew.size hb2s));exact h1.grown hg4 (Nat.le_trans Hbv.out.drew.size (Nat.le_trans hb2s hb3s)) (fun b e => Nat.le_trans Hbv.out.drew.size (hLr3.lt b e).1)
   rw [<- List.map_append] at hown4;obtain ⟨l, hl⟩ := mn (zaT x ++ zaD x);rw [hl] at hown4;obtain ⟨m, hm⟩ := mn (m1 + m2);rw [hm] at hown4 hlc1
   have hll : l.length = m := by rw [<- hl, List.length_append, hm1, hm2, hm]
   have hul : zeF x = l.any zfD := by unfold zeF; rw [hl]
   have hmm : (m : Int) <= 2097152 := by omega
   rw [hm];refine hK.out _ _ ?_;clear hK K;refine lay ?_;refine zdd (i := 5) (v := ?_) rfl (by kernel_rfl) (by kernel_rfl) (by kernel_rfl) (by kernel_rfl) (fun _ _ _ h => h) (Or.inl ⟨by rfl, ?_⟩) (Or.inl ⟨4, by kernel_rfl, by kernel_rfl⟩) ?_
   rotate_left
   ·intro w hSw; (try dsimp only at hSw); go_simp; try with_reducible rfl
   simp only [Act.put, List.getElem_toArray, List.getElem_cons_zero, List.getElem_cons_succ, List.setIfInBounds_toArray, List.set_cons_zero, List.set_cons_succ];refine zbY (by kernel_rfl) ?_ _;obtain ⟨HLr3, Hbf, Hown4, Hl, Hm, Hll, Hul, HLw⟩ := hd8 hLr3 hbf hown4 hl hm hll hul hLw;obtain ⟨HLr, Hg4, Hat4, Hb2, Hb3, HB2, HB3, Hm1⟩ := hd8 hLr hg4 hat4 hb2 hb3 hB2 hB3 hm1;obtain ⟨Hm2, Hrange2, Hrange3⟩ := hd3 hm2 hrange2 hrange3;clear hrange3 hrange2 hm2 hm1 hB3 hB2 hb3 hb2 hat4 hg4 hLr hLw hul hll hm hl hown4 hbf hLr3;clear hHeld3;go_wp2_with fail;obtain ⟨g1, rfl⟩ := nm (gk : Nat)
   go_loopg [22] m (fun gk iv wz => ∃ k : Nat, k + gk = m /\ iv = .int .i64 k /\ wz = w4 /\ Hid ((l.take k).any zfD = false))
   case atStart => exact ⟨0, by omega, rfl, rfl, Lib.hid (by simp)⟩
   case round =>
    obtain ⟨k, hk, rfl, hwz, hnk⟩ := hrel;subst hwz
    by_cases hkm : k < m
    ·obtain ⟨ad, u, hA, _, hu, hcu⟩ := (zal.of_own Hown4.out).at_ hkm;subst hA
     obtain ⟨p, hp⟩ : ∃ p, l[k]? = some p := ⟨_, List.getElem?_eq_getElem (by rw [Hll.out]; exact hkm)⟩
     have hu2 : u = .int .i64 p := by
      rw [List.getElem?_map, hp] at hu;injection hu with hu;exact hu.symm
     subst hu2
     have hkI : (k : Int) < m := by omega
     by_cases hp1 : 13 <= p /\ p < 16
     ·obtain ⟨hp13, hp16⟩ := hp1
      have hyes : R = true := by
       rw [<- HR.out];unfold zcA;rw [List.any_eq_true];refine ⟨x, Hxm.out, ?_⟩;rw [Hul.out, List.any_eq_true];exact ⟨p, List.mem_of_getElem? hp, by unfold zfD; simp [hp13, hp16]⟩
      obtain ⟨Hp, Hu, Hyes⟩ := hd3 hp hu hyes;clear hyes hu hp;go_wp2_with fail;go_ret;rw [Hyes.out];exact ⟨rfl, Hbf.out⟩
     ·have hnk2 : (l.take (k + 1)).any zfD = false := by
       rw [List.take_add_one, hp, Option.toList_some, List.any_append, hnk.out];unfold zfD
       simp; omega
      obtain ⟨Hp, Hu, Hnk2⟩ := hd3 hp hu hnk2;clear hnk2 hu hp
      by_cases hp13 : 13 <= p
      ·have hp16 : ¬ p < 16 := fun h => hp1 ⟨hp13, h⟩
       clear hp1;go_wp2_with fail
       go_roundg (gk - 1)
       case measure => omega
       case rel => exact ⟨k + 1, by omega, by simp, rfl, Hnk2⟩
      ·clear hp1;go_wp2_with fail
       go_roundg (gk - 1)
       case measure => omega
       case rel => exact ⟨k + 1, by omega, by simp, rfl, Hnk2⟩
    ·obtain rfl : m = k := by omega
     have hmI : ¬ (m : Int) < m := by omega
     have hno2 : (g.nodes.take (j + 1)).any zeF = false := by
      rw [Hsn.out, Hul.out];have := hnk.out
      rwa [List.take_of_length_le (by rw [Hll.out]; exact Nat.le_refl _)] at this
     obtain ⟨Hno2, Hnk⟩ := hd2 hno2 hnk;clear hnk hno2;go_wp2_with fail
     go_roundg (g1 - 1)
     case measure => omega
     case rel => exact ⟨j + 1, by omega, by simp, Hno2, Hbf⟩
  ·obtain rfl : N = j := by omega
   have hNI : ¬ (N : Int) < N := by omega
   have hnoR : R = false := by
    have := hno.out;rw [List.take_of_length_le (by rw [HNN.out]; exact Nat.le_refl _)] at this;rw [<- HR.out]; exact this
   obtain ⟨Hno, HnoR⟩ := hd2 hno hnoR;clear hnoR hno;go_wp2_with fail;go_ret;rw [HnoR.out];exact ⟨rfl, hbj.out⟩
theorem zep (l : List Int) : ∀ p ∈ zbx l, p ∈ l := by
 have h : ∀ (l o : List Int), ∀ p ∈ l.foldl zbv o, p ∈ o ∨ p ∈ l := by
  intro l
  induction l with
  | nil => intro o p hp; exact .inl hp
  | cons x l ih =>
   intro o p hp
   rcases ih (zbv o x) p hp with h | h
   ·unfold zbv at h
    split at h
    ·rcases List.mem_append.1 h with h | h
     ·exact .inl h
     ·rw [List.mem_singleton] at h;exact .inr (by rw [h]; exact List.mem_cons_self)
    ·exact .inl h
   ·exact .inr (List.mem_cons_of_mem _ h)
 intro p hp
 rcases h l [] p hp with h | h
 ·cases h
 ·exact h
theorem zjK {gs : List zad} {g : zad} {x : zam} (h : zcM gs g true x = true) (hp : ∀ f ∈ gs, f.params.length <= 4) : x.args.length <= 4 /\ ∀ p ∈ x.args, 0 <= p /\ p < 4 := by
 unfold zcM at h;rw [Bool.and_eq_true] at h;obtain ⟨_, h2⟩ := h
 rcases hf : gs[x.f.toNat]? with _ | f
 ·rw [hf] at h2; cases h2
 ·rw [hf] at h2;simp only [Bool.and_eq_true, decide_eq_true_eq] at h2;have hl := hp f (List.mem_of_getElem? hf);refine ⟨by omega, fun p hp => ?_⟩;obtain ⟨i, hi, rfl⟩ := List.getElem_of_mem hp;have := List.all_eq_true.1 h2.2 i (List.mem_range.2 hi);unfold zfk at this;simp only [if_true, decide_eq_true_eq, List.getD_eq_getElem?_getD, List.getElem?_eq_getElem hi, Option.getD_some] at this
  omega
section
variable {gs : List zad} {g : zad} {x : zam}
theorem zk9 (h : opB gs g true x = true) (ho : x.op = 11 ∨ x.op = 13) : zcM gs g true x = true := by
 unfold opB at h
 rcases ho with ho | ho
 ·rw [if_neg (by omega), if_neg (by omega), if_neg (by omega), if_neg (by omega), if_neg (by omega), if_neg (by omega), if_neg (by omega), if_neg (by omega), if_neg (by omega), if_neg (by omega), if_neg (by omega), if_neg (by omega), if_pos ho, Bool.and_eq_true] at h;exact h.1
 ·rw [if_neg (by omega), if_neg (by omega), if_neg (by omega), if_neg (by omega), if_neg (by omega), if_neg (by omega), if_neg (by omega), if_neg (by omega), if_neg (by omega), if_neg (by omega), if_neg (by omega), if_pos ho] at h;exact h
theorem zgy (h : zbg gs g true x = true) (hp : ∀ f ∈ gs, f.params.length <= 4) (hk : 16 <= g.kinds.length) : (∀ t ∈ zaT x, 0 <= t /\ t < (g.kinds.length : Int)) /\ (zaT x).length <= 4 := by
 have ok := zlV.of h;unfold zbg at h;rw [Bool.and_eq_true] at h;unfold zaT
 by_cases e1 : x.op = 2 ∨ x.op = 5 ∨ x.op = 7 ∨ x.op = 9 ∨ x.op = 12 ∨ x.op = 14 ∨ x.op = 17 ∨ x.op = 18
 ·rw [if_pos e1];refine ⟨fun t ht => ?_, by have := zeq [x.a]; simp only [List.length_cons, List.length_nil] at this; omega⟩;have h1 := zep _ t ht;have h2 := zgA _ t ht;rw [List.mem_singleton] at h1;subst h1
  by_cases h12 : x.op = 12
  ·rcases ok.ret h12 with h | h
   ·omega
   ·exact h.2
  ·exact ok.a (by omega)
 rw [if_neg e1]
 by_cases e2 : x.op = 3 ∨ x.op = 8
 ·rw [if_pos e2];refine ⟨fun t ht => ?_, by have := zeq [x.a, x.b]; simp only [List.length_cons, List.length_nil] at this; omega⟩;have h1 := zep _ t ht;have ha := ok.a (by omega);have hb := ok.b (by omega);simp only [List.mem_cons, List.not_mem_nil, or_false] at h1
  rcases h1 with rfl | rfl
  ·exact ha
  ·exact hb
 rw [if_neg e2]
 by_cases e3 : x.op = 11 ∨ x.op = 13
 ·rw [if_pos e3];obtain ⟨h1, h2⟩ := zjK (zk9 h.2 e3) hp;refine ⟨fun t ht => ?_, by have := zeq x.args; omega⟩;have := h2 t (zep _ t ht)
  omega
 rw [if_neg e3];exact ⟨fun t ht => (by cases ht), by simp⟩
theorem zjP (h : zbg gs g true x = true) : ∀ t ∈ zaD x, 0 <= t /\ t < (g.kinds.length : Int) := by
 have ok := zlV.of h;intro t ht;have hpos := zfZ x t ht;unfold zaD at ht
 by_cases e1 : x.op = 1 ∨ x.op = 2 ∨ x.op = 3 ∨ x.op = 4 ∨ x.op = 6 ∨ x.op = 7 ∨ x.op = 11 ∨ x.op = 16
 ·rw [if_pos e1] at ht;have h1 := zep _ t ht;rw [List.mem_singleton] at h1;subst h1
  by_cases h11 : x.op = 11
  ·rcases ok.cd h11 with h | h
   ·omega
   ·exact h
  ·exact ok.d (by omega)
 rw [if_neg e1] at ht
 by_cases e2 : x.op = 15
 ·rw [if_pos e2] at ht;have h1 := zep _ t ht;have hd := ok.d (by omega);have he := ok.e e2;simp only [List.mem_cons, List.not_mem_nil, or_false] at h1
  rcases h1 with rfl | rfl
  ·exact hd
  ·exact he
 rw [if_neg e2] at ht
 cases ht
end
theorem zgg {g : zad} (h : zca g true = true) : g.init.length = g.params.length /\ 0 <= g.cells /\ (∀ c ∈ g.init, c < g.cells) /\ g.keep < g.cells /\ (∀ k ∈ g.kinds, k <= 1) := by
 unfold zca zif zfV at h;simp only [Bool.and_eq_true, Bool.not_eq_true', Bool.or_eq_false_iff, decide_eq_false_iff_not, Bool.true_and] at h;obtain ⟨⟨⟨h1, h2⟩, h3⟩, h4⟩ := h;obtain ⟨⟨⟨⟨q1, q2⟩, q3⟩, q4⟩, q5⟩ := h2
 have hil : g.init.length = g.params.length := by omega
 refine ⟨hil, by omega, fun c hc => ?_, ?_, fun k hk => ?_⟩
 ·obtain ⟨i, hi, rfl⟩ := List.getElem_of_mem hc;have := List.all_eq_true.1 h3 i (List.mem_range.2 (by omega));unfold zf8 at this;simp only [Bool.and_eq_true, Bool.not_eq_true', Bool.and_eq_false_iff, Bool.or_eq_false_iff, decide_eq_false_iff_not, List.getD_eq_getElem?_getD, List.getElem?_eq_getElem hi, Option.getD_some] at this
  rcases this.2 with h | h
  ·simp only [ne_eq, Decidable.not_not] at h; omega
  ·have := zey (show zbT g _ = true by simpa using h.1)
   omega
 ·rcases Bool.and_eq_false_iff.1 q5 with h | h
  ·simp at h; omega
  ·have := zey (show zbT g _ = true by simpa using h)
   omega
 ·have hall := h1.2;rw [List.any_eq_false] at hall;have := hall k hk;simp at this; omega
theorem zd1.of {gs : List zad} {g : zad} (h : za3 gs true = true) (hg : g ∈ gs) (himm : ∀ x ∈ g.nodes, U64 x.imm) (hargs : ∀ x ∈ g.nodes, x.args.length * 8 <= 140737488351232) : zd1 gs g := by
 obtain ⟨hh, hn⟩ := zbu h hg;have hr := zfd h g hg;obtain ⟨p1, p2, p3, p4⟩ := zby hh;obtain ⟨m1, m2, m3, m4, m5⟩ := zgg hh
 have hp : ∀ f ∈ gs, f.params.length <= 4 := fun f hf => (zby (zbu h hf).1).2.1
 exact ⟨hr, (zbI h).2, fun x hx => zlV.of (hn x hx), himm, hargs, fun x hx => (zgy (hn x hx) hp hr.k0).1, fun x hx => zjP (hn x hx), p1, p2, m1, m3, m4⟩
section
variable {gs : List zad} {g : zad}
theorem zet (hns : zjM g.nodes) (he : 0 <= g.entry /\ g.entry < g.nodes.length) {x : zam} (hx : x ∈ (zaK g).nodes) : (∃ n ∈ g.nodes, ∃ a b, x = { n with next := a, els := b }) ∨ (∃ a b, x = { ziD 0 with next := a, els := b }) := by
 have hL := zdG hns (entry := g.entry.toNat) (by omega);obtain ⟨c, hc, rfl⟩ := List.getElem_of_mem hx;have hx' : (zea g.nodes g.entry.toNat)[c]? = some (zea g.nodes g.entry.toNat)[c] := List.getElem?_eq_getElem hc;unfold zea at hx';rw [List.getElem?_mapIdx] at hx'
 rcases ho : (zfB g.nodes g.entry.toNat).out[c]? with _ | y
 ·rw [ho] at hx'; cases hx'
 ·rw [ho] at hx';injection hx' with hx'
  have hfix : ∃ a b, zgM (zfB g.nodes g.entry.toNat).at_ c y = { y with next := a, els := b } := by
   unfold zgM;dsimp only
   split <;> split
   ·exact ⟨_, _, rfl⟩
   ·split <;> exact ⟨_, _, rfl⟩
   ·exact ⟨_, _, rfl⟩
   ·split <;> exact ⟨_, _, rfl⟩
  obtain ⟨a, b, hab⟩ := hfix;rw [hab] at hx';have e : (zaK g).nodes[c] = { y with next := a, els := b } := hx'.symm;rw [e]
  rcases hL.out c y ho with ⟨j, hj⟩ | ⟨t, rfl, _⟩
  ·obtain ⟨h1, h2, _⟩ := hL.at_ j c hj;rw [ho] at h2;injection h2 with h2;refine .inl ⟨nd g.nodes j, zfw h1, a, b, ?_⟩;rw [h2];unfold laid zcq
   split
   ·rfl
   ·split <;> rfl
  ·exact .inr ⟨a, b, rfl⟩
theorem zeL {x : zam} {t : Int} (h : t ∈ zaR x) : t = x.next ∨ (x.op = 9 /\ t = x.els) := by
 unfold zaR at h
 split at h
 ·cases h
 ·split at h
  ·next h9 =>
   simp only [List.mem_cons, List.not_mem_nil, or_false] at h
   rcases h with h | h
   ·exact .inl h
   ·exact .inr ⟨h9.1, h⟩
  ·split at h
   ·cases h
   ·simp only [List.mem_cons, List.not_mem_nil, or_false] at h;exact .inl h
theorem zkt (hns : zjM g.nodes) (he : 0 <= g.entry /\ g.entry < g.nodes.length) {c : Nat} {x : zam} (hx : (zaK g).nodes[c]? = some x) : ∀ t ∈ zaR x, 0 <= t /\ t < ((zaK g).nodes.length : Int) := by
 have hL := zdG hns (entry := g.entry.toNat) (by omega)
 have hlen : (zaK g).nodes.length = (zfB g.nodes g.entry.toNat).out.length := by
  show (zea g.nodes g.entry.toNat).length = _;unfold zea; simp
 rw [hlen];have hx' : (zea g.nodes g.entry.toNat)[c]? = some x := hx;unfold zea at hx';rw [List.getElem?_mapIdx] at hx';obtain ⟨s, hs⟩ := mn (zfB g.nodes g.entry.toNat);rw [hs] at hL hx' ⊢
 have hat : ∀ j v, s.at_ j = some v -> v < s.out.length := fun j v h => (List.getElem?_eq_some_iff.1 (hL.at_ j v h).2.1).1
 rcases ho : s.out[c]? with _ | y
 ·rw [ho] at hx'; cases hx'
 ·rw [ho] at hx';injection hx' with hx';intro t ht
  by_cases h10 : y.op = 10
  ·obtain ⟨u, v, h1, h2, h3⟩ := hL.nop ho h10;have hv := hat _ _ h3
   have hxe : x = { y with next := (v : Nat) } := by
    rw [<- hx'];unfold zgM;dsimp only;rw [if_pos h10, if_neg (by omega), h1, Int.toNat_natCast, h3]; rfl
   rcases zeL ht with h | ⟨h, _⟩
   ·rw [h, hxe]; show 0 <= (v : Int) /\ (v : Int) < _; omega
   ·rw [hxe] at h;have : y.op = 9 := h
    omega
  ·rcases hL.out c y ho with ⟨j, hj⟩ | ⟨u, rfl, _⟩
   ·obtain ⟨a1, a2, a3, a4⟩ := hL.at_ j c hj;rw [ho] at a2;injection a2 with a2
    have hop : (nd g.nodes j).op ≠ 10 := by
     intro e;rw [zgG e] at a2;rw [a2] at h10;exact h10 e
    rw [zfg hop] at a2
    by_cases hn : zaR y = []
    ·have h9 : y.op ≠ 9 := fun e => zeR e hn
     have hxe : x = y := by
      rw [<- hx'];unfold zgM;dsimp only;rw [if_neg h10, if_neg h9, if_pos hn]
     rw [hxe, hn] at ht
     cases ht
    ·have hn2 : zaR (nd g.nodes j) ≠ [] := fun e => by
      rw [a2] at hn;exact hn (zd4.2 e)
     have hc1 : c + 1 < s.out.length := by
      rcases a3 hop hn2 with h | ⟨h, _⟩
      ·exact hat _ _ h
      ·exact (List.getElem?_eq_some_iff.1 h).1
     by_cases h9 : y.op = 9
     ·obtain ⟨u, v, h1, h2, h3⟩ := hL.br ho h9;have hv := hat _ _ h3
      have hxe : x = { y with next := (c : Int) + 1, els := (v : Nat) } := by
       rw [<- hx'];unfold zgM;dsimp only;rw [if_neg h10, if_neg hn, if_pos h9, h1, Int.toNat_natCast, h3]; rfl
      rcases zeL ht with h | ⟨_, h⟩
      ·rw [h, hxe]; show 0 <= (c : Int) + 1 /\ (c : Int) + 1 < _; omega
      ·rw [h, hxe]; show 0 <= (v : Int) /\ (v : Int) < _; omega
     ·have hxe : x = { y with next := (c : Int) + 1 } := by
       rw [<- hx'];unfold zgM;dsimp only;rw [if_neg h10, if_neg hn, if_neg h9]
      rcases zeL ht with h | ⟨h, _⟩
      ·rw [h, hxe]; show 0 <= (c : Int) + 1 /\ (c : Int) + 1 < _; omega
      ·rw [hxe] at h;exact absurd h h9
   ·exact absurd rfl h10
theorem zk8 (x : zam) (a b : Int) : opB (gs.map zaK) (zaK g) true { x with next := a, els := b } = opB gs g true x := by
 have hA : zcM (gs.map zaK) (zaK g) true { x with next := a, els := b } = zcM gs g true x := by
  unfold zcM;dsimp only;rw [List.getElem?_map]
  rcases gs[x.f.toNat]? with _ | f
  ·rfl
  ·rfl
 unfold opB;dsimp only;rw [hA, List.getElem?_map]
 rcases gs[x.f.toNat]? with _ | f <;> rfl
theorem zgd (h : za3 gs true = true) (hs : zcO gs) (ho : zbk gs = false) : za3 (gs.map zaK) true = true := by
 have hl := zbI h
 have hall : ∀ g ∈ gs, zca (zaK g) true = true /\ ∀ x ∈ (zaK g).nodes, zbg (gs.map zaK) (zaK g) true x = true := by
  intro g hg;obtain ⟨hh, hn⟩ := zbu h hg;obtain ⟨hns, he⟩ := zge h hs hg;have hL := zdG hns (entry := g.entry.toNat) (by omega)
  have hlen : (zaK g).nodes.length = (zfB g.nodes g.entry.toNat).out.length := by
   show (zea g.nodes g.entry.toNat).length = _;unfold zea; simp
  have hov : (zaK g).nodes.length <= 4096 := by
   unfold zbk at ho;rw [List.any_eq_false] at ho;have := ho g hg
   simpa using this
  refine ⟨?_, fun x hx => ?_⟩
  ·unfold zca at hh ⊢;rw [Bool.and_eq_true] at hh ⊢;refine ⟨hh.1, ?_⟩;unfold zgJ;simp only [Bool.and_eq_true, decide_eq_true_eq];have := hL.pos;refine ⟨⟨⟨by omega, hov⟩, by show (0 : Int) <= 0; omega⟩, by show (0 : Int) < _; omega⟩
  ·unfold zbg;rw [Bool.and_eq_true]
   constructor
   ·obtain ⟨c, hc, rfl⟩ := List.getElem_of_mem hx
    refine List.all_eq_true.2 fun t ht => ?_
    have := zkt hns he (List.getElem?_eq_getElem hc) t ht;simp [this.1, this.2]
   ·rcases zet hns he hx with ⟨n, hnm, a, b, rfl⟩ | ⟨a, b, rfl⟩
    ·rw [zk8];have := hn n hnm;unfold zbg at this;rw [Bool.and_eq_true] at this;exact this.2
    ·unfold opB;simp [ziD]
 unfold za3 at h ⊢;rw [Bool.and_eq_true, Bool.and_eq_true] at h ⊢;refine ⟨⟨?_, ?_⟩, ?_⟩
 ·rw [List.getElem?_map];have h1 := h.1.1
  rcases hg0 : gs[0]? with _ | g0
  ·rw [hg0] at h1; cases h1
  ·rw [hg0] at h1;show _ = true;simp only [Option.map_some, List.length_map];exact h1
 ·refine List.all_eq_true.2 fun g' hg' => ?_
  obtain ⟨g, hg, rfl⟩ := List.mem_map.1 hg';exact (hall g hg).1
 ·refine List.all_eq_true.2 fun g' hg' => ?_
  obtain ⟨g, hg, rfl⟩ := List.mem_map.1 hg'
  exact List.all_eq_true.2 fun x hx => (hall g hg).2 x hx
end
theorem zi5 (l rest : List It) (x y z : It) : (x :: y :: z :: (l ++ rest)).Perm (l ++ x :: y :: z :: rest) := by
 have h1 : (z :: (l ++ rest)).Perm (l ++ z :: rest) := List.perm_middle.symm;have h2 : (y :: (l ++ z :: rest)).Perm (l ++ y :: z :: rest) := List.perm_middle.symm;have h3 : (x :: (l ++ y :: z :: rest)).Perm (l ++ x :: y :: z :: rest) := List.perm_middle.symm;exact (((h1.cons y).trans h2).cons x).trans h3
theorem zkr (f s t m b c : It) : [f, s, t, m, b, c].Perm [b, m, c, t, s, f] := by
 refine zbs (l1 := []) (m1 := [b, m, c, t, s]) ?_;refine zbs (l1 := []) (m1 := [b, m, c, t]) ?_;refine zbs (l1 := []) (m1 := [b, m, c]) ?_;refine zbs (l1 := []) (m1 := [b]) ?_;exact List.Perm.refl _
def topZ : zco := ⟨[], fun _ => none, 0, [], [], []⟩
def zco.put (T : zco) (l : List zaw) : zco := { T with code := T.code ++ l }
def znb : zco := topZ.put [⟨13, 0, 0, 0, 0⟩, ⟨13, 0, 0, 0, 1⟩]
def zav (gs : List zad) : zco := gs.foldl zco.fn znb
def zay (T : zco) : List zaw := zcd T.code T.calls (fun f => T.start[f]?) (fun _ => false)
def zbC (gs : List zad) : Int :=
 if za3 gs true = false then 70
 else if gs.any zcA = true then 160
 else if zbk gs = true then 31
 else if (zay (zav (gs.map zaK))).all zaP = false ∨ 1048576 < (zay (zav (gs.map zaK))).length then 31 else 0
theorem zck (gs : List zad) (g : zad) : zav (gs ++ [g]) = (zav gs).fn g := by unfold zav; rw [List.foldl_append]; rfl
theorem zmA (T : zco) (g : zad) : (T.fn g).rows.length = T.rows.length + 1 /\ (T.fn g).start.length = T.start.length + 1 := by
 unfold zco.fn; simp
theorem zcH (gs : List zad) : (zav gs).rows.length = gs.length /\ (zav gs).start.length = gs.length := by
 suffices h : ∀ n, n <= gs.length -> (zav (gs.take n)).rows.length = n /\ (zav (gs.take n)).start.length = n by
  have := h gs.length (Nat.le_refl _)
  rwa [List.take_length] at this
 intro n
 induction n with
 | zero => intro _; exact ⟨rfl, rfl⟩
 | succ n ih =>
  intro hn;rw [List.take_add_one, List.getElem?_eq_getElem (by omega), Option.toList_some, zck];obtain ⟨h1, h2⟩ := ih (by omega);obtain ⟨h3, h4⟩ := zmA (zav (gs.take n)) gs[n]
  omega
def zco.sz (T : zco) : Nat := T.code.length + T.cn + T.sites.length
theorem znr {gs : List zad} {g : zad} (T : zco) (ok : zd1 gs g) : (T.fn g).sz <= T.sz + 50000 := by
 have hszs : (zbc T).sz = T.sz := by unfold EmS.sz zbc zco.sz; simp
 have h1 := ziu (zbc T) (xOf g) g.init;have h2 := zgs ((zbc T).begin (xOf g) g.init) (zaG g) (zdB g) (zct g) g.nodes;have h3 := zlZ (zdb T g) (xOf g) g.result g.keep;have hk := ok.right.k1;have hc0 := ok.right.c0;have hc1 := ok.right.c1;have hn := ok.right.n1;have hil := ok.il;have hpl := ok.pl
 have hrk : (xOf g).saves.length <= 6 := by
  show (zbG g).length <= 6;rw [zcJ]; exact zb7 _ _
 have e1 : (xOf g).ns <= 1008 := by show zaG g <= 1008; unfold zaG; omega
 have e2 : (xOf g).nc <= 64 := by show zaU g <= 64; unfold zaU; omega
 have e3 : zdb T g = ((zbc T).begin (xOf g) g.init).nodes (zaG g) (zdB g) (zct g) g.nodes := rfl
 have e4 : (T.fn g).sz = (zdI T g).code.length + (zdI T g).cn + (zdI T g).sites.length := by
  unfold zco.sz zco.fn; simp only [zbH]
 have e5 : (zdI T g).code.length + (zdI T g).cn + (zdI T g).sites.length <= (zdI T g).sz := by unfold EmS.sz; omega
 have e6 : (zdI T g).sz = ((zdb T g).end_ (xOf g) g.result g.keep).sz := rfl;rw [<- e3] at h2
 omega
theorem zgP {gs : List zad} (l : List zad) (ok : ∀ g ∈ l, zd1 gs g) : (zav l).sz <= 50000 * l.length + 2 := by
 suffices h : ∀ n, n <= l.length -> (zav (l.take n)).sz <= 50000 * n + 2 by
  have := h l.length (Nat.le_refl _)
  rwa [List.take_length] at this
 intro n
 induction n with
 | zero => intro _; exact Nat.le_refl _
 | succ n ih =>
  intro hn;rw [List.take_add_one, List.getElem?_eq_getElem (by omega), Option.toList_some, zck];have h1 := ih (by omega);have h2 := znr (zav (l.take n)) (ok l[n] (List.getElem_mem _))
  omega
section
variable {w w' : World} {base ep : Nat} {T : zco} {rest rest' : List It} {x : It}
theorem zbZ.size (h : zbZ w base ep T rest) : base <= ep /\ ep < w.heap.size := by
 obtain ⟨cv, stv, fv, sv, Mc, lvs, ps, _, _, hI⟩ := h;exact (hI.at_ (i := 0) rfl).lt ep rfl
theorem zbZ.keep (h : zbZ w base ep T rest) (hg : w.grownBy w' none) : zbZ w' base ep T rest := by
 obtain ⟨cv, stv, fv, sv, Mc, lvs, ps, h1, h2, hI⟩ := h;exact ⟨cv, stv, fv, sv, Mc, lvs, ps, h1, h2, hI.keep hg⟩
theorem zbZ.alloc (h : zbZ w base ep T rest) (o : Obj) : zbZ (w.alloc o) base ep T rest := h.keep (World.grownBy_alloc w o none)
theorem zbZ.drew (h : zbZ w base ep T rest) : zbZ w.drew base ep T rest := h.keep (zb8 (World.grownBy.refl w none))
theorem zbZ.below (h : zbZ w base ep T rest) (hb : Below w.heap.size w w') : zbZ w' base ep T rest := h.keep (zah hb none)
theorem zbZ.extend3 {x y z : It} (h : zbZ w base ep T rest) (hg : w.grownBy w' none) (hx : x.At w' base) (hy : y.At w' base) (hz : z.At w' base) (hbx : ∀ b, x.block = some b -> w.heap.size <= b) (hby : ∀ b, y.block = some b -> w.heap.size <= b) (hbz : ∀ b, z.block = some b -> w.heap.size <= b)
  (hxy : ∀ b, x.block = some b -> y.block ≠ some b) (hxz : ∀ b, x.block = some b -> z.block ≠ some b) (hyz : ∀ b, y.block = some b -> z.block ≠ some b) : zbZ w' base ep T (x :: y :: z :: rest) := by
 obtain ⟨cv, stv, fv, sv, Mc, lvs, ps, h1, h2, hI⟩ := h;obtain ⟨l, hle⟩ := mn (zcn ep T cv stv fv sv Mc lvs ps ++ rest);rw [hle] at hI
 have hold : ∀ q ∈ l, ∀ b, w.heap.size <= b -> q.block ≠ some b := fun q hq b hb e => by
  have := ((hI.each q hq).lt b e).2
  omega
 have hI1 : zaA w' base (z :: l) := hI.new hg hz hbz
 have hI2 : zaA w' base (y :: z :: l) := hI1.cons hy fun b hb q hq => by
  rcases List.mem_cons.1 hq with rfl | hq
  ·exact hyz b hb
  ·exact hold q hq b (hby b hb)
 have hI3 : zaA w' base (x :: y :: z :: l) := hI2.cons hx fun b hb q hq => by
  rcases List.mem_cons.1 hq with rfl | hq
  ·exact hxy b hb
  ·rcases List.mem_cons.1 hq with rfl | hq
   ·exact hxz b hb
   ·exact hold q hq b (hbx b hb)
 refine ⟨cv, stv, fv, sv, Mc, lvs, ps, h1, h2, hI3.perm ?_⟩;rw [<- hle];exact ((zi5 (zcn ep T cv stv fv sv Mc lvs ps) rest x y z))
theorem zmj {A : Option Addr} {m c B : Nat} {ms : List zaw} (h : zbZ w base ep T rest) (hR : zal w B 5 A m (ms.flatMap zaW)) (hm : ms.length = m) (hsz : T.code.length + m <= 1099511627776) :
  Calls Tryd.prog 18 #[.pointer (some ⟨ep, 0, none⟩), .slice A m c] w fun e w' => e = .returned (.tuple #[]) /\ zbZ w' base ep (T.put ms) rest /\ Below base w w' := by
 have hbase : base <= w.heap.size := by have := h.size; omega
 obtain ⟨cv, stv, fv, sv, Mc, lvs, ps, h1, h2, hI⟩ := h;refine (zj3 (i := 0) (j := 1) (n := T.code.length) (code := T.code) (c := c) hI rfl rfl (by omega) hR hsz hbase).mono ?_;rintro e w' ⟨he, ⟨cv', h3⟩, hb⟩;refine ⟨he, ⟨cv', stv, fv, sv, Mc, lvs, ps, h1, h2, ?_⟩, hb⟩
 have hl : T.code.length + m = (T.code ++ ms).length := by rw [List.length_append, hm]
 rw [hl] at h3;exact h3
end
theorem zbZ.made (w : World) : zbZ ((w.alloc (.map #[] 0)).alloc (.cells #[.slice none 0 0, .slice none 0 0, .map (some w.heap.size), .slice none 0 0, .slice none 0 0] 67)) w.heap.size (w.heap.size + 1) topZ [] := by
 refine ⟨.slice none 0 0, .slice none 0 0, .slice none 0 0, .slice none 0 0, w.heap.size, [], [], rfl, rfl, ?_⟩;have i0 := zaA.nil w w.heap.size;have i1 : zaA (w.alloc (.map #[] 0)) w.heap.size [.map w.heap.size 0 (fun _ => none)] := i0.new (World.grownBy_alloc _ _ none) (x := .map w.heap.size 0 (fun _ => none)) ⟨Nat.le_refl _, zcx.made w⟩ (fun b e => by injection e with e; omega);have i2 := i1.newBlk (by simp) 67 #[.slice none 0 0, .slice none 0 0, .map (some w.heap.size), .slice none 0 0, .slice none 0 0]
 have e1 : (w.alloc (.map #[] 0)).heap.size = w.heap.size + 1 := by simp
 rw [e1] at i2
 have nilr : ∀ (e : TypeId) (s : Nat), It.At ((w.alloc (.map #[] 0)).alloc (.cells #[.slice none 0 0, .slice none 0 0, .map (some w.heap.size), .slice none 0 0, .slice none 0 0] 67)) w.heap.size (.row (.slice none 0 0) e s 0 []) := fun e s => World.ownsRow_nil _ _ _ _
 have i3 := ((((i2.cons (x := .row (.slice none 0 0) 71 5 0 []) (nilr _ _) (fun b e => by cases e)).cons (x := .row (.slice none 0 0) 112 2 0 []) (nilr _ _) (fun b e => by cases e)).cons (x := .row (.slice none 0 0) 3 1 0 []) (nilr _ _) (fun b e => by cases e)).cons (x := .row (.slice none 0 0) 48 6 0 []) (nilr _ _) (fun b e => by cases e))
 refine i3.perm ?_;exact zkr _ _ _ _ _ _
def zc7 (code : List zaw) (k : Nat) : Bool := match code[k]? with | none => false | some m => decide (m.op = 9)
def zcS (code : List zaw) : List Nat := (List.range code.length).filter (zc7 code)
structure zbl (F : Nat) (code : List zaw) (cl jp : Nat -> Option Nat) (st : List (Nat × List Int)) : Prop where
 good : ∀ (k : Nat) m, code[k]? = some m -> m.Wf /\ zaP m = true
 calls : ∀ i f, cl i = some f -> f < F /\ code[i]? = some ⟨9, 0, 0, 0, 0⟩
 call : ∀ (k : Nat) m, code[k]? = some m -> m.op = 9 -> ∃ f, cl k = some f
 jumps : ∀ i l, jp i = some l -> ∃ m, code[i]? = some m /\ (m.op = 7 ∨ m.op = 8)
 sites : st.map (·.1) = (zcS code).map (· + 1)
theorem zid (code : List zaw) (m : zaw) {k : Nat} (hk : k < code.length) : zc7 (code ++ [m]) k = zc7 code k := by
 unfold zc7;rw [List.getElem?_append_left hk]
theorem zie (code : List zaw) (m : zaw) : zc7 (code ++ [m]) code.length = decide (m.op = 9) := by
 unfold zc7;simp
theorem zdq (code : List zaw) (m : zaw) : zcS (code ++ [m]) = zcS code ++ if m.op = 9 then [code.length] else [] := by
 unfold zcS;rw [List.length_append, List.length_singleton, List.range_succ, List.filter_append]
 congr 1
 ·refine List.filter_congr fun k hk => ?_
  exact zid code m (List.mem_range.1 hk)
 ·rw [List.filter_cons, zie]
  by_cases h : m.op = 9 <;> simp [h]
theorem zdK {α : Type} {l : List α} {x y : α} {k : Nat} (h : (l ++ [x])[k]? = some y) : l[k]? = some y ∨ (k = l.length /\ y = x) := by
 by_cases hk : k < l.length
 ·rw [List.getElem?_append_left hk] at h; exact .inl h
 ·have hl := (List.getElem?_eq_some_iff.1 h).1;rw [List.length_append, List.length_singleton] at hl
  obtain rfl : k = l.length := by omega
  simp at h;exact .inr ⟨rfl, h.symm⟩
theorem zdR {α : Type} {l : List α} {x y : α} {k : Nat} (h : l[k]? = some y) : (l ++ [x])[k]? = some y := by
 rw [List.getElem?_append_left (List.getElem?_eq_some_iff.1 h).1]; exact h
section
variable {F : Nat} {code : List zaw} {calls jumps : Nat -> Option Nat} {sites : List (Nat × List Int)} {P : List Int -> Prop} {E E' : EmS}
theorem zbl.put (h : zbl F code calls jumps sites) {m : zaw} (hm : zfa m) : zbl F (code ++ [m]) calls jumps sites := by
 refine ⟨fun k x hx => ?_, fun i f hf => ?_, fun k x hx h9 => ?_, fun i l hl => ?_, ?_⟩
 ·rcases zdK hx with h1 | ⟨_, rfl⟩
  ·exact h.good k x h1
  ·exact ⟨hm.wf, hm.good⟩
 ·obtain ⟨a, b⟩ := h.calls i f hf;exact ⟨a, zdR b⟩
 ·rcases zdK hx with h1 | ⟨_, rfl⟩
  ·exact h.call k x h1 h9
  ·exact absurd h9 hm.op
 ·obtain ⟨x, a, b⟩ := h.jumps i l hl;exact ⟨x, zdR a, b⟩
 ·rw [zdq, if_neg hm.op, List.append_nil]; exact h.sites
theorem zkE {op a : Nat} (ho : op = 7 /\ a = 0 ∨ op = 8 /\ a <= 15) (v : Int) (hv : -2147483648 <= v /\ v <= 2147483647) : zaw.Wf ⟨(op : Nat), 0, (a : Nat), 0, v⟩ /\ zaP ⟨(op : Nat), 0, (a : Nat), 0, v⟩ = true := by
 rcases ho with ⟨rfl, rfl⟩ | ⟨rfl, ha⟩
 ·exact ⟨zeg (by omega) (by omega) (by omega) (by omega) hv, zcb (cs := [73]) rfl (.inr rfl) (.inr rfl) (.inr rfl) (.inl rfl) (by omega) (by omega) (by omega) rfl⟩
 ·exact ⟨zeg (by omega) (by omega) (by omega) (by omega) hv, zcb (cs := [65, 73]) rfl (.inr rfl) (.inl rfl) (.inr rfl) (.inl rfl) (by omega) (by omega) (by omega) rfl⟩
theorem zbl.jump (h : zbl F code calls jumps sites) {op a l : Nat} (ho : op = 7 /\ a = 0 ∨ op = 8 /\ a <= 15) : zbl F (code ++ [⟨(op : Nat), 0, (a : Nat), 0, 0⟩]) calls (upd jumps code.length l) sites := by
 have h9 : ((op : Nat) : Int) ≠ 9 := by omega
 refine ⟨fun k x hx => ?_, fun i f hf => ?_, fun k x hx hq => ?_, fun i u hl => ?_, ?_⟩
 ·rcases zdK hx with h1 | ⟨_, rfl⟩
  ·exact h.good k x h1
  ·exact zkE ho 0 (by omega)
 ·obtain ⟨a, b⟩ := h.calls i f hf;exact ⟨a, zdR b⟩
 ·rcases zdK hx with h1 | ⟨_, rfl⟩
  ·exact h.call k x h1 hq
  ·exact absurd hq h9
 ·rcases zfp hl with ⟨rfl, _⟩ | hl
  ·exact ⟨⟨(op : Nat), 0, (a : Nat), 0, 0⟩, by simp, by show ((op : Nat) : Int) = 7 ∨ ((op : Nat) : Int) = 8; omega⟩
  ·obtain ⟨x, a, b⟩ := h.jumps i u hl;exact ⟨x, zdR a, b⟩
 ·rw [zdq, if_neg h9, List.append_nil]; exact h.sites
theorem zhw (v : Int) (hv : -2147483648 <= v /\ v <= 2147483647) : zaw.Wf ⟨9, 0, 0, 0, v⟩ /\ zaP ⟨9, 0, 0, 0, v⟩ = true :=
 ⟨zeg (by omega) (by omega) (by omega) (by omega) hv, zcb (cs := [73]) rfl (.inr rfl) (.inr rfl) (.inr rfl) (.inl rfl) (by omega) (by omega) (by omega) rfl⟩
theorem zbl.laid (h : zbl F code calls jumps sites) {f : Nat} (hf : f < F) (L : List Int) (hj : jumps code.length = none) : zbl F (code ++ [⟨9, 0, 0, 0, 0⟩]) (upd calls code.length f) jumps (sites ++ [(code.length + 1, L)]) := by
 refine ⟨fun k x hx => ?_, fun i u hu => ?_, fun k x hx hq => ?_, fun i u hl => ?_, ?_⟩
 ·rcases zdK hx with h1 | ⟨_, rfl⟩
  ·exact h.good k x h1
  ·exact zhw 0 (by omega)
 ·rcases zfp hu with ⟨rfl, rfl⟩ | hu
  ·exact ⟨hf, by simp⟩
  ·obtain ⟨a, b⟩ := h.calls i u hu;exact ⟨a, zdR b⟩
 ·rcases zdK hx with h1 | ⟨rfl, rfl⟩
  ·have hk := (List.getElem?_eq_some_iff.1 h1).1;obtain ⟨u, hu⟩ := h.call k x h1 hq;exact ⟨u, by rw [upd_ne (by omega)]; exact hu⟩
  ·exact ⟨f, zcY⟩
 ·obtain ⟨x, a, b⟩ := h.jumps i u hl;exact ⟨x, zdR a, b⟩
 ·rw [zdq, if_pos rfl, List.map_append, List.map_append, h.sites]; rfl
theorem Steps.inv (h : Steps F P E E') (hE : zbl F E.code E.calls E.jumps E.sites) : zbl F E'.code E'.calls E'.jumps E'.sites := by
 induction h with
 | refl => exact hE
 | put _ hm ih => exact ih.put hm
 | jump _ ho ih => exact ih.jump ho
 | mark _ _ ih => exact ih
 | zero _ ih => exact ih
 | nul _ ih => exact ih
 | @call E' f L _ hf _ ih =>
  have h1 := ih
  have hj : E'.jumps E'.code.length = none := by
   rcases hq : E'.jumps E'.code.length with _ | l
   ·rfl
   ·obtain ⟨m, a, _⟩ := h1.jumps _ _ hq;have := (List.getElem?_eq_some_iff.1 a).1
    omega
  have h2 := h1.laid hf L hj
  have e : (((E'.call f).put [⟨9, 0, 0, 0, 0⟩]).site L).sites = E'.sites ++ [(E'.code.length + 1, L)] := by
   unfold EmS.site EmS.put EmS.call; simp
  rw [e];exact h2
theorem zc2 (j l : Nat -> Option Nat) (f : Nat -> Bool) {k : Nat} {m : zaw} (h : (zcd code j l f)[k]? = some m) : ∃ x, code[k]? = some x /\ m = zaV j l f k x := by
 rw [zbR] at h
 rcases hc : code[k]? with _ | x
 ·rw [hc] at h; cases h
 ·rw [hc] at h;injection h with h;exact ⟨x, rfl, h.symm⟩
theorem zeJ (j l : Nat -> Option Nat) (f : Nat -> Bool) (k : Nat) (x : zaw) : (zaV j l f k x).op = x.op := by
 unfold zaV
 split
 ·rfl
 ·split <;> rfl
theorem zhp (j l : Nat -> Option Nat) (f : Nat -> Bool) (k : Nat) : zc7 (zcd code j l f) k = zc7 code k := by
 unfold zc7;rw [zbR]
 rcases code[k]? with _ | x
 ·rfl
 ·show decide ((zaV j l f k x).op = 9) = decide (x.op = 9);rw [zeJ]
theorem zd0 (j l : Nat -> Option Nat) (f : Nat -> Bool) : zcS (zcd code j l f) = zcS code := by
 unfold zcS;rw [zbH]
 exact List.filter_congr fun k _ => zhp j l f k
theorem zlA {m : zaw} (hw : m.Wf) (hg : zaP m = true) (ho : m.op = 7 ∨ m.op = 8 ∨ m.op = 9) {v : Int} (hv : -2147483648 <= v /\ v <= 2147483647) : zaw.Wf { m with imm := v } /\ zaP { m with imm := v } = true := by
 refine ⟨⟨hw.op, hw.d, hw.a, hw.b, hv⟩, ?_⟩;unfold zaP at hg ⊢
 have hu : ∀ cs, zaS m.op = some cs -> zbQ cs 73 = true := by
  intro cs h
  rcases ho with h7 | h7 | h7
  all_goals
   rw [h7] at h;injection h with h;subst h
   rfl
 have hsp : ∀ v, za2 m.op v = true := by
  intro v;unfold za2;rw [if_neg (by omega), if_neg (by omega)]
 rcases hl : zaS m.op with _ | cs
 ·rw [hl] at hg; cases hg
 ·rw [hl] at hg;simp only [Bool.and_eq_true] at hg;dsimp only;simp only [hl, Bool.and_eq_true];refine ⟨⟨⟨⟨hg.1.1.1.1, hg.1.1.1.2⟩, hg.1.1.2⟩, ?_⟩, hsp v⟩;rw [hu cs hl];unfold zap; simp
theorem zbl.patched (h : zbl F code calls jumps sites) (labels : Nat -> Option Nat) : zbl F (zcd code jumps labels (fun _ => false)) calls (fun _ => none) sites := by
 refine ⟨fun k m hm => ?_, fun i f hf => ?_, fun k m hm h9 => ?_, fun i l hl => (by cases hl), ?_⟩
 ·obtain ⟨x, hx, rfl⟩ := zc2 _ _ _ hm;have hg := h.good k x hx;unfold zaV
  rcases hj : jumps k with _ | l
  ·exact hg
  ·obtain ⟨y, a, b⟩ := h.jumps k l hj;rw [hx] at a;injection a with a;subst a;exact zlA hg.1 hg.2 (by omega) (zeU _)
 ·obtain ⟨a, b⟩ := h.calls i f hf;refine ⟨a, ?_⟩;rw [zbR, b];show some (zaV _ _ _ _ _) = _;unfold zaV
  rcases hj : jumps i with _ | l
  ·rfl
  ·obtain ⟨y, c, d⟩ := h.jumps i l hj;rw [b] at c;injection c with c;subst c
   exfalso
   revert d
   show ¬ ((9 : Int) = 7 ∨ (9 : Int) = 8)
   omega
 ·obtain ⟨x, hx, rfl⟩ := zc2 _ _ _ hm;rw [zeJ] at h9;exact h.call k x hx h9
 ·rw [zd0]; exact h.sites
end
theorem zmZ {gs : List zad} {g : zad} (T : zco) (ok : zd1 gs g) (h : zbl gs.length T.code T.calls (fun _ => none) T.sites) : zbl gs.length (T.fn g).code (T.fn g).calls (fun _ => none) (T.fn g).sites :=
 ((zcG T (P := fun _ => True) ok (fun _ => trivial)).inv h).patched _
theorem zk2 (F : Nat) : zbl F znb.code znb.calls (fun _ => none) znb.sites := by
 have h0 : zbl F [] (fun _ => none) (fun _ => none) [] := ⟨fun k m h => by simp at h, nofun, fun k m h => by simp at h, nofun, rfl⟩
 exact (h0.put (zeX (d := 0) (a := 0) (b := 0) (v := 0) (by omega) (by omega) (by omega) (by omega))).put (zeX (d := 0) (a := 0) (b := 0) (v := 1) (by omega) (by omega) (by omega) (by omega))
theorem zda {gs : List zad} (l : List zad) (ok : ∀ g ∈ l, zd1 gs g) : zbl gs.length (zav l).code (zav l).calls (fun _ => none) (zav l).sites := by
 suffices h : ∀ n, n <= l.length -> zbl gs.length (zav (l.take n)).code (zav (l.take n)).calls (fun _ => none) (zav (l.take n)).sites by
  have := h l.length (Nat.le_refl _)
  rwa [List.take_length] at this
 intro n
 induction n with
 | zero => intro _; exact zk2 _
 | succ n ih =>
  intro hn;rw [List.take_add_one, List.getElem?_eq_getElem (by omega), Option.toList_some, zck];exact zmZ _ (ok l[n] (List.getElem_mem _)) (ih (by omega))
theorem zkL {gs : List zad} (l : List zad) (ok : ∀ g ∈ l, zd1 gs g) : 2 <= (zav l).code.length := by
 suffices h : ∀ n, n <= l.length -> 2 <= (zav (l.take n)).code.length by
  have := h l.length (Nat.le_refl _)
  rwa [List.take_length] at this
 intro n
 induction n with
 | zero => intro _; exact Nat.le_refl _
 | succ n ih =>
  intro hn;rw [List.take_add_one, List.getElem?_eq_getElem (by omega), Option.toList_some, zck];have h1 := ih (by omega);have h2 := zew (zav (l.take n)) (ok l[n] (List.getElem_mem _))
  have h3 : ((zav (l.take n)).fn l[n]).code.length = (zdI (zav (l.take n)) l[n]).code.length := by unfold zco.fn; simp only [zbH]
  omega
theorem zdo {gs : List zad} (l : List zad) (ok : ∀ g ∈ l, zd1 gs g) : ∀ m ∈ zay (zav l), m.Wf /\ zaP m = true := by
 have hinv := zda l ok;intro m hm;obtain ⟨k, hk, rfl⟩ := List.getElem_of_mem hm;obtain ⟨x, hx, he⟩ := zc2 _ _ _ (List.getElem?_eq_getElem hk);have hg := hinv.good k x hx;have e : (zay (zav l))[k] = zaV (zav l).calls (fun f => (zav l).start[f]?) (fun _ => false) k x := he;rw [e];unfold zaV
 rcases hj : (zav l).calls k with _ | f
 ·exact hg
 ·obtain ⟨_, b⟩ := hinv.calls k f hj;rw [hx] at b;injection b with b;subst b;exact zhw _ (zeU _)
end Go.Proofs.YtnfjjliiajaijaaDoor
