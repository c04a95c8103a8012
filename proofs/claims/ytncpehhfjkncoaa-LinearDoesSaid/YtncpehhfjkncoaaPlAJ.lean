/- Walk of the checker's question whether a graph is right but for its nodes. Conditions: the checker lies in memory. Walk of the checker's question whether all is well with a node. Conditions: checker and node lie in memory. Walks of what a node reads, writes, goes on to, in the program and in the document; and of the question whether two lists are the same. Conditions: the node, the lists lie in memory. -/
import Derived.Test.YtncpehhfjkncoaaPlAA
import Derived.Test.YtncpehhfjkncoaaPlAI
import Derived.Deep.MidRow
set_option linter.unusedVariables false
set_option linter.unusedSimpArgs false
set_option maxRecDepth 100000
set_option maxHeartbeats 16000000
namespace Go.Proofs.Ytncpehhfjkncoaa
open Go.RowKit

def parB (g : GraphD) (bound : Bool) (i : Nat) : Bool :=
 !(decide (g.params.getD i 0 < 0) || decide ((g.kinds.length : Int) <= g.params.getD i 0) || decide (g.params.getD i 0 ∈ g.params.take i) || (bound && decide (g.params.getD i 0 ≠ i))) &&
 !(decide (g.init.getD i 0 ≠ -1) && (!cellB g (g.init.getD i 0) || !isB g bound 0 [g.params.getD i 0]))
def head1 (g : GraphD) (bound : Bool) : Bool := decide (1024 < g.kinds.length) || (bound && decide (g.kinds.length < 16)) || g.kinds.any fun k => decide (1 < k)
def head2 (g : GraphD) : Bool := decide (4 < g.params.length) || decide (g.init.length ≠ g.params.length) || decide (g.cells < 0) || decide (64 < g.cells) || (decide (g.keep ≠ -1) && !cellB g g.keep)
def head3 (g : GraphD) : Bool := decide (0 < g.nodes.length) && decide (g.nodes.length <= 4096) && decide (0 <= g.entry) && decide (g.entry < g.nodes.length)
def headB (g : GraphD) (bound : Bool) : Bool := !head1 g bound && !head2 g && ((List.range g.params.length).all (parB g bound)) && head3 g
theorem head_any {w : World} {B cb : Nat} {allv : Value} {gs : List GraphD} {ga : Addr} {g : GraphD} {pv kv iv nv : Value} {bound : Bool} (h : Ck w B cb allv gs ga g pv kv iv nv bound) (hkm : g.kinds.length <= 140737488351232) :
  Calls Try.prog 18 #[.pointer (some ⟨cb, 0, none⟩)] w fun e w' => e = .returned (.bool (headB g bound)) /\ Below w.heap.size w w' := by
 obtain ⟨r, hr⟩ := mn (headB g bound);rw [hr];unfold headB at hr;obtain ⟨PA, pc, rfl, hPc, _, hPR⟩ := h.gm.params.slice;obtain ⟨KA, kc, rfl, _, _, hKR⟩ := h.gm.kinds.slice;obtain ⟨IA, ic, rfl, _, _, hIR⟩ := h.gm.init.slice;obtain ⟨NA, nn, nc, css, rfl, _, _, hnn, _⟩ := h.gm.nodes;obtain ⟨b2, hb2⟩ := mn (head1 g bound);obtain ⟨b4, hb4⟩ := mn (head2 g);obtain ⟨b15, hb15⟩ := mn (head3 g);rw [hb2, hb4, hb15] at hr;obtain ⟨K, hK⟩ := mn (g.kinds.length);obtain ⟨P, hP⟩ := mn (g.params.length);obtain ⟨I, hI⟩ := mn (g.init.length);have g0 := h.gm.c0;have g1 := h.gm.c1;have g2 := h.gm.c2;have g3 := h.gm.c3;have g5 := h.gm.c5;rw [hP] at g0 hPR hr hPc;rw [hK] at g1 hKR hkm;rw [hI] at g3 hIR;have kc1 := bc h.blk 1;have kc2 := bc h.blk 2;unfold head1 at hb2;unfold head2 at hb4;rw [hK] at hb2;rw [hP, hI] at hb4;obtain ⟨H, Hr, HPR, HKR, HIR, Hnn, Hb2, Hb4⟩ := hd8 h hr hPR hKR hIR hnn hb2 hb4;obtain ⟨Hb15, HK, HP, HI⟩ := hd4 hb15 hK hP hI;clear hI hP hK hb15 hb4 hb2 hnn hIR hKR hPR hr h;go_enter Try.func18, Try.ntmps18;go_upto_region 2 with fail
 go_cut [37] (fun t wx => t = .bool b2 /\ w = wx)
 case first =>
  have hb := Hb2.out
  by_cases c1 : 1024 < K
  ·have c1' : (1024 : Int) < K := by omega
   have hs : b2 = true := by rw [<- hb]; simp [c1]
   obtain ⟨Hs, Hb⟩ := hd2 hs hb;clear hb hs;go_wp2_with fail;go_meet;exact ⟨by rw [Hs.out], rfl⟩
  ·have c1' : ¬ (1024 : Int) < K := by omega
   have hany : ∀ {b : Bool}, (bound && decide (K < 16)) = b -> (b || g.kinds.any fun k => decide (1 < k)) = b2 := fun {b} e => by rw [<- hb, <- e]; simp [c1]
   clear c1
   cases bound
   ·have hs := hany (b := false) rfl;rw [Bool.false_or] at hs;obtain ⟨Hs, Hb⟩ := hd2 hs hb;clear hb hs;clear hany;go_wp2_with fail;refine (containsFunc_any w B KA K kc g.kinds HKR.out HK.out hkm).mono ?_;rintro e w1 ⟨rfl, rfl⟩;rw [Hs.out];go_wp2_with fail;go_meet;exact ⟨rfl, rfl⟩
   ·by_cases c2 : K < 16
    ·have c2' : (K : Int) < 16 := by omega
     have hs := hany (b := true) (by simp [c2]);rw [Bool.true_or] at hs;obtain ⟨Hs, Hb⟩ := hd2 hs hb;clear hb hs;clear hany;go_wp2_with fail;go_meet;exact ⟨by rw [<- Hs.out], rfl⟩
    ·have c2' : ¬ (K : Int) < 16 := by omega
     have hs := hany (b := false) (by simp [c2]);rw [Bool.false_or] at hs;obtain ⟨Hs, Hb⟩ := hd2 hs hb;clear hb hs;clear hany;go_wp2_with fail;refine (containsFunc_any w B KA K kc g.kinds HKR.out HK.out hkm).mono ?_;rintro e w1 ⟨rfl, rfl⟩;rw [Hs.out];go_wp2_with fail;go_meet;exact ⟨rfl, rfl⟩
 case rest =>
  obtain ⟨rfl, hwc⟩ := hcut;subst hwc
  cases b2
  case true =>
   have hs : r = false := by rw [<- Hr.out]; rfl
   have Hs := Lib.hid hs;clear hs;go_wp2_with fail;go_ret;rw [Hs.out];exact ⟨rfl, Below.refl _ _⟩
  case false =>
   have hrr := Hr.out;rw [Bool.not_false, Bool.true_and] at hrr;have Hrr := Lib.hid hrr;clear hrr;go_upto_region 4 with fail
   go_cut [86] (fun t wx => t = .bool b4 /\ ∃ d, wx = w.drewN d)
   case first =>
    have hb := Hb4.out
    by_cases c1 : 4 < P
    ·have c1' : (4 : Int) < P := by omega
     have hs : b4 = true := by rw [<- hb]; simp [c1]
     obtain ⟨Hs, Hb⟩ := hd2 hs hb;clear hb hs
     go_quiet (fail)
     go_wp2_with fail;go_meet;exact ⟨by rw [Hs.out], _, rfl⟩
    have c1' : ¬ (4 : Int) < P := by omega
    by_cases c2 : I = P
    case neg =>
     have c2' : ((I : Int) != P) = true := by simp; omega
     have hs : b4 = true := by rw [<- hb]; simp [c2]
     obtain ⟨Hs, Hb⟩ := hd2 hs hb;clear hb hs
     go_quiet (fail)
     go_wp2_with fail;go_meet;exact ⟨by rw [Hs.out], _, rfl⟩
    have c2' : ((I : Int) != P) = false := by simp [c2]
    obtain ⟨C, hC⟩ := mn (g.cells);rw [hC] at hb g2
    by_cases c3 : C < 0
    ·have hs : b4 = true := by rw [<- hb]; simp [c3]
     obtain ⟨Hs, Hb, Hc2⟩ := hd3 hs hb c2;clear c2 hb hs
     go_quiet (fail)
     go_wp2_with fail;go_meet;exact ⟨by rw [Hs.out], _, rfl⟩
    by_cases c4 : 64 < C
    ·have hs : b4 = true := by rw [<- hb]; simp [c4]
     obtain ⟨Hs, Hb, Hc2⟩ := hd3 hs hb c2;clear c2 hb hs
     go_quiet (fail)
     go_wp2_with fail;go_meet;exact ⟨by rw [Hs.out], _, rfl⟩
    obtain ⟨kp, hkp⟩ := mn (g.keep);rw [hkp] at hb g5
    by_cases c5 : kp = -1
    ·have c5' : (kp != -1) = false := by simp [c5]
     have hs : b4 = false := by rw [<- hb]; simp [c1, c2, c3, c4, c5]
     obtain ⟨Hs, Hb, Hc2, Hc5⟩ := hd4 hs hb c2 c5;clear c5 c2 hb hs
     go_quiet (fail)
     go_wp2_with fail;go_meet;exact ⟨by rw [Hs.out], _, rfl⟩
    ·have c5' : (kp != -1) = true := by simp [c5]
     have hs : (!cellB g kp) = b4 := by rw [<- hb]; simp [c1, c2, c3, c4, c5]
     obtain ⟨Hs, Hb, Hc2, Hc5⟩ := hd4 hs hb c2 c5;clear c5 c2 hb hs
     go_quiet (first | (go_at_call 39; exact Calls.quiet_of_same ((cell_any (H.out.below (below_drewN (Below.refl _ w) _)) kp).mono fun _ _ h => ⟨h.1, h.2.symm⟩)))
     go_wp2_with fail;go_meet;exact ⟨by rw [<- Hs.out], _, rfl⟩
   case rest =>
    obtain ⟨rfl, d0, hwc⟩ := hcut
    cases b4
    case true =>
     have hs : r = false := by rw [<- Hrr.out]; rfl
     have Hs := Lib.hid hs;clear hs;go_wp2_with fail;go_ret;rw [Hs.out];exact ⟨rfl, by rw [hwc]; exact below_drewN (Below.refl _ _) _⟩
    case false =>
     have hr4 := Hrr.out;rw [Bool.not_false, Bool.true_and] at hr4;have hb4' := Hb4.out
     have hIP : I = P := by
      by_cases e : I = P
      ·exact e
      ·simp [e] at hb4'
     have hP4 : P <= 4 := by
      by_cases e : 4 < P
      ·simp [e] at hb4'
      ·omega
     subst hIP;clear g0 g1 g2 g3 g5 kc1 kc2
     have hW : Below w.heap.size w wc := by rw [hwc]; exact below_drewN (Below.refl _ _) _
     have hD := H.out.below hW
     have hBw : B <= w.heap.size := by have := H.out.le; have := H.out.blk.lt; omega
     have hPR1 := HPR.out.below (hW.mono hBw);have hIR1 := HIR.out.below (hW.mono hBw);have g0 := hD.gm.c0;have g1 := hD.gm.c1;have g3 := hD.gm.c3;rw [HP.out] at g0;rw [HK.out] at g1;rw [HI.out] at g3;have kc1 := bc hD.blk 1;have kc2 := bc hD.blk 2;obtain ⟨HD, HW, Hr4, Hb4', HPR1, HIR1, Hwc⟩ := hd7 hD hW hr4 hb4' hPR1 hIR1 hwc;clear hwc hIR1 hPR1 hb4' hr4 hW hD;go_wp2_with fail;clear g0 g1 g3 kc1 kc2
     go_loopw [92] (fun i wq => ∃ j : Nat, j <= I /\ i = .int .i64 j /\ Below wc.heap.size wc wq /\ Hid (∀ k, k < j -> parB g bound k = true)) (fun i _ => I - (intOf i).toNat)
     case atStart => exact ⟨0, by omega, rfl, Below.refl _ _, (show ∀ k, k < 0 -> parB g bound k = true by omega)⟩
     case round =>
      obtain ⟨j, hj, rfl, hbq, hall⟩ := hrel
      have hBc : B <= wc.heap.size := by have := HD.out.le; have := HD.out.blk.lt; omega
      have hDq := HD.out.below hbq;have g0 := hDq.gm.c0;have g1 := hDq.gm.c1;have g3 := hDq.gm.c3;rw [HP.out] at g0;rw [HK.out] at g1;rw [HI.out] at g3;have kc1 := bc hDq.blk 1;have kc2 := bc hDq.blk 2;have hbnd := HW.out.trans (hbq.mono HW.out.size)
      by_cases hjm : j < I
      ·have hPq := HPR1.out.below (hbq.mono hBc);have hIq := HIR1.out.below (hbq.mono hBc);obtain ⟨pad, pu, hPA, _, hpu, hpce⟩ := hPq.at_ hjm;subst hPA
       obtain ⟨p, hpp, rfl⟩ : ∃ pp, g.params[j]? = some pp /\ pu = .int .i64 pp := by
        rw [List.getElem?_map, Option.map_eq_some_iff] at hpu;obtain ⟨x, h1, h2⟩ := hpu;exact ⟨x, h1, h2.symm⟩
       obtain ⟨iad, iu, hIA, _, hiu, hice⟩ := hIq.at_ hjm;subst hIA
       obtain ⟨k, hik, rfl⟩ : ∃ pp, g.init[j]? = some pp /\ iu = .int .i64 pp := by
        rw [List.getElem?_map, Option.map_eq_some_iff] at hiu;obtain ⟨x, h1, h2⟩ := hiu;exact ⟨x, h1, h2.symm⟩
       have hpg : g.params.getD j 0 = p := by rw [List.getD_eq_getElem?_getD, hpp]; rfl
       have hig : g.init.getD j 0 = k := by rw [List.getD_eq_getElem?_getD, hik]; rfl
       obtain ⟨b9, hb9⟩ := mn ((decide (p < 0) || decide ((K : Int) <= p) || decide (p ∈ g.params.take j) || (bound && decide (p ≠ j))));obtain ⟨b12, hb12⟩ := mn ((decide (k ≠ -1) && (!cellB g k || !isB g bound 0 [p])))
       have hpar : parB g bound j = (!b9 && !b12) := by unfold parB; rw [hpg, hig, HK.out, hb9, hb12]
       have hRj : Reads wr B 1 (some pad) j ((g.params.take j).map (Value.int .i64)) := by
        refine ⟨by rw [List.length_map, List.length_take, HP.out]; omega, fun hn => ?_⟩;obtain ⟨ad, e1, e2, e3⟩ := hPq.2 (by omega);refine ⟨ad, e1, e2, fun i u hu => e3 i u ?_⟩;rw [List.getElem?_map, List.getElem?_take] at hu
        split at hu
        ·rw [List.getElem?_map]; exact hu
        ·cases hu
       have hlj : (g.params.take j).length = j := by rw [List.length_take, HP.out]; omega
       have hbad : parB g bound j = false -> r = false := fun hf => by
        rw [<- Hr4.out]
        rcases hq : (List.range I).all (parB g bound) with _ | _
        ·rfl
        ·rw [List.all_eq_true.1 hq j (List.mem_range.2 hjm)] at hf; cases hf
       have hstep : parB g bound j = true -> ∀ i, i < j + 1 -> parB g bound i = true := fun hf i hi => by
        by_cases e : i = j
        ·rw [e]; exact hf
        ·exact hall.out i (by omega)
       have hjI : (j : Int) < I := by omega
       clear hpu hiu;obtain ⟨Hbq, Hall, HDq, HPq, HIq, Hpp, Hik, Hpg⟩ := hd8 hbq hall hDq hPq hIq hpp hik hpg;obtain ⟨Hig, Hb9, Hb12, Hpar, HRj, Hlj, Hbad, Hstep⟩ := hd8 hig hb9 hb12 hpar hRj hlj hbad hstep;have Hbnd := Lib.hid hbnd;clear hbnd hstep hbad hlj hRj hpar hb12 hb9 hig hpg hik hpp hIq hPq hDq hall hbq;go_upto_region 9 with fail
       go_cut [128] from 97 to 128 (fun t wx => t = .bool b9 /\ wr = wx)
       case first =>
        have hb := Hb9.out
        by_cases c1 : p < 0
        ·have hs : b9 = true := by rw [<- hb]; simp [c1]
         obtain ⟨Hs, Hb⟩ := hd2 hs hb;clear hb hs;go_wp2_with fail;go_meet;exact ⟨by rw [Hs.out], rfl⟩
        by_cases c2 : (K : Int) <= p
        ·have hs : b9 = true := by rw [<- hb]; simp [c2]
         obtain ⟨Hs, Hb⟩ := hd2 hs hb;clear hb hs;go_wp2_with fail;go_meet;exact ⟨by rw [Hs.out], rfl⟩
        obtain ⟨bc, hbc⟩ := mn (decide (p ∈ g.params.take j));rw [hbc] at hb
        have hjI2 : (j : Int) <= I := by omega
        have hjpc : j <= pc := by omega
        obtain ⟨Hb, Hbc⟩ := hd2 hb hbc;clear hbc hb;go_wp2_with fail;refine (contains_any wr B (some pad) j pc (g.params.take j) HRj.out Hlj.out (by omega) p).mono ?_;rintro e w1 ⟨rfl, rfl⟩;rw [Hbc.out];have hb := Hb.out
        cases bc
        ·cases bound
         ·have hs : b9 = false := by rw [<- hb]; simp [c1, c2]
          obtain ⟨Hs, Hb⟩ := hd2 hs hb;clear hb hs;go_wp2_with fail;go_meet;exact ⟨by rw [Hs.out], rfl⟩
         ·by_cases c3 : p = j
          ·have c3' : (p != (j : Int)) = false := by simp [c3]
           have hs : b9 = false := by rw [<- hb]; simp [c1, c2, c3]; omega
           obtain ⟨Hs, Hb, Hc3⟩ := hd3 hs hb c3;clear c3 hb hs;go_wp2_with fail;go_meet;exact ⟨by rw [Hs.out], rfl⟩
          ·have c3' : (p != (j : Int)) = true := by simp [c3]
           have hs : b9 = true := by rw [<- hb]; simp [c3]
           obtain ⟨Hs, Hb, Hc3⟩ := hd3 hs hb c3;clear c3 hb hs;go_wp2_with fail;go_meet;exact ⟨by rw [Hs.out], rfl⟩
        ·have hs : b9 = true := by rw [<- hb]; simp
         obtain ⟨Hs, Hb⟩ := hd2 hs hb;clear hb hs;go_wp2_with fail;go_meet;exact ⟨by rw [Hs.out], rfl⟩
       case rest =>
        obtain ⟨rfl, hwc2⟩ := hcut;subst hwc2
        cases b9
        case true =>
         have hs := Hbad.out (by rw [Hpar.out]; rfl);have Hs := Lib.hid hs;clear hs;go_wp2_with fail;go_ret;rw [Hs.out];exact ⟨rfl, Hbnd.out⟩
        case false =>
         go_upto_region 12 with fail
         go_cut [150] from 136 to 150 (fun t wx => t = .bool b12 /\ Below wr.heap.size wr wx)
         case first =>
          have hb := Hb12.out
          by_cases c1 : k = -1
          ·have c1' : (k != -1) = false := by simp [c1]
           have hs : b12 = false := by rw [<- hb]; simp [c1]
           obtain ⟨Hs, Hb, Hc1⟩ := hd3 hs hb c1;clear c1 hb hs;go_wp2_with fail;go_meet;exact ⟨by rw [Hs.out], Below.refl _ _⟩
          ·have c1' : (k != -1) = true := by simp [c1]
           have hb' : (!cellB g k || !isB g bound 0 [p]) = b12 := by rw [<- hb]; simp [c1]
           obtain ⟨bc, hbc⟩ := mn (cellB g k);obtain ⟨bi, hbi⟩ := mn (isB g bound 0 [p]);rw [hbc, hbi] at hb';obtain ⟨Hb, Hb', Hc1, Hbc, Hbi⟩ := hd5 hb hb' c1 hbc hbi;clear hbi hbc c1 hb' hb;go_wp2_with fail;refine (cell_any HDq.out k).mono ?_;rintro e w1 ⟨rfl, rfl⟩;rw [Hbc.out];have hb' := Hb'.out
           cases bc
           ·have hs : b12 = true := by rw [<- hb']; rfl
            obtain ⟨Hs, HB2⟩ := hd2 hs hb';clear hb' hs;go_wp2_with fail;go_meet;exact ⟨by rw [Hs.out], Below.refl _ _⟩
           ·have hs : (!bi) = b12 := by rw [<- hb']; rfl
            obtain ⟨Hs, HB2⟩ := hd2 hs hb';clear hb' hs;have hal := (Below.refl wr.heap.size wr).alloc (Nat.le_refl _) (.cells #[.int .i64 p] 3);have hDal := HDq.out.below hal;obtain ⟨Hal, HDal⟩ := hd2 hal hDal;clear hDal hal;go_wp2_with fail;refine (is_any HDal.out 0 (wr.heap.size + 1) (some ⟨wr.heap.size, 0, none⟩) 1 1 [p] (Reads.new1 _ _ _) rfl (by omega)).mono ?_;rintro e w1 ⟨rfl, rfl⟩;rw [Hbi.out];go_wp2_with fail;go_meet;exact ⟨by rw [Hs.out], Hal.out⟩
         case rest =>
          obtain ⟨rfl, hb8⟩ := hcut;have hbe := Hbq.out.trans (hb8.mono Hbq.out.size);have hbe2 := Hbnd.out.trans (hb8.mono Hbnd.out.size)
          cases b12
          case true =>
           have hs := Hbad.out (by rw [Hpar.out]; rfl);obtain ⟨Hs, Hbe, Hbe2⟩ := hd3 hs hbe hbe2;clear hbe2 hbe hs;go_wp2_with fail;go_ret;rw [Hs.out];exact ⟨rfl, Hbe2.out⟩
          case false =>
           have hs := Hstep.out (by rw [Hpar.out]; rfl);obtain ⟨Hs, Hbe, Hbe2⟩ := hd3 hs hbe hbe2;clear hbe2 hbe hs;go_wp2_with fail;exact ⟨⟨j + 1, by omega, by go_num, Hbe.out, Lib.hid Hs.out⟩, by simp [intOf]; omega⟩
      ·have hr5 : b15 = r := by
        have h1 := Hr4.out;rw [List.all_eq_true.2 (fun k hk => hall.out k (by have := List.mem_range.1 hk; omega)), Bool.true_and] at h1;exact h1
       have hb15' := Hb15.out;unfold head3 at hb15';have g6 := hDq.gm.c6;have g7 := hDq.gm.c7;obtain ⟨en, hen⟩ := mn (g.entry);rw [hen] at g7 hb15';rw [Hnn.out] at hb15'
       have hcase : (nn = 0 /\ b15 = false) ∨ (0 < nn /\ 4096 < nn /\ b15 = false) ∨ (0 < nn /\ nn <= 4096 /\ en < 0 /\ b15 = false) ∨ (0 < nn /\ nn <= 4096 /\ 0 <= en /\ (nn : Int) <= en /\ b15 = false) ∨ (0 < nn /\ nn <= 4096 /\ 0 <= en /\ en < nn /\ b15 = true) := by
        rw [<- hb15']
        by_cases d1 : 0 < nn
        ·by_cases d2 : nn <= 4096
         ·by_cases d3 : 0 <= en
          ·by_cases d4 : en < nn
           ·exact .inr (.inr (.inr (.inr ⟨d1, d2, d3, d4, by simp [d1, d2, d3, d4]⟩)))
           ·exact .inr (.inr (.inr (.inl ⟨d1, d2, d3, by omega, by simp [d4]⟩)))
          ·exact .inr (.inr (.inl ⟨d1, d2, by omega, by simp [d3]⟩))
         ·exact .inr (.inl ⟨d1, by omega, by simp [d2]⟩)
        ·exact .inl ⟨by omega, by simp [d1]⟩
       obtain ⟨Hr5, Hb15', Hall, Hbq, HDq, Hbnd, Hen⟩ := hd7 hr5 hb15' hall hbq hDq hbnd hen;clear hen hbnd hDq hbq hall hb15' hr5;go_upto_region 15 with fail
       rcases hcase with ⟨d1, hs⟩ | ⟨d1, d2, hs⟩ | ⟨d1, d2, d3, hs⟩ | ⟨d1, d2, d3, d4, hs⟩ | ⟨d1, d2, d3, d4, hs⟩
       ·have hD1 : ¬ (0 : Int) < nn := by omega
        have hD2 : ¬ 0 < nn := by omega
        have Hs := Lib.hid hs;clear hs;clear d1
        go_quiet (fail)
        go_wp2_with fail;go_ret;rw [<- Hr5.out, Hs.out];exact ⟨rfl, below_drewN Hbnd.out _⟩
       ·have hD1 : ¬ (nn : Int) <= 4096 := by omega
        have hD2 : 0 < nn := by omega
        have Hs := Lib.hid hs;clear hs;clear d1
        go_quiet (fail)
        go_wp2_with fail;go_ret;rw [<- Hr5.out, Hs.out];exact ⟨rfl, below_drewN Hbnd.out _⟩
       ·have hD1 : (nn : Int) <= 4096 /\ ¬ 0 <= en := by omega
        have hD2 : 0 < nn := by omega
        have Hs := Lib.hid hs;clear hs;clear d1
        go_quiet (fail)
        go_wp2_with fail;go_ret;rw [<- Hr5.out, Hs.out];exact ⟨rfl, below_drewN Hbnd.out _⟩
       ·have hD1 : (nn : Int) <= 4096 /\ 0 <= en /\ ¬ en < nn := by omega
        have hD2 : 0 < nn := by omega
        have Hs := Lib.hid hs;clear hs;clear d1
        go_quiet (fail)
        go_wp2_with fail;go_ret;rw [<- Hr5.out, Hs.out];exact ⟨rfl, below_drewN Hbnd.out _⟩
       ·have hD1 : (nn : Int) <= 4096 /\ 0 <= en /\ en < nn := by omega
        have hD2 : 0 < nn := by omega
        have Hs := Lib.hid hs;clear hs;clear d1
        go_quiet (fail)
        go_wp2_with fail;go_ret;rw [<- Hr5.out, Hs.out];exact ⟨rfl, below_drewN Hbnd.out _⟩
end Go.Proofs.Ytncpehhfjkncoaa
namespace Go.Proofs.Ytncpehhfjkncoaa
open Go.RowKit

def opB (gs : List GraphD) (g : GraphD) (bound : Bool) (x : NodeD) : Bool :=
 if x.op = 1 ∨ x.op = 16 then isB g bound 0 [x.d]
 else if x.op = 2 then isB g bound 0 [x.d, x.a] || isB g bound 1 [x.d, x.a]
 else if x.op = 3 then decide (7 <= x.byo) && decide (x.byo <= 20) && isB g bound 0 [x.d, x.a, x.b]
 else if x.op = 4 then cellB g x.cell && isB g bound 0 [x.d]
 else if x.op = 5 then cellB g x.cell && isB g bound 0 [x.a]
 else if x.op = 6 then cellB g x.cell && isB g bound 1 [x.d]
 else if x.op = 7 then isB g bound 0 [x.d] && isB g bound 1 [x.a]
 else if x.op = 8 then isB g bound 1 [x.a] && isB g bound 0 [x.b]
 else if x.op = 10 then true
 else if x.op = 9 ∨ x.op = 14 ∨ x.op = 18 ∨ x.op = 17 then isB g bound 0 [x.a]
 else if x.op = 15 then decide (x.d ≠ x.e) && isB g bound 0 [x.d, x.e]
 else if x.op = 13 then argsB gs g bound x
 else if x.op = 11 then argsB gs g bound x && (decide (x.d = -1) || (isB g bound 0 [x.d] && (match gs[x.f.toNat]? with | none => false | some f => f.result) && (!bound || decide (x.d = 0))))
 else if x.op = 12 then (decide (x.a = -1) && !g.result) || (decide (x.a ≠ -1) && g.result && isB g bound 0 [x.a])
 else false
def nodeB (gs : List GraphD) (g : GraphD) (bound : Bool) (x : NodeD) : Bool := ((nextL x).all fun t => decide (0 <= t) && decide (t < g.nodes.length)) && opB gs g bound x
theorem Reads.newL' (w : World) (t : TypeId) (l : List Int) {cs : Array Value} {g n B : Nat} (hc : cs = (l.map (Value.int .i64)).toArray) (hg : g = w.heap.size) (hB : B = w.heap.size + 1) (hn : n = l.length := by rfl) : Reads (w.alloc (.cells cs t)) B 1 (some ⟨g, 0, none⟩) n (l.map (Value.int .i64)) := by
 subst hc hg hB hn;have h := Reads.newL w t (l.map (Value.int .i64));rw [List.length_map] at h;exact h
theorem node_any {w : World} {B cb : Nat} {allv : Value} {gs : List GraphD} {ga : Addr} {g : GraphD} {pv kv iv nv : Value} {bound : Bool} (h : Ck w B cb allv gs ga g pv kv iv nv bound)
  (hpar : ∀ f ∈ gs, ∀ p ∈ f.params, 0 <= p /\ p < f.kinds.length) (hgl : gs.length <= 16) (x : NodeD) (av : Value) (D : Nat) (hD : D <= w.heap.size) (hav : NumsAt .i64 w D av x.args) (hal : x.args.length <= 140737488351232) (hpl : ∀ f ∈ gs, f.params.length <= 4) (hkl : ∀ f ∈ gs, f.kinds.length <= 1024) (hno : x.op ≠ 11) :
  Calls Try.prog 19 #[.pointer (some ⟨cb, 0, none⟩), .agg (ncells x av).toArray] w fun e w' => e = .returned (.bool (nodeB gs g bound x)) /\ Below w.heap.size w w' := by
 obtain ⟨r, hr⟩ := mn (nodeB gs g bound x);rw [hr];unfold nodeB at hr;obtain ⟨r2, hr2⟩ := mn (opB gs g bound x);rw [hr2] at hr;obtain ⟨G, hG⟩ := nm (w.heap.size);obtain ⟨NC, hNC⟩ := nm ((ncells x av).toArray : Array Value);rw [<- hNC];have hP := Blk.new w 52 NC;have hb := (Below.refl w.heap.size w).alloc (Nat.le_refl _) (.cells NC 52);have hC := h.below hb;have hA := hav.below (hb.mono hD);have hnx := next_any (w.alloc (.cells NC 52)) x av;rw [<- hNC] at hnx;obtain ⟨V, hV⟩ := nm (w.alloc (.cells NC 52));rw [<- hV] at hC hb hA hP hnx
 have hGV : G < V.heap.size := by rw [hV, World.size_alloc, hG]; omega
 rw [<- hG] at hP;obtain ⟨NA, nn, nc, css, rfl, _, _, hnn, hrest⟩ := hC.gm.nodes
 have hNS : NC.size = 12 := by rw [hNC]; rfl
 obtain ⟨Hrest, Hb, HA, HC, Hr, Hr2, HP, H⟩ := hd8 hrest hb hA hC hr hr2 hP h;obtain ⟨Hpar, Hpl, HNC, HV, Hkl, HG, Hnx, Hnn⟩ := hd8 hpar hpl hNC hV hkl hG hnx hnn;obtain ⟨Hav, HNS⟩ := hd2 hav hNS;clear hNS hav hnn hnx hG hkl hV hNC hpl hpar h hP hr2 hr hC hA hb hrest;go_enter Try.func19, Try.ntmps19;go_upto_region 1 with fail;rw [<- HV.out, <- HG.out]
 have hrange : V.rangeAt G 0 (ncells x av) := fun j v hv => by
  rw [HP.out.cell (0 + j), HNC.out, Nat.zero_add, List.getElem?_toArray];exact hv
 have hag : (ncells x av).toArray = NC := HNC.out.symm;have Hrange := Lib.hid hrange;clear hrange;go_wp2_with (refine wpList_load_mid rfl 52 _ rfl G 0 rfl (ncells x av) _ Hrange.out Try.underlying52 rfl (by kernel_rfl) ?_);refine Hnx.out.mono ?_;rintro e w1 ⟨⟨v, rfl, hL⟩, hb1⟩;obtain ⟨LA, lc, rfl, _, hlc, hLr⟩ := hL;obtain ⟨L, hLe⟩ := mn (nextL x);obtain ⟨m, hm⟩ := mn (L.length);rw [hLe] at hLr ⊢;rw [hm] at hLr ⊢
 have hm2 : m <= 2 := by
  rw [<- hm, <- hLe];unfold nextL
  repeat' split
  all_goals simp
 have hC1 := HC.out.below hb1;have hbb1 := Hb.out.trans (hb1.mono Hb.out.size);have hP1 := HP.out.below hb1 hGV
 have hG1 : G < w1.heap.size := by have := hb1.size; omega
 have hA1 := HA.out.below (hb1.mono (by have := Hb.out.size; omega));have hrA := Hr.out;rw [hLe] at hrA;obtain ⟨HC1, Hbb1, HP1, HLr, HLe, Hm, HrA, HA1⟩ := hd8 hC1 hbb1 hP1 hLr hLe hm hrA hA1;clear hA1 hrA hm hLe hLr hP1 hbb1 hC1;clear hb1;go_wp2_with fail
 go_loopw [10] (fun i wq => ∃ j : Nat, j <= m /\ i = .int .i64 j /\ wq = w1 /\ Hid (∀ t ∈ L.take j, (decide (0 <= t) && decide (t < g.nodes.length)) = true)) (fun i _ => m - (intOf i).toNat)
 case atStart => exact ⟨0, by omega, rfl, rfl, (show ∀ t ∈ L.take 0, (decide (0 <= t) && decide (t < g.nodes.length)) = true from fun t ht => by simp at ht)⟩
 case round =>
  obtain ⟨j, hj, rfl, hwr, hall⟩ := hrel;subst hwr
  by_cases hjm : j < m
  ·obtain ⟨ad, u0, hAd, _, hu0, hce⟩ := HLr.out.at_ hjm;subst hAd
   obtain ⟨p, hpj, rfl⟩ : ∃ p, L[j]? = some p /\ u0 = .int .i64 p := by
    rw [List.getElem?_map, Option.map_eq_some_iff] at hu0;obtain ⟨x, h1, h2⟩ := hu0;exact ⟨x, h1, h2.symm⟩
   have hmem := List.mem_of_getElem? hpj
   have hjI : (j : Int) < m := by omega
   have g6 := HC1.out.gm.c6;have kc1 := bc HC1.out.blk 1
   have hbad : (decide (0 <= p) && decide (p < g.nodes.length)) = false -> r = false := fun hf => by
    rw [<- HrA.out]
    rcases hq : L.all (fun t => decide (0 <= t) && decide (t < g.nodes.length)) with _ | _
    ·rfl
    ·rw [List.all_eq_true.1 hq p hmem] at hf; cases hf
   clear hu0
   by_cases c0 : 0 <= p
   ·by_cases c1 : p < nn
    ·have hs : ∀ t ∈ L.take (j + 1), (decide (0 <= t) && decide (t < g.nodes.length)) = true := fun t ht => by
      rw [List.take_add_one, hpj] at ht
      rcases List.mem_append.1 ht with ht | ht
      ·exact hall.out t ht
      ·simp at ht; rw [ht, Hnn.out]; simp [c0, c1]
     have c0' : ¬ p < 0 := by omega
     have c1' : ¬ (nn : Int) <= p := by omega
     obtain ⟨Hs, Hall, Hpj, Hmem, Hbad⟩ := hd5 hs hall hpj hmem hbad;clear hbad hmem hpj hall hs;clear c0 c1;go_wp2_with fail;exact ⟨⟨j + 1, by omega, by go_num, trivial, Lib.hid Hs.out⟩, by simp [intOf]; omega⟩
    ·have hs := hbad (by rw [Hnn.out]; simp [c1])
     have c0' : ¬ p < 0 := by omega
     have c1' : (nn : Int) <= p := by omega
     obtain ⟨Hs, Hall, Hpj, Hmem, Hbad⟩ := hd5 hs hall hpj hmem hbad;clear hbad hmem hpj hall hs;clear c0 c1;go_wp2_with fail;go_ret;rw [Hs.out];exact ⟨rfl, Hbb1.out⟩
   ·have hs := hbad (by simp [c0])
    have c0' : p < 0 := by omega
    obtain ⟨Hs, Hall, Hpj, Hmem, Hbad⟩ := hd5 hs hall hpj hmem hbad;clear hbad hmem hpj hall hs;clear c0;go_wp2_with fail;go_ret;rw [Hs.out];exact ⟨rfl, Hbb1.out⟩
  ·have hrr : r2 = r := by
    have h1 := HrA.out;rw [List.take_of_length_le (by rw [Hm.out]; omega)] at hall;rw [List.all_eq_true.2 hall.out, Bool.true_and] at h1;exact h1
   have HCq := HC1;have Hbnd := Hbb1;have hNC2 := HNC.out;obtain ⟨op, byo, d, e_, a, b, f, cell, imm, args, next, els⟩ := x;have hPq := HP1.out;rw [hNC2] at hPq;have hPq : Blk wr G 52 #[.int .u8 op, .int .u8 byo, .int .i64 d, .int .i64 e_, .int .i64 a, .int .i64 b, .int .i64 f, .int .i64 cell, .int .u64 imm, av, .int .i64 next, .int .i64 els] := hPq;have kp0 := bc hPq 0;have kp1 := bc hPq 1;have kp2 := bc hPq 2;have kp3 := bc hPq 3;have kp4 := bc hPq 4;have kp5 := bc hPq 5;have kp6 := bc hPq 6;have kp7 := bc hPq 7;obtain ⟨Hrr, Hall, HNC2, HPq⟩ := hd4 hrr hall hNC2 hPq;clear hPq hNC2 hall hrr
   have hjI : ¬ (j : Int) < m := by omega
   go_upto_region 7 with fail
   by_cases e : op = 1 ∨ op = 16
   ·rcases e with e | e
    all_goals
     subst e;have hres : isB g bound 0 [d] = r2 := Hr2.out;have hal := (Below.refl wr.heap.size wr).alloc (Nat.le_refl _) (.cells #[.int .i64 d] 3);have hDal := HCq.out.below hal;obtain ⟨Hal, HDal, Hres⟩ := hd3 hal hDal hres;clear hres hDal hal;go_wp2_with fail;refine (is_any HDal.out 0 (wr.heap.size + 1) (some ⟨wr.heap.size, 0, none⟩) 1 1 [d] (Reads.newL' wr 3 [d] rfl rfl rfl) rfl (by omega)).mono ?_;rintro e w9 ⟨rfl, rfl⟩;rw [Hres.out];go_wp2_with fail;go_ret;rw [Hrr.out];exact ⟨rfl, Hbnd.out.trans (Hal.out.mono Hbnd.out.size)⟩
   by_cases e : op = 2
   ·subst e;have hres : (isB g bound 0 [d, a] || isB g bound 1 [d, a]) = r2 := Hr2.out;obtain ⟨bc, hbc⟩ := mn (isB g bound 0 [d, a]);rw [hbc] at hres;have hal := (Below.refl wr.heap.size wr).alloc (Nat.le_refl _) (.cells #[.int .i64 d, .int .i64 a] 3);have hDal := HCq.out.below hal;have hal2 := hal.alloc hal.size (.cells #[.int .i64 d, .int .i64 a] 3);have hDal2 := HCq.out.below hal2;obtain ⟨Hal, HDal, Hres, Hbc, Hal2, HDal2⟩ := hd6 hal hDal hres hbc hal2 hDal2;clear hDal2 hal2 hbc hres hDal hal;go_wp2_with fail;refine (is_any HDal.out 0 (wr.heap.size + 1) (some ⟨wr.heap.size, 0, none⟩) 2 2 [d, a] (Reads.newL' wr 3 [d, a] rfl rfl rfl) rfl (by omega)).mono ?_;rintro e w9 ⟨rfl, rfl⟩;rw [Hbc.out];have hres := Hres.out
    cases bc
    ·rw [Bool.false_or] at hres;have HR9 := Lib.hid hres;clear hres;go_wp2_with fail;refine (is_any HDal2.out 1 (wr.heap.size + 1 + 1) (some ⟨wr.heap.size + 1, 0, none⟩) 2 2 [d, a] (Reads.newL' (wr.alloc (.cells #[.int .i64 d, .int .i64 a] 3)) 3 [d, a] rfl (by rw [World.size_alloc]) (by rw [World.size_alloc])) rfl (by omega)).mono ?_;rintro e w9 ⟨rfl, rfl⟩;rw [HR9.out];go_wp2_with fail;go_ret;rw [Hrr.out];exact ⟨rfl, Hbnd.out.trans (Hal2.out.mono Hbnd.out.size)⟩
    ·rw [Bool.true_or] at hres;have HR9 := Lib.hid hres;clear hres;go_wp2_with fail;go_ret;rw [<- Hrr.out, <- HR9.out];exact ⟨rfl, Hbnd.out.trans (Hal.out.mono Hbnd.out.size)⟩
   by_cases e : op = 4
   ·subst e;have hres : (cellB g cell && isB g bound 0 [d]) = r2 := Hr2.out;obtain ⟨bc, hbc⟩ := mn (cellB g cell);rw [hbc] at hres;have hal := (Below.refl wr.heap.size wr).alloc (Nat.le_refl _) (.cells #[.int .i64 d] 3);have hDal := HCq.out.below hal;obtain ⟨Hal, HDal, Hres, Hbc⟩ := hd4 hal hDal hres hbc;clear hbc hres hDal hal;go_wp2_with fail;refine (cell_any HCq.out cell).mono ?_;rintro e w9 ⟨rfl, rfl⟩;rw [Hbc.out];have hres := Hres.out
    cases bc
    ·rw [Bool.false_and] at hres;have HR9 := Lib.hid hres;clear hres;go_wp2_with fail;go_ret;rw [<- Hrr.out, <- HR9.out];exact ⟨rfl, Hbnd.out⟩
    ·rw [Bool.true_and] at hres;have HR9 := Lib.hid hres;clear hres;go_wp2_with fail;refine (is_any HDal.out 0 (wr.heap.size + 1) (some ⟨wr.heap.size, 0, none⟩) 1 1 [d] (Reads.newL' wr 3 [d] rfl rfl rfl) rfl (by omega)).mono ?_;rintro e w9 ⟨rfl, rfl⟩;rw [HR9.out];go_wp2_with fail;go_ret;rw [Hrr.out];exact ⟨rfl, Hbnd.out.trans (Hal.out.mono Hbnd.out.size)⟩
   by_cases e : op = 5
   ·subst e;have hres : (cellB g cell && isB g bound 0 [a]) = r2 := Hr2.out;obtain ⟨bc, hbc⟩ := mn (cellB g cell);rw [hbc] at hres;have hal := (Below.refl wr.heap.size wr).alloc (Nat.le_refl _) (.cells #[.int .i64 a] 3);have hDal := HCq.out.below hal;obtain ⟨Hal, HDal, Hres, Hbc⟩ := hd4 hal hDal hres hbc;clear hbc hres hDal hal;go_wp2_with fail;refine (cell_any HCq.out cell).mono ?_;rintro e w9 ⟨rfl, rfl⟩;rw [Hbc.out];have hres := Hres.out
    cases bc
    ·rw [Bool.false_and] at hres;have HR9 := Lib.hid hres;clear hres;go_wp2_with fail;go_ret;rw [<- Hrr.out, <- HR9.out];exact ⟨rfl, Hbnd.out⟩
    ·rw [Bool.true_and] at hres;have HR9 := Lib.hid hres;clear hres;go_wp2_with fail;refine (is_any HDal.out 0 (wr.heap.size + 1) (some ⟨wr.heap.size, 0, none⟩) 1 1 [a] (Reads.newL' wr 3 [a] rfl rfl rfl) rfl (by omega)).mono ?_;rintro e w9 ⟨rfl, rfl⟩;rw [HR9.out];go_wp2_with fail;go_ret;rw [Hrr.out];exact ⟨rfl, Hbnd.out.trans (Hal.out.mono Hbnd.out.size)⟩
   by_cases e : op = 6
   ·subst e;have hres : (cellB g cell && isB g bound 1 [d]) = r2 := Hr2.out;obtain ⟨bc, hbc⟩ := mn (cellB g cell);rw [hbc] at hres;have hal := (Below.refl wr.heap.size wr).alloc (Nat.le_refl _) (.cells #[.int .i64 d] 3);have hDal := HCq.out.below hal;obtain ⟨Hal, HDal, Hres, Hbc⟩ := hd4 hal hDal hres hbc;clear hbc hres hDal hal;go_wp2_with fail;refine (cell_any HCq.out cell).mono ?_;rintro e w9 ⟨rfl, rfl⟩;rw [Hbc.out];have hres := Hres.out
    cases bc
    ·rw [Bool.false_and] at hres;have HR9 := Lib.hid hres;clear hres;go_wp2_with fail;go_ret;rw [<- Hrr.out, <- HR9.out];exact ⟨rfl, Hbnd.out⟩
    ·rw [Bool.true_and] at hres;have HR9 := Lib.hid hres;clear hres;go_wp2_with fail;refine (is_any HDal.out 1 (wr.heap.size + 1) (some ⟨wr.heap.size, 0, none⟩) 1 1 [d] (Reads.newL' wr 3 [d] rfl rfl rfl) rfl (by omega)).mono ?_;rintro e w9 ⟨rfl, rfl⟩;rw [HR9.out];go_wp2_with fail;go_ret;rw [Hrr.out];exact ⟨rfl, Hbnd.out.trans (Hal.out.mono Hbnd.out.size)⟩
   by_cases e : op = 7
   ·subst e;have hres : (isB g bound 0 [d] && isB g bound 1 [a]) = r2 := Hr2.out;obtain ⟨bc, hbc⟩ := mn (isB g bound 0 [d]);rw [hbc] at hres;have hal := (Below.refl wr.heap.size wr).alloc (Nat.le_refl _) (.cells #[.int .i64 d] 3);have hDal := HCq.out.below hal;have hal2 := hal.alloc hal.size (.cells #[.int .i64 a] 3);have hDal2 := HCq.out.below hal2;obtain ⟨Hal, HDal, Hres, Hbc, Hal2, HDal2⟩ := hd6 hal hDal hres hbc hal2 hDal2;clear hDal2 hal2 hbc hres hDal hal;go_wp2_with fail;refine (is_any HDal.out 0 (wr.heap.size + 1) (some ⟨wr.heap.size, 0, none⟩) 1 1 [d] (Reads.newL' wr 3 [d] rfl rfl rfl) rfl (by omega)).mono ?_;rintro e w9 ⟨rfl, rfl⟩;rw [Hbc.out];have hres := Hres.out
    cases bc
    ·rw [Bool.false_and] at hres;have HR9 := Lib.hid hres;clear hres;go_wp2_with fail;go_ret;rw [<- Hrr.out, <- HR9.out];exact ⟨rfl, Hbnd.out.trans (Hal.out.mono Hbnd.out.size)⟩
    ·rw [Bool.true_and] at hres;have HR9 := Lib.hid hres;clear hres;go_wp2_with fail;refine (is_any HDal2.out 1 (wr.heap.size + 1 + 1) (some ⟨wr.heap.size + 1, 0, none⟩) 1 1 [a] (Reads.newL' (wr.alloc (.cells #[.int .i64 d] 3)) 3 [a] rfl (by rw [World.size_alloc]) (by rw [World.size_alloc])) rfl (by omega)).mono ?_;rintro e w9 ⟨rfl, rfl⟩;rw [HR9.out];go_wp2_with fail;go_ret;rw [Hrr.out];exact ⟨rfl, Hbnd.out.trans (Hal2.out.mono Hbnd.out.size)⟩
   by_cases e : op = 8
   ·subst e;have hres : (isB g bound 1 [a] && isB g bound 0 [b]) = r2 := Hr2.out;obtain ⟨bc, hbc⟩ := mn (isB g bound 1 [a]);rw [hbc] at hres;have hal := (Below.refl wr.heap.size wr).alloc (Nat.le_refl _) (.cells #[.int .i64 a] 3);have hDal := HCq.out.below hal;have hal2 := hal.alloc hal.size (.cells #[.int .i64 b] 3);have hDal2 := HCq.out.below hal2;obtain ⟨Hal, HDal, Hres, Hbc, Hal2, HDal2⟩ := hd6 hal hDal hres hbc hal2 hDal2;clear hDal2 hal2 hbc hres hDal hal;go_wp2_with fail;refine (is_any HDal.out 1 (wr.heap.size + 1) (some ⟨wr.heap.size, 0, none⟩) 1 1 [a] (Reads.newL' wr 3 [a] rfl rfl rfl) rfl (by omega)).mono ?_;rintro e w9 ⟨rfl, rfl⟩;rw [Hbc.out];have hres := Hres.out
    cases bc
    ·rw [Bool.false_and] at hres;have HR9 := Lib.hid hres;clear hres;go_wp2_with fail;go_ret;rw [<- Hrr.out, <- HR9.out];exact ⟨rfl, Hbnd.out.trans (Hal.out.mono Hbnd.out.size)⟩
    ·rw [Bool.true_and] at hres;have HR9 := Lib.hid hres;clear hres;go_wp2_with fail;refine (is_any HDal2.out 0 (wr.heap.size + 1 + 1) (some ⟨wr.heap.size + 1, 0, none⟩) 1 1 [b] (Reads.newL' (wr.alloc (.cells #[.int .i64 a] 3)) 3 [b] rfl (by rw [World.size_alloc]) (by rw [World.size_alloc])) rfl (by omega)).mono ?_;rintro e w9 ⟨rfl, rfl⟩;rw [HR9.out];go_wp2_with fail;go_ret;rw [Hrr.out];exact ⟨rfl, Hbnd.out.trans (Hal2.out.mono Hbnd.out.size)⟩
   by_cases e : op = 9 ∨ op = 14 ∨ op = 18 ∨ op = 17
   ·rcases e with e | e | e | e
    all_goals
     subst e;have hres : isB g bound 0 [a] = r2 := Hr2.out;have hal := (Below.refl wr.heap.size wr).alloc (Nat.le_refl _) (.cells #[.int .i64 a] 3);have hDal := HCq.out.below hal;obtain ⟨Hal, HDal, Hres⟩ := hd3 hal hDal hres;clear hres hDal hal;go_wp2_with fail;refine (is_any HDal.out 0 (wr.heap.size + 1) (some ⟨wr.heap.size, 0, none⟩) 1 1 [a] (Reads.newL' wr 3 [a] rfl rfl rfl) rfl (by omega)).mono ?_;rintro e w9 ⟨rfl, rfl⟩;rw [Hres.out];go_wp2_with fail;go_ret;rw [Hrr.out];exact ⟨rfl, Hbnd.out.trans (Hal.out.mono Hbnd.out.size)⟩
   by_cases e : op = 10
   ·subst e;have hres : true = r2 := Hr2.out;have Hres := Lib.hid hres;clear hres;go_wp2_with fail;go_ret;rw [<- Hrr.out, <- Hres.out];exact ⟨rfl, Hbnd.out⟩
   by_cases e : op = 3
   ·subst e;have hres : (decide (7 <= byo) && decide (byo <= 20) && isB g bound 0 [d, a, b]) = r2 := Hr2.out
    by_cases c7 : 7 <= byo
    case neg =>
     have hs : false = r2 := by rw [<- hres]; simp [c7]
     obtain ⟨Hs, Hres⟩ := hd2 hs hres;clear hres hs;go_wp2_with fail;go_ret;rw [<- Hrr.out, <- Hs.out];exact ⟨rfl, Hbnd.out⟩
    by_cases c20 : byo <= 20
    case neg =>
     have hs : false = r2 := by rw [<- hres]; simp [c20]
     obtain ⟨Hs, Hres⟩ := hd2 hs hres;clear hres hs;go_wp2_with fail;go_ret;rw [<- Hrr.out, <- Hs.out];exact ⟨rfl, Hbnd.out⟩
    have hs : isB g bound 0 [d, a, b] = r2 := by rw [<- hres]; simp [c7, c20]
    have hal := (Below.refl wr.heap.size wr).alloc (Nat.le_refl _) (.cells #[.int .i64 d, .int .i64 a, .int .i64 b] 3);have hDal := HCq.out.below hal;obtain ⟨Hal, HDal, Hres, Hs⟩ := hd4 hal hDal hres hs;clear hs hres hDal hal;go_wp2_with fail;refine (is_any HDal.out 0 (wr.heap.size + 1) (some ⟨wr.heap.size, 0, none⟩) 3 3 [d, a, b] (Reads.newL' wr 3 [d, a, b] rfl rfl rfl) rfl (by omega)).mono ?_;rintro e w9 ⟨rfl, rfl⟩;rw [Hs.out];go_wp2_with fail;go_ret;rw [Hrr.out];exact ⟨rfl, Hbnd.out.trans (Hal.out.mono Hbnd.out.size)⟩
   by_cases e : op = 15
   ·subst e;have hres : (decide (d ≠ e_) && isB g bound 0 [d, e_]) = r2 := Hr2.out
    by_cases cde : d = e_
    ·have hs : false = r2 := by rw [<- hres]; simp [cde]
     have hde : (d != e_) = false := by simp [cde]
     obtain ⟨Hs, Hres, Hcde⟩ := hd3 hs hres cde;clear cde hres hs;go_wp2_with fail;go_ret;rw [<- Hrr.out, <- Hs.out];exact ⟨rfl, Hbnd.out⟩
    ·have hs : isB g bound 0 [d, e_] = r2 := by rw [<- hres]; simp [cde]
     have hde : (d != e_) = true := by simp [cde]
     have hal := (Below.refl wr.heap.size wr).alloc (Nat.le_refl _) (.cells #[.int .i64 d, .int .i64 e_] 3);have hDal := HCq.out.below hal;obtain ⟨Hal, HDal, Hres, Hs, Hcde⟩ := hd5 hal hDal hres hs cde;clear cde hs hres hDal hal;go_wp2_with fail;refine (is_any HDal.out 0 (wr.heap.size + 1) (some ⟨wr.heap.size, 0, none⟩) 2 2 [d, e_] (Reads.newL' wr 3 [d, e_] rfl rfl rfl) rfl (by omega)).mono ?_;rintro e w9 ⟨rfl, rfl⟩;rw [Hs.out];go_wp2_with fail;go_ret;rw [Hrr.out];exact ⟨rfl, Hbnd.out.trans (Hal.out.mono Hbnd.out.size)⟩
   by_cases e : op = 13
   ·subst e;have hres : argsB gs g bound ⟨13, byo, d, e_, a, b, f, cell, imm, args, next, els⟩ = r2 := Hr2.out;have har := args_any HCq.out Hpar.out hgl ⟨13, byo, d, e_, a, b, f, cell, imm, args, next, els⟩ av D (by have := HCq.out.blk.lt; have := Hbnd.out.size; omega) HA1.out hal Hpl.out Hkl.out;rw [hres, <- HNC2.out] at har
    have hrange2 : wr.rangeAt G 0 (ncells ⟨13, byo, d, e_, a, b, f, cell, imm, args, next, els⟩ av) := fun j v hv => by
     rw [HPq.out.cell (0 + j), Nat.zero_add];exact (List.getElem?_toArray ..).trans hv
    obtain ⟨Hres, Har, Hrange2⟩ := hd3 hres har hrange2;clear hrange2 har hres;go_upto_region 35 with fail;clear kp0 kp1 kp2 kp3 kp4 kp5 kp6 kp7;go_wp2_with (refine wpList_load_mid rfl 52 _ rfl G 0 rfl (ncells ⟨13, byo, d, e_, a, b, f, cell, imm, args, next, els⟩ av) _ Hrange2.out Try.underlying52 rfl (by kernel_rfl) ?_);refine Har.out.mono ?_;rintro e w9 ⟨rfl, hb9⟩;have hfin := Hbnd.out.trans (hb9.mono Hbnd.out.size);have Hfin := Lib.hid hfin;clear hfin;clear hb9;go_wp2_with fail;go_ret;rw [Hrr.out];exact ⟨rfl, Hfin.out⟩
   by_cases e : op = 12
   ·subst e;have hres : ((decide (a = -1) && !g.result) || (decide (a ≠ -1) && g.result && isB g bound 0 [a])) = r2 := Hr2.out;have g4 := HC1.out.gm.c4;have kc1 := bc HC1.out.blk 1;obtain ⟨gr, hgr⟩ := mn (g.result);rw [hgr] at hres g4
    by_cases ca : a = -1
    ·have ha : (a == -1) = true := by simp [ca]
     have ha2 : (a != -1) = false := by simp [ca]
     have hs : (!gr) = r2 := by rw [<- hres]; simp [ca]
     obtain ⟨Hs, Hres, Hca, Hgr⟩ := hd4 hs hres ca hgr;clear hgr ca hres hs
     cases gr
     all_goals
      go_wp2_with fail;go_ret;rw [<- Hrr.out, <- Hs.out];exact ⟨rfl, Hbnd.out⟩
    ·have ha : (a == -1) = false := by simp [ca]
     have ha2 : (a != -1) = true := by simp [ca]
     have hs : (gr && isB g bound 0 [a]) = r2 := by rw [<- hres]; simp [ca]
     obtain ⟨Hres, Hca, Hgr⟩ := hd3 hres ca hgr;clear hgr ca hres
     cases gr
     ·rw [Bool.false_and] at hs;have Hs := Lib.hid hs;clear hs;go_wp2_with fail;go_ret;rw [<- Hrr.out, <- Hs.out];exact ⟨rfl, Hbnd.out⟩
     ·rw [Bool.true_and] at hs;have hal := (Below.refl wr.heap.size wr).alloc (Nat.le_refl _) (.cells #[.int .i64 a] 3);have hDal := HCq.out.below hal;obtain ⟨Hs, Hal, HDal⟩ := hd3 hs hal hDal;clear hDal hal hs;go_wp2_with fail;refine (is_any HDal.out 0 (wr.heap.size + 1) (some ⟨wr.heap.size, 0, none⟩) 1 1 [a] (Reads.newL' wr 3 [a] rfl rfl rfl) rfl (by omega)).mono ?_;rintro e w9 ⟨rfl, rfl⟩;rw [Hs.out];go_wp2_with fail;go_ret;rw [Hrr.out];exact ⟨rfl, Hbnd.out.trans (Hal.out.mono Hbnd.out.size)⟩
   have e11 : op ≠ 11 := hno
   have hs : r2 = false := by
    rw [<- Hr2.out];unfold opB;simp only
    repeat (rw [if_neg (by omega)])
   have x1 : (op == 1) = false := by rw [beq_eq_false_iff_ne]; omega
   have x2 : (op == 2) = false := by rw [beq_eq_false_iff_ne]; omega
   have x3 : (op == 3) = false := by rw [beq_eq_false_iff_ne]; omega
   have x4 : (op == 4) = false := by rw [beq_eq_false_iff_ne]; omega
   have x5 : (op == 5) = false := by rw [beq_eq_false_iff_ne]; omega
   have x6 : (op == 6) = false := by rw [beq_eq_false_iff_ne]; omega
   have x7 : (op == 7) = false := by rw [beq_eq_false_iff_ne]; omega
   have x8 : (op == 8) = false := by rw [beq_eq_false_iff_ne]; omega
   have x9 : (op == 9) = false := by rw [beq_eq_false_iff_ne]; omega
   have x10 : (op == 10) = false := by rw [beq_eq_false_iff_ne]; omega
   have x11 : (op == 11) = false := by rw [beq_eq_false_iff_ne]; omega
   have x12 : (op == 12) = false := by rw [beq_eq_false_iff_ne]; omega
   have x13 : (op == 13) = false := by rw [beq_eq_false_iff_ne]; omega
   have x14 : (op == 14) = false := by rw [beq_eq_false_iff_ne]; omega
   have x15 : (op == 15) = false := by rw [beq_eq_false_iff_ne]; omega
   have x16 : (op == 16) = false := by rw [beq_eq_false_iff_ne]; omega
   have x17 : (op == 17) = false := by rw [beq_eq_false_iff_ne]; omega
   have x18 : (op == 18) = false := by rw [beq_eq_false_iff_ne]; omega
   rw [hs] at Hrr;have Hs := Lib.hid hs;clear hs;go_wp2_with fail;go_ret;rw [<- Hrr.out];exact ⟨rfl, Hbnd.out⟩
end Go.Proofs.Ytncpehhfjkncoaa
namespace Go.Proofs.Ytncpehhfjkncoaa
open Go.RowKit

def readsL (x : NodeD) : List Int := if x.op = 2 ∨ x.op = 5 ∨ x.op = 7 ∨ x.op = 9 ∨ x.op = 12 ∨ x.op = 14 ∨ x.op = 17 ∨ x.op = 18 then onceL [x.a] else if x.op = 3 ∨ x.op = 8 then onceL [x.a, x.b] else if x.op = 11 ∨ x.op = 13 then onceL x.args else []
def writesL (x : NodeD) : List Int := if x.op = 1 ∨ x.op = 2 ∨ x.op = 3 ∨ x.op = 4 ∨ x.op = 6 ∨ x.op = 7 ∨ x.op = 11 ∨ x.op = 16 then onceL [x.d] else if x.op = 15 then onceL [x.d, x.e] else []
end Go.Proofs.Ytncpehhfjkncoaa
