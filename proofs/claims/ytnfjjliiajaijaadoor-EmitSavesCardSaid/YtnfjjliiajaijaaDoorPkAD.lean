/- Walk of the checker's question whether a graph is right but for its nodes. Conditions: the checker lies in memory. Walk of the checker's question whether all is well with a node. Conditions: checker and node lie in memory. Walks of what a node reads, writes, goes on to, in the program and in the document; and of the question whether two lists are the same. Conditions: the node, the lists lie in memory. Graphs whose rows a call has made, each its own. No condition. -/
import Derived.Test.YtnfjjliiajaijaaDoorPkAA
import Derived.Test.YtnfjjliiajaijaaDoorPkAC
import Derived.Deep.MidRow
set_option linter.unusedVariables false
set_option linter.unusedSimpArgs false
set_option maxRecDepth 100000
set_option maxHeartbeats 10000000
namespace Go.Proofs.YtnfjjliiajaijaaDoor
open Go.RowKit

def parB (g : GraphD) (bound : Bool) (i : Nat) : Bool :=
 !(decide (g.params.getD i 0 < 0) || decide ((g.kinds.length : Int) ≤ g.params.getD i 0) || decide (g.params.getD i 0 ∈ g.params.take i) || (bound && decide (g.params.getD i 0 ≠ i))) &&
 !(decide (g.init.getD i 0 ≠ -1) && (!cellB g (g.init.getD i 0) || !isB g bound 0 [g.params.getD i 0]))
def head1 (g : GraphD) (bound : Bool) : Bool := decide (1024 < g.kinds.length) || (bound && decide (g.kinds.length < 16)) || g.kinds.any fun k => decide (1 < k)
def head2 (g : GraphD) : Bool := decide (4 < g.params.length) || decide (g.init.length ≠ g.params.length) || decide (g.cells < 0) || decide (64 < g.cells) || (decide (g.keep ≠ -1) && !cellB g g.keep)
def head3 (g : GraphD) : Bool := decide (0 < g.nodes.length) && decide (g.nodes.length ≤ 4096) && decide (0 ≤ g.entry) && decide (g.entry < g.nodes.length)
def headB (g : GraphD) (bound : Bool) : Bool := !head1 g bound && !head2 g && ((List.range g.params.length).all (parB g bound)) && head3 g
theorem head_any {w : World} {B cb : Nat} {allv : Value} {gs : List GraphD} {ga : Addr} {g : GraphD} {pv kv iv nv : Value} {bound : Bool} (h : Ck w B cb allv gs ga g pv kv iv nv bound) (hkm : g.kinds.length ≤ 140737488351232) :
  Calls Tryd.prog 32 #[.pointer (some ⟨cb, 0, none⟩)] w fun e w' => e = .returned (.bool (headB g bound)) ∧ Below w.heap.size w w' := by
 obtain ⟨r, hr⟩ : ∃ r, headB g bound = r := ⟨_, rfl⟩
 rw [hr]
 unfold headB at hr
 obtain ⟨PA, pc, rfl, hPc, _, hPR⟩ := h.gm.params.slice
 obtain ⟨KA, kc, rfl, _, _, hKR⟩ := h.gm.kinds.slice
 obtain ⟨IA, ic, rfl, _, _, hIR⟩ := h.gm.init.slice
 obtain ⟨NA, nn, nc, css, rfl, _, _, hnn, _⟩ := h.gm.nodes
 obtain ⟨b2, hb2⟩ : ∃ b2, head1 g bound = b2 := ⟨_, rfl⟩
 obtain ⟨b4, hb4⟩ : ∃ b4, head2 g = b4 := ⟨_, rfl⟩
 obtain ⟨b15, hb15⟩ : ∃ b15, head3 g = b15 := ⟨_, rfl⟩
 rw [hb2, hb4, hb15] at hr
 obtain ⟨K, hK⟩ : ∃ K, g.kinds.length = K := ⟨_, rfl⟩
 obtain ⟨P, hP⟩ : ∃ P, g.params.length = P := ⟨_, rfl⟩
 obtain ⟨I, hI⟩ : ∃ I, g.init.length = I := ⟨_, rfl⟩
 have g0 := h.gm.c0
 have g1 := h.gm.c1
 have g2 := h.gm.c2
 have g3 := h.gm.c3
 have g5 := h.gm.c5
 rw [hP] at g0 hPR hr hPc
 rw [hK] at g1 hKR hkm
 rw [hI] at g3 hIR
 have kc1 := Blk.cell h.blk 1
 have kc2 := Blk.cell h.blk 2
 simp only [List.getElem?_toArray, List.getElem?_cons_zero, List.getElem?_cons_succ] at kc1 kc2
 unfold head1 at hb2
 unfold head2 at hb4
 rw [hK] at hb2
 rw [hP, hI] at hb4
 obtain ⟨H, Hr, HPR, HKR, HIR, Hnn, Hb2, Hb4⟩ := hd8 h hr hPR hKR hIR hnn hb2 hb4
 obtain ⟨Hb15, HK, HP, HI⟩ := hd4 hb15 hK hP hI
 clear hI hP hK hb15 hb4 hb2 hnn hIR hKR hPR hr h
 go_enter Tryd.func32, Tryd.ntmps32
 go_upto_region 2 with fail
 go_cut [37] (fun t wx => t = .bool b2 ∧ w = wx)
 case first =>
  have hb := Hb2.out
  by_cases c1 : 1024 < K
  ·have c1' : (1024 : Int) < K := by omega
   have hs : b2 = true := by rw [← hb]; simp [c1]
   obtain ⟨Hs, Hb⟩ := hd2 hs hb
   clear hb hs
   go_wp2_with fail
   go_meet
   exact ⟨by rw [Hs.out], rfl⟩
  ·have c1' : ¬ (1024 : Int) < K := by omega
   have hany : ∀ {b : Bool}, (bound && decide (K < 16)) = b → (b || g.kinds.any fun k => decide (1 < k)) = b2 := fun {b} e => by rw [← hb, ← e]; simp [c1]
   clear c1
   cases bound
   ·have hs := hany (b := false) rfl
    rw [Bool.false_or] at hs
    obtain ⟨Hs, Hb⟩ := hd2 hs hb
    clear hb hs
    clear hany
    go_wp2_with fail
    refine (containsFunc_any w B KA K kc g.kinds HKR.out HK.out hkm).mono ?_
    rintro e w1 ⟨rfl, rfl⟩
    rw [Hs.out]
    go_wp2_with fail
    go_meet
    exact ⟨rfl, rfl⟩
   ·by_cases c2 : K < 16
    ·have c2' : (K : Int) < 16 := by omega
     have hs := hany (b := true) (by simp [c2])
     rw [Bool.true_or] at hs
     obtain ⟨Hs, Hb⟩ := hd2 hs hb
     clear hb hs
     clear hany
     go_wp2_with fail
     go_meet
     exact ⟨by rw [← Hs.out], rfl⟩
    ·have c2' : ¬ (K : Int) < 16 := by omega
     have hs := hany (b := false) (by simp [c2])
     rw [Bool.false_or] at hs
     obtain ⟨Hs, Hb⟩ := hd2 hs hb
     clear hb hs
     clear hany
     go_wp2_with fail
     refine (containsFunc_any w B KA K kc g.kinds HKR.out HK.out hkm).mono ?_
     rintro e w1 ⟨rfl, rfl⟩
     rw [Hs.out]
     go_wp2_with fail
     go_meet
     exact ⟨rfl, rfl⟩
 case rest =>
  obtain ⟨rfl, hwc⟩ := hcut
  subst hwc
  cases b2
  case true =>
   have hs : r = false := by rw [← Hr.out]; rfl
   have Hs := Lib.hid hs
   clear hs
   go_wp2_with fail
   go_ret
   rw [Hs.out]
   exact ⟨rfl, Below.refl _ _⟩
  case false =>
   have hrr := Hr.out
   rw [Bool.not_false, Bool.true_and] at hrr
   have Hrr := Lib.hid hrr
   clear hrr
   go_upto_region 4 with fail
   go_cut [86] (fun t wx => t = .bool b4 ∧ ∃ d, wx = w.drewN d)
   case first =>
    have hb := Hb4.out
    by_cases c1 : 4 < P
    ·have c1' : (4 : Int) < P := by omega
     have hs : b4 = true := by rw [← hb]; simp [c1]
     obtain ⟨Hs, Hb⟩ := hd2 hs hb
     clear hb hs
     go_quiet (fail)
     go_wp2_with fail
     go_meet
     exact ⟨by rw [Hs.out], _, rfl⟩
    have c1' : ¬ (4 : Int) < P := by omega
    by_cases c2 : I = P
    case neg =>
     have c2' : ((I : Int) != P) = true := by simp; omega
     have hs : b4 = true := by rw [← hb]; simp [c2]
     obtain ⟨Hs, Hb⟩ := hd2 hs hb
     clear hb hs
     go_quiet (fail)
     go_wp2_with fail
     go_meet
     exact ⟨by rw [Hs.out], _, rfl⟩
    have c2' : ((I : Int) != P) = false := by simp [c2]
    obtain ⟨C, hC⟩ : ∃ C, g.cells = C := ⟨_, rfl⟩
    rw [hC] at hb g2
    by_cases c3 : C < 0
    ·have hs : b4 = true := by rw [← hb]; simp [c3]
     obtain ⟨Hs, Hb, Hc2⟩ := hd3 hs hb c2
     clear c2 hb hs
     go_quiet (fail)
     go_wp2_with fail
     go_meet
     exact ⟨by rw [Hs.out], _, rfl⟩
    by_cases c4 : 64 < C
    ·have hs : b4 = true := by rw [← hb]; simp [c4]
     obtain ⟨Hs, Hb, Hc2⟩ := hd3 hs hb c2
     clear c2 hb hs
     go_quiet (fail)
     go_wp2_with fail
     go_meet
     exact ⟨by rw [Hs.out], _, rfl⟩
    obtain ⟨kp, hkp⟩ : ∃ kp, g.keep = kp := ⟨_, rfl⟩
    rw [hkp] at hb g5
    by_cases c5 : kp = -1
    ·have c5' : (kp != -1) = false := by simp [c5]
     have hs : b4 = false := by rw [← hb]; simp [c1, c2, c3, c4, c5]
     obtain ⟨Hs, Hb, Hc2, Hc5⟩ := hd4 hs hb c2 c5
     clear c5 c2 hb hs
     go_quiet (fail)
     go_wp2_with fail
     go_meet
     exact ⟨by rw [Hs.out], _, rfl⟩
    ·have c5' : (kp != -1) = true := by simp [c5]
     have hs : (!cellB g kp) = b4 := by rw [← hb]; simp [c1, c2, c3, c4, c5]
     obtain ⟨Hs, Hb, Hc2, Hc5⟩ := hd4 hs hb c2 c5
     clear c5 c2 hb hs
     go_quiet (first | (go_at_call 51; exact Calls.quiet_of_same ((cell_any (H.out.below (below_drewN (Below.refl _ w) _)) kp).mono fun _ _ h => ⟨h.1, h.2.symm⟩)))
     go_wp2_with fail
     go_meet
     exact ⟨by rw [← Hs.out], _, rfl⟩
   case rest =>
    obtain ⟨rfl, d0, hwc⟩ := hcut
    cases b4
    case true =>
     have hs : r = false := by rw [← Hrr.out]; rfl
     have Hs := Lib.hid hs
     clear hs
     go_wp2_with fail
     go_ret
     rw [Hs.out]
     exact ⟨rfl, by rw [hwc]; exact below_drewN (Below.refl _ _) _⟩
    case false =>
     have hr4 := Hrr.out
     rw [Bool.not_false, Bool.true_and] at hr4
     have hb4' := Hb4.out
     have hIP : I = P := by
      by_cases e : I = P
      ·exact e
      ·simp [e] at hb4'
     have hP4 : P ≤ 4 := by
      by_cases e : 4 < P
      ·simp [e] at hb4'
      ·omega
     subst hIP
     clear g0 g1 g2 g3 g5 kc1 kc2
     have hW : Below w.heap.size w wc := by rw [hwc]; exact below_drewN (Below.refl _ _) _
     have hD := H.out.below hW
     have hBw : B ≤ w.heap.size := by have := H.out.le; have := H.out.blk.lt; omega
     have hPR1 := HPR.out.below (hW.mono hBw)
     have hIR1 := HIR.out.below (hW.mono hBw)
     have g0 := hD.gm.c0
     have g1 := hD.gm.c1
     have g3 := hD.gm.c3
     rw [HP.out] at g0
     rw [HK.out] at g1
     rw [HI.out] at g3
     have kc1 := Blk.cell hD.blk 1
     have kc2 := Blk.cell hD.blk 2
     simp only [List.getElem?_toArray, List.getElem?_cons_zero, List.getElem?_cons_succ] at kc1 kc2
     obtain ⟨HD, HW, Hr4, Hb4', HPR1, HIR1, Hwc⟩ := hd7 hD hW hr4 hb4' hPR1 hIR1 hwc
     clear hwc hIR1 hPR1 hb4' hr4 hW hD
     go_wp2_with fail
     clear g0 g1 g3 kc1 kc2
     go_loopw [92] (fun i wq => ∃ j : Nat, j ≤ I ∧ i = .int .i64 j ∧ Below wc.heap.size wc wq ∧ Hid (∀ k, k < j → parB g bound k = true)) (fun i _ => I - (intOf i).toNat)
     case atStart => exact ⟨0, by omega, rfl, Below.refl _ _, (show ∀ k, k < 0 → parB g bound k = true by omega)⟩
     case round =>
      obtain ⟨j, hj, rfl, hbq, hall⟩ := hrel
      have hBc : B ≤ wc.heap.size := by have := HD.out.le; have := HD.out.blk.lt; omega
      have hDq := HD.out.below hbq
      have g0 := hDq.gm.c0
      have g1 := hDq.gm.c1
      have g3 := hDq.gm.c3
      rw [HP.out] at g0
      rw [HK.out] at g1
      rw [HI.out] at g3
      have kc1 := Blk.cell hDq.blk 1
      have kc2 := Blk.cell hDq.blk 2
      simp only [List.getElem?_toArray, List.getElem?_cons_zero, List.getElem?_cons_succ] at kc1 kc2
      have hbnd := HW.out.trans (hbq.mono HW.out.size)
      by_cases hjm : j < I
      ·have hPq := HPR1.out.below (hbq.mono hBc)
       have hIq := HIR1.out.below (hbq.mono hBc)
       obtain ⟨pad, pu, hPA, _, hpu, hpce⟩ := hPq.at_ hjm
       subst hPA
       obtain ⟨p, hpp, rfl⟩ : ∃ pp, g.params[j]? = some pp ∧ pu = .int .i64 pp := by
        rw [List.getElem?_map, Option.map_eq_some_iff] at hpu
        obtain ⟨x, h1, h2⟩ := hpu
        exact ⟨x, h1, h2.symm⟩
       obtain ⟨iad, iu, hIA, _, hiu, hice⟩ := hIq.at_ hjm
       subst hIA
       obtain ⟨k, hik, rfl⟩ : ∃ pp, g.init[j]? = some pp ∧ iu = .int .i64 pp := by
        rw [List.getElem?_map, Option.map_eq_some_iff] at hiu
        obtain ⟨x, h1, h2⟩ := hiu
        exact ⟨x, h1, h2.symm⟩
       have hpg : g.params.getD j 0 = p := by rw [List.getD_eq_getElem?_getD, hpp]; rfl
       have hig : g.init.getD j 0 = k := by rw [List.getD_eq_getElem?_getD, hik]; rfl
       obtain ⟨b9, hb9⟩ : ∃ b9, (decide (p < 0) || decide ((K : Int) ≤ p) || decide (p ∈ g.params.take j) || (bound && decide (p ≠ j))) = b9 := ⟨_, rfl⟩
       obtain ⟨b12, hb12⟩ : ∃ b12, (decide (k ≠ -1) && (!cellB g k || !isB g bound 0 [p])) = b12 := ⟨_, rfl⟩
       have hpar : parB g bound j = (!b9 && !b12) := by unfold parB; rw [hpg, hig, HK.out, hb9, hb12]
       have hRj : Reads wr B 1 (some pad) j ((g.params.take j).map (Value.int .i64)) := by
        refine ⟨by rw [List.length_map, List.length_take, HP.out]; omega, fun hn => ?_⟩
        obtain ⟨ad, e1, e2, e3⟩ := hPq.2 (by omega)
        refine ⟨ad, e1, e2, fun i u hu => e3 i u ?_⟩
        rw [List.getElem?_map, List.getElem?_take] at hu
        split at hu
        ·rw [List.getElem?_map]; exact hu
        ·cases hu
       have hlj : (g.params.take j).length = j := by rw [List.length_take, HP.out]; omega
       have hbad : parB g bound j = false → r = false := fun hf => by
        rw [← Hr4.out]
        rcases hq : (List.range I).all (parB g bound) with _ | _
        ·rfl
        ·rw [List.all_eq_true.1 hq j (List.mem_range.2 hjm)] at hf; cases hf
       have hstep : parB g bound j = true → ∀ i, i < j + 1 → parB g bound i = true := fun hf i hi => by
        by_cases e : i = j
        ·rw [e]; exact hf
        ·exact hall.out i (by omega)
       have hjI : (j : Int) < I := by omega
       clear hpu hiu
       obtain ⟨Hbq, Hall, HDq, HPq, HIq, Hpp, Hik, Hpg⟩ := hd8 hbq hall hDq hPq hIq hpp hik hpg
       obtain ⟨Hig, Hb9, Hb12, Hpar, HRj, Hlj, Hbad, Hstep⟩ := hd8 hig hb9 hb12 hpar hRj hlj hbad hstep
       have Hbnd := Lib.hid hbnd
       clear hbnd hstep hbad hlj hRj hpar hb12 hb9 hig hpg hik hpp hIq hPq hDq hall hbq
       go_upto_region 9 with fail
       go_cut [128] from 97 to 128 (fun t wx => t = .bool b9 ∧ wr = wx)
       case first =>
        have hb := Hb9.out
        by_cases c1 : p < 0
        ·have hs : b9 = true := by rw [← hb]; simp [c1]
         obtain ⟨Hs, Hb⟩ := hd2 hs hb
         clear hb hs
         go_wp2_with fail
         go_meet
         exact ⟨by rw [Hs.out], rfl⟩
        by_cases c2 : (K : Int) ≤ p
        ·have hs : b9 = true := by rw [← hb]; simp [c2]
         obtain ⟨Hs, Hb⟩ := hd2 hs hb
         clear hb hs
         go_wp2_with fail
         go_meet
         exact ⟨by rw [Hs.out], rfl⟩
        obtain ⟨bc, hbc⟩ : ∃ bc, decide (p ∈ g.params.take j) = bc := ⟨_, rfl⟩
        rw [hbc] at hb
        have hjI2 : (j : Int) ≤ I := by omega
        have hjpc : j ≤ pc := by omega
        obtain ⟨Hb, Hbc⟩ := hd2 hb hbc
        clear hbc hb
        go_wp2_with fail
        refine (contains_any wr B (some pad) j pc (g.params.take j) HRj.out Hlj.out (by omega) p).mono ?_
        rintro e w1 ⟨rfl, rfl⟩
        rw [Hbc.out]
        have hb := Hb.out
        cases bc
        ·cases bound
         ·have hs : b9 = false := by rw [← hb]; simp [c1, c2]
          obtain ⟨Hs, Hb⟩ := hd2 hs hb
          clear hb hs
          go_wp2_with fail
          go_meet
          exact ⟨by rw [Hs.out], rfl⟩
         ·by_cases c3 : p = j
          ·have c3' : (p != (j : Int)) = false := by simp [c3]
           have hs : b9 = false := by rw [← hb]; simp [c1, c2, c3]; omega
           obtain ⟨Hs, Hb, Hc3⟩ := hd3 hs hb c3
           clear c3 hb hs
           go_wp2_with fail
           go_meet
           exact ⟨by rw [Hs.out], rfl⟩
          ·have c3' : (p != (j : Int)) = true := by simp [c3]
           have hs : b9 = true := by rw [← hb]; simp [c3]
           obtain ⟨Hs, Hb, Hc3⟩ := hd3 hs hb c3
           clear c3 hb hs
           go_wp2_with fail
           go_meet
           exact ⟨by rw [Hs.out], rfl⟩
        ·have hs : b9 = true := by rw [← hb]; simp
         obtain ⟨Hs, Hb⟩ := hd2 hs hb
         clear hb hs
         go_wp2_with fail
         go_meet
         exact ⟨by rw [Hs.out], rfl⟩
       case rest =>
        obtain ⟨rfl, hwc2⟩ := hcut
        subst hwc2
        cases b9
        case true =>
         have hs := Hbad.out (by rw [Hpar.out]; rfl)
         have Hs := Lib.hid hs
         clear hs
         go_wp2_with fail
         go_ret
         rw [Hs.out]
         exact ⟨rfl, Hbnd.out⟩
        case false =>
         go_upto_region 12 with fail
         go_cut [150] from 136 to 150 (fun t wx => t = .bool b12 ∧ Below wr.heap.size wr wx)
         case first =>
          have hb := Hb12.out
          by_cases c1 : k = -1
          ·have c1' : (k != -1) = false := by simp [c1]
           have hs : b12 = false := by rw [← hb]; simp [c1]
           obtain ⟨Hs, Hb, Hc1⟩ := hd3 hs hb c1
           clear c1 hb hs
           go_wp2_with fail
           go_meet
           exact ⟨by rw [Hs.out], Below.refl _ _⟩
          ·have c1' : (k != -1) = true := by simp [c1]
           have hb' : (!cellB g k || !isB g bound 0 [p]) = b12 := by rw [← hb]; simp [c1]
           obtain ⟨bc, hbc⟩ : ∃ bc, cellB g k = bc := ⟨_, rfl⟩
           obtain ⟨bi, hbi⟩ : ∃ bi, isB g bound 0 [p] = bi := ⟨_, rfl⟩
           rw [hbc, hbi] at hb'
           obtain ⟨Hb, Hb', Hc1, Hbc, Hbi⟩ := hd5 hb hb' c1 hbc hbi
           clear hbi hbc c1 hb' hb
           go_wp2_with fail
           refine (cell_any HDq.out k).mono ?_
           rintro e w1 ⟨rfl, rfl⟩
           rw [Hbc.out]
           have hb' := Hb'.out
           cases bc
           ·have hs : b12 = true := by rw [← hb']; rfl
            obtain ⟨Hs, HB2⟩ := hd2 hs hb'
            clear hb' hs
            go_wp2_with fail
            go_meet
            exact ⟨by rw [Hs.out], Below.refl _ _⟩
           ·have hs : (!bi) = b12 := by rw [← hb']; rfl
            obtain ⟨Hs, HB2⟩ := hd2 hs hb'
            clear hb' hs
            have hal := (Below.refl wr.heap.size wr).alloc (Nat.le_refl _) (.cells #[.int .i64 p] 3)
            have hDal := HDq.out.below hal
            obtain ⟨Hal, HDal⟩ := hd2 hal hDal
            clear hDal hal
            go_wp2_with fail
            refine (is_any HDal.out 0 (wr.heap.size + 1) (some ⟨wr.heap.size, 0, none⟩) 1 1 [p] (Reads.new1 _ _ _) rfl (by omega)).mono ?_
            rintro e w1 ⟨rfl, rfl⟩
            rw [Hbi.out]
            go_wp2_with fail
            go_meet
            exact ⟨by rw [Hs.out], Hal.out⟩
         case rest =>
          obtain ⟨rfl, hb8⟩ := hcut
          have hbe := Hbq.out.trans (hb8.mono Hbq.out.size)
          have hbe2 := Hbnd.out.trans (hb8.mono Hbnd.out.size)
          cases b12
          case true =>
           have hs := Hbad.out (by rw [Hpar.out]; rfl)
           obtain ⟨Hs, Hbe, Hbe2⟩ := hd3 hs hbe hbe2
           clear hbe2 hbe hs
           go_wp2_with fail
           go_ret
           rw [Hs.out]
           exact ⟨rfl, Hbe2.out⟩
          case false =>
           have hs := Hstep.out (by rw [Hpar.out]; rfl)
           obtain ⟨Hs, Hbe, Hbe2⟩ := hd3 hs hbe hbe2
           clear hbe2 hbe hs
           go_wp2_with fail
           exact ⟨⟨j + 1, by omega, by go_num, Hbe.out, Lib.hid Hs.out⟩, by simp [intOf]; omega⟩
      ·have hr5 : b15 = r := by
        have h1 := Hr4.out
        rw [List.all_eq_true.2 (fun k hk => hall.out k (by have := List.mem_range.1 hk; omega)), Bool.true_and] at h1
        exact h1
       have hb15' := Hb15.out
       unfold head3 at hb15'
       have g6 := hDq.gm.c6
       have g7 := hDq.gm.c7
       obtain ⟨en, hen⟩ : ∃ en, g.entry = en := ⟨_, rfl⟩
       rw [hen] at g7 hb15'
       rw [Hnn.out] at hb15'
       have hcase : (nn = 0 ∧ b15 = false) ∨ (0 < nn ∧ 4096 < nn ∧ b15 = false) ∨ (0 < nn ∧ nn ≤ 4096 ∧ en < 0 ∧ b15 = false) ∨ (0 < nn ∧ nn ≤ 4096 ∧ 0 ≤ en ∧ (nn : Int) ≤ en ∧ b15 = false) ∨ (0 < nn ∧ nn ≤ 4096 ∧ 0 ≤ en ∧ en < nn ∧ b15 = true) := by
        rw [← hb15']
        by_cases d1 : 0 < nn
        ·by_cases d2 : nn ≤ 4096
         ·by_cases d3 : 0 ≤ en
          ·by_cases d4 : en < nn
           ·exact .inr (.inr (.inr (.inr ⟨d1, d2, d3, d4, by simp [d1, d2, d3, d4]⟩)))
           ·exact .inr (.inr (.inr (.inl ⟨d1, d2, d3, by omega, by simp [d4]⟩)))
          ·exact .inr (.inr (.inl ⟨d1, d2, by omega, by simp [d3]⟩))
         ·exact .inr (.inl ⟨d1, by omega, by simp [d2]⟩)
        ·exact .inl ⟨by omega, by simp [d1]⟩
       obtain ⟨Hr5, Hb15', Hall, Hbq, HDq, Hbnd, Hen⟩ := hd7 hr5 hb15' hall hbq hDq hbnd hen
       clear hen hbnd hDq hbq hall hb15' hr5
       go_upto_region 15 with fail
       rcases hcase with ⟨d1, hs⟩ | ⟨d1, d2, hs⟩ | ⟨d1, d2, d3, hs⟩ | ⟨d1, d2, d3, d4, hs⟩ | ⟨d1, d2, d3, d4, hs⟩
       ·have hD1 : ¬ (0 : Int) < nn := by omega
        have hD2 : ¬ 0 < nn := by omega
        have Hs := Lib.hid hs
        clear hs
        clear d1
        go_quiet (fail)
        go_wp2_with fail
        go_ret
        rw [← Hr5.out, Hs.out]
        exact ⟨rfl, below_drewN Hbnd.out _⟩
       ·have hD1 : ¬ (nn : Int) ≤ 4096 := by omega
        have hD2 : 0 < nn := by omega
        have Hs := Lib.hid hs
        clear hs
        clear d1
        go_quiet (fail)
        go_wp2_with fail
        go_ret
        rw [← Hr5.out, Hs.out]
        exact ⟨rfl, below_drewN Hbnd.out _⟩
       ·have hD1 : (nn : Int) ≤ 4096 ∧ ¬ 0 ≤ en := by omega
        have hD2 : 0 < nn := by omega
        have Hs := Lib.hid hs
        clear hs
        clear d1
        go_quiet (fail)
        go_wp2_with fail
        go_ret
        rw [← Hr5.out, Hs.out]
        exact ⟨rfl, below_drewN Hbnd.out _⟩
       ·have hD1 : (nn : Int) ≤ 4096 ∧ 0 ≤ en ∧ ¬ en < nn := by omega
        have hD2 : 0 < nn := by omega
        have Hs := Lib.hid hs
        clear hs
        clear d1
        go_quiet (fail)
        go_wp2_with fail
        go_ret
        rw [← Hr5.out, Hs.out]
        exact ⟨rfl, below_drewN Hbnd.out _⟩
       ·have hD1 : (nn : Int) ≤ 4096 ∧ 0 ≤ en ∧ en < nn := by omega
        have hD2 : 0 < nn := by omega
        have Hs := Lib.hid hs
        clear hs
        clear d1
        go_quiet (fail)
        go_wp2_with fail
        go_ret
        rw [← Hr5.out, Hs.out]
        exact ⟨rfl, below_drewN Hbnd.out _⟩
end Go.Proofs.YtnfjjliiajaijaaDoor
namespace Go.Proofs.YtnfjjliiajaijaaDoor
open Go.RowKit

def opB (gs : List GraphD) (g : GraphD) (bound : Bool) (x : NodeD) : Bool :=
 if x.op = 1 ∨ x.op = 16 then isB g bound 0 [x.d]
 else if x.op = 2 then isB g bound 0 [x.d, x.a] || isB g bound 1 [x.d, x.a]
 else if x.op = 3 then decide (7 ≤ x.byo) && decide (x.byo ≤ 20) && isB g bound 0 [x.d, x.a, x.b]
 else if x.op = 4 then cellB g x.cell && isB g bound 0 [x.d]
 else if x.op = 5 then cellB g x.cell && isB g bound 0 [x.a]
 else if x.op = 6 then cellB g x.cell && isB g bound 1 [x.d]
 else if x.op = 7 then isB g bound 0 [x.d] && isB g bound 1 [x.a]
 else if x.op = 8 then isB g bound 1 [x.a] && isB g bound 0 [x.b]
 else if x.op = 10 then true
 else if x.op = 9 ∨ x.op = 14 ∨ x.op = 18 ∨ x.op = 17 then isB g bound 0 [x.a]
 else if x.op = 15 then decide (x.d ≠ x.e) && isB g bound 0 [x.d, x.e]
 else if x.op = 13 then argsB gs g bound x
 else if x.op = 11 then argsB gs g bound x && (decide (x.d = -1) || (isB g bound 0 [x.d] && (match gs[x.f.toNat]? with | none => false | some f => f.result) && (!bound || decide (x.d = 0))))
 else if x.op = 12 then (decide (x.a = -1) && !g.result) || (decide (x.a ≠ -1) && g.result && isB g bound 0 [x.a])
 else false
def nodeB (gs : List GraphD) (g : GraphD) (bound : Bool) (x : NodeD) : Bool := ((nextL x).all fun t => decide (0 ≤ t) && decide (t < g.nodes.length)) && opB gs g bound x
theorem Reads.newL' (w : World) (t : TypeId) (l : List Int) {cs : Array Value} {g n B : Nat} (hc : cs = (l.map (Value.int .i64)).toArray) (hg : g = w.heap.size) (hB : B = w.heap.size + 1) (hn : n = l.length := by rfl) : Reads (w.alloc (.cells cs t)) B 1 (some ⟨g, 0, none⟩) n (l.map (Value.int .i64)) := by
 subst hc hg hB hn
 have h := Reads.newL w t (l.map (Value.int .i64))
 rw [List.length_map] at h
 exact h
theorem node_any {w : World} {B cb : Nat} {allv : Value} {gs : List GraphD} {ga : Addr} {g : GraphD} {pv kv iv nv : Value} {bound : Bool} (h : Ck w B cb allv gs ga g pv kv iv nv bound)
  (hpar : ∀ f ∈ gs, ∀ p ∈ f.params, 0 ≤ p ∧ p < f.kinds.length) (hgl : gs.length ≤ 16) (x : NodeD) (av : Value) (D : Nat) (hD : D ≤ w.heap.size) (hav : NumsAt .i64 w D av x.args) (hal : x.args.length ≤ 140737488351232) (hpl : ∀ f ∈ gs, f.params.length ≤ 4) (hkl : ∀ f ∈ gs, f.kinds.length ≤ 1024) (hno : x.op ≠ 11) :
  Calls Tryd.prog 33 #[.pointer (some ⟨cb, 0, none⟩), .agg (ncells x av).toArray] w fun e w' => e = .returned (.bool (nodeB gs g bound x)) ∧ Below w.heap.size w w' := by
 obtain ⟨r, hr⟩ : ∃ r, nodeB gs g bound x = r := ⟨_, rfl⟩
 rw [hr]
 unfold nodeB at hr
 obtain ⟨r2, hr2⟩ : ∃ r2, opB gs g bound x = r2 := ⟨_, rfl⟩
 rw [hr2] at hr
 obtain ⟨G, hG⟩ : ∃ G, G = w.heap.size := ⟨_, rfl⟩
 obtain ⟨NC, hNC⟩ : ∃ NC : Array Value, NC = (ncells x av).toArray := ⟨_, rfl⟩
 rw [← hNC]
 have hP := Blk.new w 55 NC
 have hb := (Below.refl w.heap.size w).alloc (Nat.le_refl _) (.cells NC 55)
 have hC := h.below hb
 have hA := hav.below (hb.mono hD)
 have hnx := next_any (w.alloc (.cells NC 55)) x av
 rw [← hNC] at hnx
 obtain ⟨V, hV⟩ : ∃ V, V = w.alloc (.cells NC 55) := ⟨_, rfl⟩
 rw [← hV] at hC hb hA hP hnx
 have hGV : G < V.heap.size := by rw [hV, World.size_alloc, hG]; omega
 rw [← hG] at hP
 obtain ⟨NA, nn, nc, css, rfl, _, _, hnn, hrest⟩ := hC.gm.nodes
 have hNS : NC.size = 12 := by rw [hNC]; rfl
 obtain ⟨Hrest, Hb, HA, HC, Hr, Hr2, HP, H⟩ := hd8 hrest hb hA hC hr hr2 hP h
 obtain ⟨Hpar, Hpl, HNC, HV, Hkl, HG, Hnx, Hnn⟩ := hd8 hpar hpl hNC hV hkl hG hnx hnn
 obtain ⟨Hav, HNS⟩ := hd2 hav hNS
 clear hNS hav hnn hnx hG hkl hV hNC hpl hpar h hP hr2 hr hC hA hb hrest
 go_enter Tryd.func33, Tryd.ntmps33
 go_upto_region 1 with fail
 rw [← HV.out, ← HG.out]
 have hrange : V.rangeAt G 0 (ncells x av) := fun j v hv => by
  rw [HP.out.cell (0 + j), HNC.out, Nat.zero_add, List.getElem?_toArray]
  exact hv
 have hag : (ncells x av).toArray = NC := HNC.out.symm
 have Hrange := Lib.hid hrange
 clear hrange
 go_wp2_with (refine wpList_load_mid rfl 55 _ rfl G 0 rfl (ncells x av) _ Hrange.out Tryd.underlying55 rfl (by kernel_rfl) ?_)
 refine Hnx.out.mono ?_
 rintro e w1 ⟨⟨v, rfl, hL⟩, hb1⟩
 obtain ⟨LA, lc, rfl, _, hlc, hLr⟩ := hL
 obtain ⟨L, hLe⟩ : ∃ L, nextL x = L := ⟨_, rfl⟩
 obtain ⟨m, hm⟩ : ∃ m, L.length = m := ⟨_, rfl⟩
 rw [hLe] at hLr ⊢
 rw [hm] at hLr ⊢
 have hm2 : m ≤ 2 := by
  rw [← hm, ← hLe]
  unfold nextL
  repeat' split
  all_goals simp
 have hC1 := HC.out.below hb1
 have hbb1 := Hb.out.trans (hb1.mono Hb.out.size)
 have hP1 := HP.out.below hb1 hGV
 have hG1 : G < w1.heap.size := by have := hb1.size; omega
 have hA1 := HA.out.below (hb1.mono (by have := Hb.out.size; omega))
 have hrA := Hr.out
 rw [hLe] at hrA
 obtain ⟨HC1, Hbb1, HP1, HLr, HLe, Hm, HrA, HA1⟩ := hd8 hC1 hbb1 hP1 hLr hLe hm hrA hA1
 clear hA1 hrA hm hLe hLr hP1 hbb1 hC1
 clear hb1
 go_wp2_with fail
 go_loopw [10] (fun i wq => ∃ j : Nat, j ≤ m ∧ i = .int .i64 j ∧ wq = w1 ∧ Hid (∀ t ∈ L.take j, (decide (0 ≤ t) && decide (t < g.nodes.length)) = true)) (fun i _ => m - (intOf i).toNat)
 case atStart => exact ⟨0, by omega, rfl, rfl, (show ∀ t ∈ L.take 0, (decide (0 ≤ t) && decide (t < g.nodes.length)) = true from fun t ht => by simp at ht)⟩
 case round =>
  obtain ⟨j, hj, rfl, hwr, hall⟩ := hrel
  subst hwr
  by_cases hjm : j < m
  ·obtain ⟨ad, u0, hAd, _, hu0, hce⟩ := HLr.out.at_ hjm
   subst hAd
   obtain ⟨p, hpj, rfl⟩ : ∃ p, L[j]? = some p ∧ u0 = .int .i64 p := by
    rw [List.getElem?_map, Option.map_eq_some_iff] at hu0
    obtain ⟨x, h1, h2⟩ := hu0
    exact ⟨x, h1, h2.symm⟩
   have hmem := List.mem_of_getElem? hpj
   have hjI : (j : Int) < m := by omega
   have g6 := HC1.out.gm.c6
   have kc1 := Blk.cell HC1.out.blk 1
   simp only [List.getElem?_toArray, List.getElem?_cons_zero, List.getElem?_cons_succ] at kc1
   have hbad : (decide (0 ≤ p) && decide (p < g.nodes.length)) = false → r = false := fun hf => by
    rw [← HrA.out]
    rcases hq : L.all (fun t => decide (0 ≤ t) && decide (t < g.nodes.length)) with _ | _
    ·rfl
    ·rw [List.all_eq_true.1 hq p hmem] at hf; cases hf
   clear hu0
   by_cases c0 : 0 ≤ p
   ·by_cases c1 : p < nn
    ·have hs : ∀ t ∈ L.take (j + 1), (decide (0 ≤ t) && decide (t < g.nodes.length)) = true := fun t ht => by
      rw [List.take_add_one, hpj] at ht
      rcases List.mem_append.1 ht with ht | ht
      ·exact hall.out t ht
      ·simp at ht; rw [ht, Hnn.out]; simp [c0, c1]
     have c0' : ¬ p < 0 := by omega
     have c1' : ¬ (nn : Int) ≤ p := by omega
     obtain ⟨Hs, Hall, Hpj, Hmem, Hbad⟩ := hd5 hs hall hpj hmem hbad
     clear hbad hmem hpj hall hs
     clear c0 c1
     go_wp2_with fail
     exact ⟨⟨j + 1, by omega, by go_num, trivial, Lib.hid Hs.out⟩, by simp [intOf]; omega⟩
    ·have hs := hbad (by rw [Hnn.out]; simp [c1])
     have c0' : ¬ p < 0 := by omega
     have c1' : (nn : Int) ≤ p := by omega
     obtain ⟨Hs, Hall, Hpj, Hmem, Hbad⟩ := hd5 hs hall hpj hmem hbad
     clear hbad hmem hpj hall hs
     clear c0 c1
     go_wp2_with fail
     go_ret
     rw [Hs.out]
     exact ⟨rfl, Hbb1.out⟩
   ·have hs := hbad (by simp [c0])
    have c0' : p < 0 := by omega
    obtain ⟨Hs, Hall, Hpj, Hmem, Hbad⟩ := hd5 hs hall hpj hmem hbad
    clear hbad hmem hpj hall hs
    clear c0
    go_wp2_with fail
    go_ret
    rw [Hs.out]
    exact ⟨rfl, Hbb1.out⟩
  ·have hrr : r2 = r := by
    have h1 := HrA.out
    rw [List.take_of_length_le (by rw [Hm.out]; omega)] at hall
    rw [List.all_eq_true.2 hall.out, Bool.true_and] at h1
    exact h1
   have HCq := HC1
   have Hbnd := Hbb1
   have hNC2 := HNC.out
   obtain ⟨op, byo, d, e_, a, b, f, cell, imm, args, next, els⟩ := x
   have hPq := HP1.out
   rw [hNC2] at hPq
   have hPq : Blk wr G 55 #[.int .u8 op, .int .u8 byo, .int .i64 d, .int .i64 e_, .int .i64 a, .int .i64 b, .int .i64 f, .int .i64 cell, .int .u64 imm, av, .int .i64 next, .int .i64 els] := hPq
   have kp0 := Blk.cell hPq 0
   have kp1 := Blk.cell hPq 1
   have kp2 := Blk.cell hPq 2
   have kp3 := Blk.cell hPq 3
   have kp4 := Blk.cell hPq 4
   have kp5 := Blk.cell hPq 5
   have kp6 := Blk.cell hPq 6
   have kp7 := Blk.cell hPq 7
   simp only [List.getElem?_toArray, List.getElem?_cons_zero, List.getElem?_cons_succ] at kp0 kp1 kp2 kp3 kp4 kp5 kp6 kp7
   obtain ⟨Hrr, Hall, HNC2, HPq⟩ := hd4 hrr hall hNC2 hPq
   clear hPq hNC2 hall hrr
   have hjI : ¬ (j : Int) < m := by omega
   go_upto_region 7 with fail
   by_cases e : op = 1 ∨ op = 16
   ·rcases e with e | e
    all_goals
     subst e
     have hres : isB g bound 0 [d] = r2 := Hr2.out
     have hal := (Below.refl wr.heap.size wr).alloc (Nat.le_refl _) (.cells #[.int .i64 d] 3)
     have hDal := HCq.out.below hal
     obtain ⟨Hal, HDal, Hres⟩ := hd3 hal hDal hres
     clear hres hDal hal
     go_wp2_with fail
     refine (is_any HDal.out 0 (wr.heap.size + 1) (some ⟨wr.heap.size, 0, none⟩) 1 1 [d] (Reads.newL' wr 3 [d] rfl rfl rfl) rfl (by omega)).mono ?_
     rintro e w9 ⟨rfl, rfl⟩
     rw [Hres.out]
     go_wp2_with fail
     go_ret
     rw [Hrr.out]
     exact ⟨rfl, Hbnd.out.trans (Hal.out.mono Hbnd.out.size)⟩
   by_cases e : op = 2
   ·subst e
    have hres : (isB g bound 0 [d, a] || isB g bound 1 [d, a]) = r2 := Hr2.out
    obtain ⟨bc, hbc⟩ : ∃ bc, isB g bound 0 [d, a] = bc := ⟨_, rfl⟩
    rw [hbc] at hres
    have hal := (Below.refl wr.heap.size wr).alloc (Nat.le_refl _) (.cells #[.int .i64 d, .int .i64 a] 3)
    have hDal := HCq.out.below hal
    have hal2 := hal.alloc hal.size (.cells #[.int .i64 d, .int .i64 a] 3)
    have hDal2 := HCq.out.below hal2
    obtain ⟨Hal, HDal, Hres, Hbc, Hal2, HDal2⟩ := hd6 hal hDal hres hbc hal2 hDal2
    clear hDal2 hal2 hbc hres hDal hal
    go_wp2_with fail
    refine (is_any HDal.out 0 (wr.heap.size + 1) (some ⟨wr.heap.size, 0, none⟩) 2 2 [d, a] (Reads.newL' wr 3 [d, a] rfl rfl rfl) rfl (by omega)).mono ?_
    rintro e w9 ⟨rfl, rfl⟩
    rw [Hbc.out]
    have hres := Hres.out
    cases bc
    ·rw [Bool.false_or] at hres
     have HR9 := Lib.hid hres
     clear hres
     go_wp2_with fail
     refine (is_any HDal2.out 1 (wr.heap.size + 1 + 1) (some ⟨wr.heap.size + 1, 0, none⟩) 2 2 [d, a] (Reads.newL' (wr.alloc (.cells #[.int .i64 d, .int .i64 a] 3)) 3 [d, a] rfl (by rw [World.size_alloc]) (by rw [World.size_alloc])) rfl (by omega)).mono ?_
     rintro e w9 ⟨rfl, rfl⟩
     rw [HR9.out]
     go_wp2_with fail
     go_ret
     rw [Hrr.out]
     exact ⟨rfl, Hbnd.out.trans (Hal2.out.mono Hbnd.out.size)⟩
    ·rw [Bool.true_or] at hres
     have HR9 := Lib.hid hres
     clear hres
     go_wp2_with fail
     go_ret
     rw [← Hrr.out, ← HR9.out]
     exact ⟨rfl, Hbnd.out.trans (Hal.out.mono Hbnd.out.size)⟩
   by_cases e : op = 4
   ·subst e
    have hres : (cellB g cell && isB g bound 0 [d]) = r2 := Hr2.out
    obtain ⟨bc, hbc⟩ : ∃ bc, cellB g cell = bc := ⟨_, rfl⟩
    rw [hbc] at hres
    have hal := (Below.refl wr.heap.size wr).alloc (Nat.le_refl _) (.cells #[.int .i64 d] 3)
    have hDal := HCq.out.below hal
    obtain ⟨Hal, HDal, Hres, Hbc⟩ := hd4 hal hDal hres hbc
    clear hbc hres hDal hal
    go_wp2_with fail
    refine (cell_any HCq.out cell).mono ?_
    rintro e w9 ⟨rfl, rfl⟩
    rw [Hbc.out]
    have hres := Hres.out
    cases bc
    ·rw [Bool.false_and] at hres
     have HR9 := Lib.hid hres
     clear hres
     go_wp2_with fail
     go_ret
     rw [← Hrr.out, ← HR9.out]
     exact ⟨rfl, Hbnd.out⟩
    ·rw [Bool.true_and] at hres
     have HR9 := Lib.hid hres
     clear hres
     go_wp2_with fail
     refine (is_any HDal.out 0 (wr.heap.size + 1) (some ⟨wr.heap.size, 0, none⟩) 1 1 [d] (Reads.newL' wr 3 [d] rfl rfl rfl) rfl (by omega)).mono ?_
     rintro e w9 ⟨rfl, rfl⟩
     rw [HR9.out]
     go_wp2_with fail
     go_ret
     rw [Hrr.out]
     exact ⟨rfl, Hbnd.out.trans (Hal.out.mono Hbnd.out.size)⟩
   by_cases e : op = 5
   ·subst e
    have hres : (cellB g cell && isB g bound 0 [a]) = r2 := Hr2.out
    obtain ⟨bc, hbc⟩ : ∃ bc, cellB g cell = bc := ⟨_, rfl⟩
    rw [hbc] at hres
    have hal := (Below.refl wr.heap.size wr).alloc (Nat.le_refl _) (.cells #[.int .i64 a] 3)
    have hDal := HCq.out.below hal
    obtain ⟨Hal, HDal, Hres, Hbc⟩ := hd4 hal hDal hres hbc
    clear hbc hres hDal hal
    go_wp2_with fail
    refine (cell_any HCq.out cell).mono ?_
    rintro e w9 ⟨rfl, rfl⟩
    rw [Hbc.out]
    have hres := Hres.out
    cases bc
    ·rw [Bool.false_and] at hres
     have HR9 := Lib.hid hres
     clear hres
     go_wp2_with fail
     go_ret
     rw [← Hrr.out, ← HR9.out]
     exact ⟨rfl, Hbnd.out⟩
    ·rw [Bool.true_and] at hres
     have HR9 := Lib.hid hres
     clear hres
     go_wp2_with fail
     refine (is_any HDal.out 0 (wr.heap.size + 1) (some ⟨wr.heap.size, 0, none⟩) 1 1 [a] (Reads.newL' wr 3 [a] rfl rfl rfl) rfl (by omega)).mono ?_
     rintro e w9 ⟨rfl, rfl⟩
     rw [HR9.out]
     go_wp2_with fail
     go_ret
     rw [Hrr.out]
     exact ⟨rfl, Hbnd.out.trans (Hal.out.mono Hbnd.out.size)⟩
   by_cases e : op = 6
   ·subst e
    have hres : (cellB g cell && isB g bound 1 [d]) = r2 := Hr2.out
    obtain ⟨bc, hbc⟩ : ∃ bc, cellB g cell = bc := ⟨_, rfl⟩
    rw [hbc] at hres
    have hal := (Below.refl wr.heap.size wr).alloc (Nat.le_refl _) (.cells #[.int .i64 d] 3)
    have hDal := HCq.out.below hal
    obtain ⟨Hal, HDal, Hres, Hbc⟩ := hd4 hal hDal hres hbc
    clear hbc hres hDal hal
    go_wp2_with fail
    refine (cell_any HCq.out cell).mono ?_
    rintro e w9 ⟨rfl, rfl⟩
    rw [Hbc.out]
    have hres := Hres.out
    cases bc
    ·rw [Bool.false_and] at hres
     have HR9 := Lib.hid hres
     clear hres
     go_wp2_with fail
     go_ret
     rw [← Hrr.out, ← HR9.out]
     exact ⟨rfl, Hbnd.out⟩
    ·rw [Bool.true_and] at hres
     have HR9 := Lib.hid hres
     clear hres
     go_wp2_with fail
     refine (is_any HDal.out 1 (wr.heap.size + 1) (some ⟨wr.heap.size, 0, none⟩) 1 1 [d] (Reads.newL' wr 3 [d] rfl rfl rfl) rfl (by omega)).mono ?_
     rintro e w9 ⟨rfl, rfl⟩
     rw [HR9.out]
     go_wp2_with fail
     go_ret
     rw [Hrr.out]
     exact ⟨rfl, Hbnd.out.trans (Hal.out.mono Hbnd.out.size)⟩
   by_cases e : op = 7
   ·subst e
    have hres : (isB g bound 0 [d] && isB g bound 1 [a]) = r2 := Hr2.out
    obtain ⟨bc, hbc⟩ : ∃ bc, isB g bound 0 [d] = bc := ⟨_, rfl⟩
    rw [hbc] at hres
    have hal := (Below.refl wr.heap.size wr).alloc (Nat.le_refl _) (.cells #[.int .i64 d] 3)
    have hDal := HCq.out.below hal
    have hal2 := hal.alloc hal.size (.cells #[.int .i64 a] 3)
    have hDal2 := HCq.out.below hal2
    obtain ⟨Hal, HDal, Hres, Hbc, Hal2, HDal2⟩ := hd6 hal hDal hres hbc hal2 hDal2
    clear hDal2 hal2 hbc hres hDal hal
    go_wp2_with fail
    refine (is_any HDal.out 0 (wr.heap.size + 1) (some ⟨wr.heap.size, 0, none⟩) 1 1 [d] (Reads.newL' wr 3 [d] rfl rfl rfl) rfl (by omega)).mono ?_
    rintro e w9 ⟨rfl, rfl⟩
    rw [Hbc.out]
    have hres := Hres.out
    cases bc
    ·rw [Bool.false_and] at hres
     have HR9 := Lib.hid hres
     clear hres
     go_wp2_with fail
     go_ret
     rw [← Hrr.out, ← HR9.out]
     exact ⟨rfl, Hbnd.out.trans (Hal.out.mono Hbnd.out.size)⟩
    ·rw [Bool.true_and] at hres
     have HR9 := Lib.hid hres
     clear hres
     go_wp2_with fail
     refine (is_any HDal2.out 1 (wr.heap.size + 1 + 1) (some ⟨wr.heap.size + 1, 0, none⟩) 1 1 [a] (Reads.newL' (wr.alloc (.cells #[.int .i64 d] 3)) 3 [a] rfl (by rw [World.size_alloc]) (by rw [World.size_alloc])) rfl (by omega)).mono ?_
     rintro e w9 ⟨rfl, rfl⟩
     rw [HR9.out]
     go_wp2_with fail
     go_ret
     rw [Hrr.out]
     exact ⟨rfl, Hbnd.out.trans (Hal2.out.mono Hbnd.out.size)⟩
   by_cases e : op = 8
   ·subst e
    have hres : (isB g bound 1 [a] && isB g bound 0 [b]) = r2 := Hr2.out
    obtain ⟨bc, hbc⟩ : ∃ bc, isB g bound 1 [a] = bc := ⟨_, rfl⟩
    rw [hbc] at hres
    have hal := (Below.refl wr.heap.size wr).alloc (Nat.le_refl _) (.cells #[.int .i64 a] 3)
    have hDal := HCq.out.below hal
    have hal2 := hal.alloc hal.size (.cells #[.int .i64 b] 3)
    have hDal2 := HCq.out.below hal2
    obtain ⟨Hal, HDal, Hres, Hbc, Hal2, HDal2⟩ := hd6 hal hDal hres hbc hal2 hDal2
    clear hDal2 hal2 hbc hres hDal hal
    go_wp2_with fail
    refine (is_any HDal.out 1 (wr.heap.size + 1) (some ⟨wr.heap.size, 0, none⟩) 1 1 [a] (Reads.newL' wr 3 [a] rfl rfl rfl) rfl (by omega)).mono ?_
    rintro e w9 ⟨rfl, rfl⟩
    rw [Hbc.out]
    have hres := Hres.out
    cases bc
    ·rw [Bool.false_and] at hres
     have HR9 := Lib.hid hres
     clear hres
     go_wp2_with fail
     go_ret
     rw [← Hrr.out, ← HR9.out]
     exact ⟨rfl, Hbnd.out.trans (Hal.out.mono Hbnd.out.size)⟩
    ·rw [Bool.true_and] at hres
     have HR9 := Lib.hid hres
     clear hres
     go_wp2_with fail
     refine (is_any HDal2.out 0 (wr.heap.size + 1 + 1) (some ⟨wr.heap.size + 1, 0, none⟩) 1 1 [b] (Reads.newL' (wr.alloc (.cells #[.int .i64 a] 3)) 3 [b] rfl (by rw [World.size_alloc]) (by rw [World.size_alloc])) rfl (by omega)).mono ?_
     rintro e w9 ⟨rfl, rfl⟩
     rw [HR9.out]
     go_wp2_with fail
     go_ret
     rw [Hrr.out]
     exact ⟨rfl, Hbnd.out.trans (Hal2.out.mono Hbnd.out.size)⟩
   by_cases e : op = 9 ∨ op = 14 ∨ op = 18 ∨ op = 17
   ·rcases e with e | e | e | e
    all_goals
     subst e
     have hres : isB g bound 0 [a] = r2 := Hr2.out
     have hal := (Below.refl wr.heap.size wr).alloc (Nat.le_refl _) (.cells #[.int .i64 a] 3)
     have hDal := HCq.out.below hal
     obtain ⟨Hal, HDal, Hres⟩ := hd3 hal hDal hres
     clear hres hDal hal
     go_wp2_with fail
     refine (is_any HDal.out 0 (wr.heap.size + 1) (some ⟨wr.heap.size, 0, none⟩) 1 1 [a] (Reads.newL' wr 3 [a] rfl rfl rfl) rfl (by omega)).mono ?_
     rintro e w9 ⟨rfl, rfl⟩
     rw [Hres.out]
     go_wp2_with fail
     go_ret
     rw [Hrr.out]
     exact ⟨rfl, Hbnd.out.trans (Hal.out.mono Hbnd.out.size)⟩
   by_cases e : op = 10
   ·subst e
    have hres : true = r2 := Hr2.out
    have Hres := Lib.hid hres
    clear hres
    go_wp2_with fail
    go_ret
    rw [← Hrr.out, ← Hres.out]
    exact ⟨rfl, Hbnd.out⟩
   by_cases e : op = 3
   ·subst e
    have hres : (decide (7 ≤ byo) && decide (byo ≤ 20) && isB g bound 0 [d, a, b]) = r2 := Hr2.out
    by_cases c7 : 7 ≤ byo
    case neg =>
     have hs : false = r2 := by rw [← hres]; simp [c7]
     obtain ⟨Hs, Hres⟩ := hd2 hs hres
     clear hres hs
     go_wp2_with fail
     go_ret
     rw [← Hrr.out, ← Hs.out]
     exact ⟨rfl, Hbnd.out⟩
    by_cases c20 : byo ≤ 20
    case neg =>
     have hs : false = r2 := by rw [← hres]; simp [c20]
     obtain ⟨Hs, Hres⟩ := hd2 hs hres
     clear hres hs
     go_wp2_with fail
     go_ret
     rw [← Hrr.out, ← Hs.out]
     exact ⟨rfl, Hbnd.out⟩
    have hs : isB g bound 0 [d, a, b] = r2 := by rw [← hres]; simp [c7, c20]
    have hal := (Below.refl wr.heap.size wr).alloc (Nat.le_refl _) (.cells #[.int .i64 d, .int .i64 a, .int .i64 b] 3)
    have hDal := HCq.out.below hal
    obtain ⟨Hal, HDal, Hres, Hs⟩ := hd4 hal hDal hres hs
    clear hs hres hDal hal
    go_wp2_with fail
    refine (is_any HDal.out 0 (wr.heap.size + 1) (some ⟨wr.heap.size, 0, none⟩) 3 3 [d, a, b] (Reads.newL' wr 3 [d, a, b] rfl rfl rfl) rfl (by omega)).mono ?_
    rintro e w9 ⟨rfl, rfl⟩
    rw [Hs.out]
    go_wp2_with fail
    go_ret
    rw [Hrr.out]
    exact ⟨rfl, Hbnd.out.trans (Hal.out.mono Hbnd.out.size)⟩
   by_cases e : op = 15
   ·subst e
    have hres : (decide (d ≠ e_) && isB g bound 0 [d, e_]) = r2 := Hr2.out
    by_cases cde : d = e_
    ·have hs : false = r2 := by rw [← hres]; simp [cde]
     have hde : (d != e_) = false := by simp [cde]
     obtain ⟨Hs, Hres, Hcde⟩ := hd3 hs hres cde
     clear cde hres hs
     go_wp2_with fail
     go_ret
     rw [← Hrr.out, ← Hs.out]
     exact ⟨rfl, Hbnd.out⟩
    ·have hs : isB g bound 0 [d, e_] = r2 := by rw [← hres]; simp [cde]
     have hde : (d != e_) = true := by simp [cde]
     have hal := (Below.refl wr.heap.size wr).alloc (Nat.le_refl _) (.cells #[.int .i64 d, .int .i64 e_] 3)
     have hDal := HCq.out.below hal
     obtain ⟨Hal, HDal, Hres, Hs, Hcde⟩ := hd5 hal hDal hres hs cde
     clear cde hs hres hDal hal
     go_wp2_with fail
     refine (is_any HDal.out 0 (wr.heap.size + 1) (some ⟨wr.heap.size, 0, none⟩) 2 2 [d, e_] (Reads.newL' wr 3 [d, e_] rfl rfl rfl) rfl (by omega)).mono ?_
     rintro e w9 ⟨rfl, rfl⟩
     rw [Hs.out]
     go_wp2_with fail
     go_ret
     rw [Hrr.out]
     exact ⟨rfl, Hbnd.out.trans (Hal.out.mono Hbnd.out.size)⟩
   by_cases e : op = 13
   ·subst e
    have hres : argsB gs g bound ⟨13, byo, d, e_, a, b, f, cell, imm, args, next, els⟩ = r2 := Hr2.out
    have har := args_any HCq.out Hpar.out hgl ⟨13, byo, d, e_, a, b, f, cell, imm, args, next, els⟩ av D (by have := HCq.out.blk.lt; have := Hbnd.out.size; omega) HA1.out hal Hpl.out Hkl.out
    rw [hres, ← HNC2.out] at har
    have hrange2 : wr.rangeAt G 0 (ncells ⟨13, byo, d, e_, a, b, f, cell, imm, args, next, els⟩ av) := fun j v hv => by
     rw [HPq.out.cell (0 + j), Nat.zero_add]
     exact (List.getElem?_toArray ..).trans hv
    obtain ⟨Hres, Har, Hrange2⟩ := hd3 hres har hrange2
    clear hrange2 har hres
    go_upto_region 35 with fail
    clear kp0 kp1 kp2 kp3 kp4 kp5 kp6 kp7
    go_wp2_with (refine wpList_load_mid rfl 55 _ rfl G 0 rfl (ncells ⟨13, byo, d, e_, a, b, f, cell, imm, args, next, els⟩ av) _ Hrange2.out Tryd.underlying55 rfl (by kernel_rfl) ?_)
    refine Har.out.mono ?_
    rintro e w9 ⟨rfl, hb9⟩
    have hfin := Hbnd.out.trans (hb9.mono Hbnd.out.size)
    have Hfin := Lib.hid hfin
    clear hfin
    clear hb9
    go_wp2_with fail
    go_ret
    rw [Hrr.out]
    exact ⟨rfl, Hfin.out⟩
   by_cases e : op = 12
   ·subst e
    have hres : ((decide (a = -1) && !g.result) || (decide (a ≠ -1) && g.result && isB g bound 0 [a])) = r2 := Hr2.out
    have g4 := HC1.out.gm.c4
    have kc1 := Blk.cell HC1.out.blk 1
    simp only [List.getElem?_toArray, List.getElem?_cons_zero, List.getElem?_cons_succ] at kc1
    obtain ⟨gr, hgr⟩ : ∃ gr, g.result = gr := ⟨_, rfl⟩
    rw [hgr] at hres g4
    by_cases ca : a = -1
    ·have ha : (a == -1) = true := by simp [ca]
     have ha2 : (a != -1) = false := by simp [ca]
     have hs : (!gr) = r2 := by rw [← hres]; simp [ca]
     obtain ⟨Hs, Hres, Hca, Hgr⟩ := hd4 hs hres ca hgr
     clear hgr ca hres hs
     cases gr
     all_goals
      go_wp2_with fail
      go_ret
      rw [← Hrr.out, ← Hs.out]
      exact ⟨rfl, Hbnd.out⟩
    ·have ha : (a == -1) = false := by simp [ca]
     have ha2 : (a != -1) = true := by simp [ca]
     have hs : (gr && isB g bound 0 [a]) = r2 := by rw [← hres]; simp [ca]
     obtain ⟨Hres, Hca, Hgr⟩ := hd3 hres ca hgr
     clear hgr ca hres
     cases gr
     ·rw [Bool.false_and] at hs
      have Hs := Lib.hid hs
      clear hs
      go_wp2_with fail
      go_ret
      rw [← Hrr.out, ← Hs.out]
      exact ⟨rfl, Hbnd.out⟩
     ·rw [Bool.true_and] at hs
      have hal := (Below.refl wr.heap.size wr).alloc (Nat.le_refl _) (.cells #[.int .i64 a] 3)
      have hDal := HCq.out.below hal
      obtain ⟨Hs, Hal, HDal⟩ := hd3 hs hal hDal
      clear hDal hal hs
      go_wp2_with fail
      refine (is_any HDal.out 0 (wr.heap.size + 1) (some ⟨wr.heap.size, 0, none⟩) 1 1 [a] (Reads.newL' wr 3 [a] rfl rfl rfl) rfl (by omega)).mono ?_
      rintro e w9 ⟨rfl, rfl⟩
      rw [Hs.out]
      go_wp2_with fail
      go_ret
      rw [Hrr.out]
      exact ⟨rfl, Hbnd.out.trans (Hal.out.mono Hbnd.out.size)⟩
   have e11 : op ≠ 11 := hno
   have hs : r2 = false := by
    rw [← Hr2.out]
    unfold opB
    simp only
    repeat (rw [if_neg (by omega)])
   have x1 : (op == 1) = false := by rw [beq_eq_false_iff_ne]; omega
   have x2 : (op == 2) = false := by rw [beq_eq_false_iff_ne]; omega
   have x3 : (op == 3) = false := by rw [beq_eq_false_iff_ne]; omega
   have x4 : (op == 4) = false := by rw [beq_eq_false_iff_ne]; omega
   have x5 : (op == 5) = false := by rw [beq_eq_false_iff_ne]; omega
   have x6 : (op == 6) = false := by rw [beq_eq_false_iff_ne]; omega
   have x7 : (op == 7) = false := by rw [beq_eq_false_iff_ne]; omega
   have x8 : (op == 8) = false := by rw [beq_eq_false_iff_ne]; omega
   have x9 : (op == 9) = false := by rw [beq_eq_false_iff_ne]; omega
   have x10 : (op == 10) = false := by rw [beq_eq_false_iff_ne]; omega
   have x11 : (op == 11) = false := by rw [beq_eq_false_iff_ne]; omega
   have x12 : (op == 12) = false := by rw [beq_eq_false_iff_ne]; omega
   have x13 : (op == 13) = false := by rw [beq_eq_false_iff_ne]; omega
   have x14 : (op == 14) = false := by rw [beq_eq_false_iff_ne]; omega
   have x15 : (op == 15) = false := by rw [beq_eq_false_iff_ne]; omega
   have x16 : (op == 16) = false := by rw [beq_eq_false_iff_ne]; omega
   have x17 : (op == 17) = false := by rw [beq_eq_false_iff_ne]; omega
   have x18 : (op == 18) = false := by rw [beq_eq_false_iff_ne]; omega
   rw [hs] at Hrr
   have Hs := Lib.hid hs
   clear hs
   go_wp2_with fail
   go_ret
   rw [← Hrr.out]
   exact ⟨rfl, Hbnd.out⟩
end Go.Proofs.YtnfjjliiajaijaaDoor
namespace Go.Proofs.YtnfjjliiajaijaaDoor
open Go.RowKit

def readsL (x : NodeD) : List Int := if x.op = 2 ∨ x.op = 5 ∨ x.op = 7 ∨ x.op = 9 ∨ x.op = 12 ∨ x.op = 14 ∨ x.op = 17 ∨ x.op = 18 then onceL [x.a] else if x.op = 3 ∨ x.op = 8 then onceL [x.a, x.b] else if x.op = 11 ∨ x.op = 13 then onceL x.args else []
def writesL (x : NodeD) : List Int := if x.op = 1 ∨ x.op = 2 ∨ x.op = 3 ∨ x.op = 4 ∨ x.op = 6 ∨ x.op = 7 ∨ x.op = 11 ∨ x.op = 16 then onceL [x.d] else if x.op = 15 then onceL [x.d, x.e] else []
theorem writes_any (w : World) (x : NodeD) (av : Value) :
  Calls Tryd.prog 35 #[.agg (ncells x av).toArray] w fun e w' => (∃ v, e = .returned v ∧ Lst w' v (writesL x)) ∧ Below w.heap.size w w' := by
 obtain ⟨N, hN⟩ : ∃ N, writesL x = N := ⟨_, rfl⟩
 rw [hN]
 unfold writesL at hN
 obtain ⟨op, byo, d, e_, a, b, f, cell, imm, args, next, els⟩ := x
 simp only at hN
 simp only [ncells]
 obtain ⟨G, hG⟩ : ∃ G, G = w.heap.size := ⟨_, rfl⟩
 have hP := Blk.new w 55 #[.int .u8 op, .int .u8 byo, .int .i64 d, .int .i64 e_, .int .i64 a, .int .i64 b, .int .i64 f, .int .i64 cell, .int .u64 imm, av, .int .i64 next, .int .i64 els]
 have hb := (Below.refl w.heap.size w).alloc (Nat.le_refl _) (.cells #[.int .u8 op, .int .u8 byo, .int .i64 d, .int .i64 e_, .int .i64 a, .int .i64 b, .int .i64 f, .int .i64 cell, .int .u64 imm, av, .int .i64 next, .int .i64 els] 55)
 rw [← hG] at hP
 have kp0 := Blk.cell hP 0
 have kp2 := Blk.cell hP 2
 have kp3 := Blk.cell hP 3
 simp only [List.getElem?_toArray, List.getElem?_cons_zero, List.getElem?_cons_succ] at kp0 kp2 kp3
 obtain ⟨V, hV⟩ : ∃ V, V = w.alloc (.cells #[.int .u8 op, .int .u8 byo, .int .i64 d, .int .i64 e_, .int .i64 a, .int .i64 b, .int .i64 f, .int .i64 cell, .int .u64 imm, av, .int .i64 next, .int .i64 els] 55) := ⟨_, rfl⟩
 rw [← hV] at hb hP kp0 kp2 kp3
 obtain ⟨Hb, HP, HV, HG⟩ := hd4 hb hP hV hG
 clear hG hV hP hb
 by_cases e1 : op = 1 ∨ op = 2 ∨ op = 3 ∨ op = 4 ∨ op = 6 ∨ op = 7 ∨ op = 11 ∨ op = 16
 ·rw [if_pos e1] at hN
  subst hN
  rcases e1 with e | e | e | e | e | e | e | e
  all_goals
   subst e
   go_enter Tryd.func35, Tryd.ntmps35
   go_upto_region 1 with fail
   rw [← HV.out, ← HG.out]
   go_wp2_with fail
   refine (once_any _ (V.heap.size + 1) (by simp) (some ⟨V.heap.size, 0, none⟩) 1 1 [d] (Reads.newL' V 3 [d] rfl rfl rfl) rfl (by omega)).mono ?_
   rintro e w1 ⟨⟨v, rfl, hL⟩, hb1⟩
   have hfin := Hb.out.trans (((Below.refl V.heap.size V).alloc (Nat.le_refl _) (.cells #[.int .i64 d] 3)).trans (hb1.mono (by simp)) |>.mono Hb.out.size)
   obtain ⟨HL, Hfin⟩ := hd2 hL hfin
   clear hfin hL
   clear hb1
   go_wp2_with fail
   go_ret
   exact ⟨⟨_, rfl, HL.out⟩, Hfin.out⟩
 rw [if_neg e1] at hN
 by_cases e2 : op = 15
 ·rw [if_pos e2] at hN
  subst hN
  have He1 := Lib.hid e1
  clear e1
  subst e2
  go_enter Tryd.func35, Tryd.ntmps35
  go_upto_region 1 with fail
  rw [← HV.out, ← HG.out]
  go_wp2_with fail
  refine (once_any _ (V.heap.size + 1) (by simp) (some ⟨V.heap.size, 0, none⟩) 2 2 [d, e_] (Reads.newL' V 3 [d, e_] rfl rfl rfl) rfl (by omega)).mono ?_
  rintro e w1 ⟨⟨v, rfl, hL⟩, hb1⟩
  have hfin := Hb.out.trans (((Below.refl V.heap.size V).alloc (Nat.le_refl _) (.cells #[.int .i64 d, .int .i64 e_] 3)).trans (hb1.mono (by simp)) |>.mono Hb.out.size)
  obtain ⟨HL, Hfin⟩ := hd2 hL hfin
  clear hfin hL
  clear hb1
  go_wp2_with fail
  go_ret
  exact ⟨⟨_, rfl, HL.out⟩, Hfin.out⟩
 rw [if_neg e2] at hN
 subst hN
 have x1 : (op == 1) = false := by rw [beq_eq_false_iff_ne]; omega
 have x2 : (op == 2) = false := by rw [beq_eq_false_iff_ne]; omega
 have x3 : (op == 3) = false := by rw [beq_eq_false_iff_ne]; omega
 have x4 : (op == 4) = false := by rw [beq_eq_false_iff_ne]; omega
 have x6 : (op == 6) = false := by rw [beq_eq_false_iff_ne]; omega
 have x7 : (op == 7) = false := by rw [beq_eq_false_iff_ne]; omega
 have x11 : (op == 11) = false := by rw [beq_eq_false_iff_ne]; omega
 have x15 : (op == 15) = false := by rw [beq_eq_false_iff_ne]; omega
 have x16 : (op == 16) = false := by rw [beq_eq_false_iff_ne]; omega
 obtain ⟨He1, He2⟩ := hd2 e1 e2
 clear e2 e1
 go_enter Tryd.func35, Tryd.ntmps35
 go_upto_region 1 with fail
 rw [← HV.out, ← HG.out]
 go_wp2_with fail
 go_ret
 exact ⟨⟨_, rfl, Lst.nil _⟩, Hb.out⟩
end Go.Proofs.YtnfjjliiajaijaaDoor
namespace Go.Proofs.YtnfjjliiajaijaaDoor
open Go.RowKit

theorem infoKindr : (Tryd.prog.info? 87).map (fun i => (i.zero, i.size, i.bytes)) = some (some (.int .u8 0), 1, 1) := by kernel_rfl
theorem infoNode : (Tryd.prog.info? 55).map (fun i => (i.zero, i.size, i.bytes)) = some (some (.agg #[.int .u8 0, .int .u8 0, .int .i64 0, .int .i64 0, .int .i64 0, .int .i64 0, .int .i64 0, .int .i64 0, .int .u64 0, .slice none 0 0, .int .i64 0, .int .i64 0]), 12, 104) := by kernel_rfl
theorem infoGraph : (Tryd.prog.info? 44).map (fun i => (i.zero, i.size, i.bytes)) = some (some (.agg #[.slice none 0 0, .slice none 0 0, .int .i64 0, .slice none 0 0, .bool false, .int .i64 0, .slice none 0 0, .int .i64 0]), 8, 128) := by kernel_rfl
/-- numbers in a row of the call's own -/
abbrev IntsOwn (w : World) (base : Nat) (v : Value) (l : List Int) : Prop := w.ownsRow base 3 1 v l.length (l.map (Value.int .i64))
abbrev KindsOwn (w : World) (base : Nat) (v : Value) (l : List Int) : Prop := w.ownsRow base 87 1 v l.length (l.map (Value.int .u8))
/-- nodes in a row of the call's own; the first so many have rows of their own -/
def NodesMid (w : World) (base B i : Nat) (v : Value) (l : List NodeD) : Prop :=
 ∃ css : List (List Value), css.length = l.length ∧ w.ownsRow base 55 12 v l.length css.flatten ∧ ∀ (k : Nat) x, l[k]? = some x → ∃ av, css[k]? = some (ncells x av) ∧ (k < i → IntsOwn w base av x.args) ∧ (i ≤ k → NumsAt .i64 w B av x.args)
def NodesOwn (w : World) (base : Nat) (v : Value) (l : List NodeD) : Prop :=
 ∃ css : List (List Value), css.length = l.length ∧ w.ownsRow base 55 12 v l.length css.flatten ∧ ∀ (k : Nat) x, l[k]? = some x → ∃ av, css[k]? = some (ncells x av) ∧ IntsOwn w base av x.args
def GraphOwn (w : World) (base : Nat) (cs : List Value) (g : GraphD) : Prop :=
 ∃ pv kv iv nv, cs = gcells g pv kv iv nv ∧ IntsOwn w base pv g.params ∧ KindsOwn w base kv g.kinds ∧ IntsOwn w base iv g.init ∧ NodesOwn w base nv g.nodes
def GsOwn (w : World) (base : Nat) (css : List (List Value)) (gs : List GraphD) : Prop :=
 css.length = gs.length ∧ ∀ (i : Nat) g, gs[i]? = some g → ∃ cs, css[i]? = some cs ∧ GraphOwn w base cs g
section
variable {w w' : World} {base B i : Nat} {v : Value} {row : Option Nat}
/-- what a change may touch: new blocks, or one that is of another type -/
def Far (w : World) (row : Option Nat) : Prop := ∀ g, row = some g → w.heap.size ≤ g ∨ ∃ t cs, Blk w g t cs ∧ t ≠ 3 ∧ t ≠ 87 ∧ t ≠ 55
theorem Far.none_ (w : World) : Far w none := nofun
theorem Far.blk {g : Nat} {t : TypeId} {cs : Array Value} (h : Blk w g t cs) (h1 : t ≠ 3) (h2 : t ≠ 87) (h3 : t ≠ 55) : Far w (some g) := fun k e => by
 injection e with e; subst e; exact .inr ⟨t, cs, h, h1, h2, h3⟩
theorem IntsOwn.kept {l : List Int} (h : IntsOwn w base v l) (hg : w.grownBy w' row) (hr : Far w row) : IntsOwn w' base v l :=
 own_kept' h hg fun g e => (hr g e).imp id fun ⟨t, cs, a, b, _⟩ => ⟨t, cs, a, b⟩
theorem KindsOwn.kept {l : List Int} (h : KindsOwn w base v l) (hg : w.grownBy w' row) (hr : Far w row) : KindsOwn w' base v l :=
 own_kept' h hg fun g e => (hr g e).imp id fun ⟨t, cs, a, _, b, _⟩ => ⟨t, cs, a, b⟩
theorem NodesOwn.kept {l : List NodeD} (h : NodesOwn w base v l) (hg : w.grownBy w' row) (hr : Far w row) : NodesOwn w' base v l := by
 obtain ⟨css, h1, h2, h3⟩ := h
 refine ⟨css, h1, own_kept' h2 hg fun g e => (hr g e).imp id fun ⟨t, cs, a, _, _, b⟩ => ⟨t, cs, a, b⟩, fun k x hx => ?_⟩
 obtain ⟨av, q1, q2⟩ := h3 k x hx
 exact ⟨av, q1, IntsOwn.kept q2 hg hr⟩
theorem GraphOwn.kept {cs : List Value} {g : GraphD} (h : GraphOwn w base cs g) (hg : w.grownBy w' row) (hr : Far w row) : GraphOwn w' base cs g := by
 obtain ⟨pv, kv, iv, nv, h1, h2, h3, h4, h5⟩ := h
 exact ⟨pv, kv, iv, nv, h1, IntsOwn.kept h2 hg hr, KindsOwn.kept h3 hg hr, IntsOwn.kept h4 hg hr, NodesOwn.kept h5 hg hr⟩
theorem GsOwn.kept {css : List (List Value)} {gs : List GraphD} (h : GsOwn w base css gs) (hg : w.grownBy w' row) (hr : Far w row) : GsOwn w' base css gs :=
 ⟨h.1, fun i g hi => by
  obtain ⟨cs, h1, h2⟩ := h.2 i g hi
  exact ⟨cs, h1, h2.kept hg hr⟩⟩
theorem GsOwn.nil (w : World) (base : Nat) : GsOwn w base [] [] := ⟨rfl, by intro i f hf; simp at hf⟩
theorem GsOwn.snoc {css : List (List Value)} {gs : List GraphD} {cs : List Value} {g : GraphD} (h : GsOwn w base css gs) (hc : GraphOwn w base cs g) : GsOwn w base (css ++ [cs]) (gs ++ [g]) := by
 refine ⟨by simp [h.1], fun i f hf => ?_⟩
 rcases Nat.lt_or_ge i gs.length with hi | hi
 ·rw [List.getElem?_append_left hi] at hf
  obtain ⟨cs', k1, k2⟩ := h.2 i f hf
  exact ⟨cs', by rw [List.getElem?_append_left (by rw [h.1]; exact hi)]; exact k1, k2⟩
 ·rw [List.getElem?_append_right hi] at hf
  have h0 : i - gs.length = 0 := by
   have := (List.getElem?_eq_some_iff.1 hf).1
   simp at this; omega
  rw [h0] at hf
  simp only [List.getElem?_cons_zero, Option.some.injEq] at hf
  subst hf
  exact ⟨cs, by rw [List.getElem?_append_right (by rw [h.1]; exact hi), h.1, h0]; rfl, hc⟩
theorem IntsOwn.nums {l : List Int} (h : IntsOwn w base v l) : NumsAt .i64 w w.heap.size v l := by
 obtain ⟨A, c, rfl, h1, h2, h3⟩ := own_any h
 exact ⟨A, _, c, rfl, h1, h2, rfl, h3⟩
theorem KindsOwn.nums {l : List Int} (h : KindsOwn w base v l) : NumsAt .u8 w w.heap.size v l := by
 obtain ⟨A, c, rfl, h1, h2, h3⟩ := own_any h
 exact ⟨A, _, c, rfl, h1, h2, rfl, h3⟩
theorem ncells_len {css : List (List Value)} {l : List NodeD} {P : Nat → NodeD → Value → Prop} (hl : css.length = l.length) (h : ∀ (k : Nat) x, l[k]? = some x → ∃ av, css[k]? = some (ncells x av) ∧ P k x av) : ∀ c ∈ css, c.length = 12 := fun c hc => by
 obtain ⟨k, hk, rfl⟩ := List.getElem_of_mem hc
 obtain ⟨av, q, _⟩ := h k l[k] (List.getElem?_eq_getElem (by omega))
 rw [List.getElem?_eq_getElem hk] at q
 injection q with q
 rw [q]; rfl
theorem NodesOwn.at_ {l : List NodeD} (h : NodesOwn w base v l) : RowsAt 12 NodeAt w w.heap.size v l := by
 obtain ⟨css, h1, h2, h3⟩ := h
 obtain ⟨A, c, rfl, k1, k2, k3⟩ := own_any h2
 refine ⟨A, _, c, css, rfl, k1, k2, rfl, h1, ncells_len h1 h3, k3, fun i x hx => ?_⟩
 obtain ⟨av, q1, q2⟩ := h3 i x hx
 exact ⟨_, q1, av, rfl, IntsOwn.nums q2⟩
theorem GraphOwn.at_ {cs : List Value} {g : GraphD} (h : GraphOwn w base cs g) : GraphAt w w.heap.size cs g := by
 obtain ⟨pv, kv, iv, nv, h1, h2, h3, h4, h5⟩ := h
 exact ⟨pv, kv, iv, nv, h1, IntsOwn.nums h2, KindsOwn.nums h3, IntsOwn.nums h4, h5.at_⟩
theorem GraphOwn.len {cs : List Value} {g : GraphD} (h : GraphOwn w base cs g) : cs.length = 8 := by
 obtain ⟨pv, kv, iv, nv, rfl, _⟩ := h
 rfl
theorem GsOwn.len {css : List (List Value)} {gs : List GraphD} (h : GsOwn w base css gs) : ∀ c ∈ css, c.length = 8 := fun c hc => by
 obtain ⟨k, hk, rfl⟩ := List.getElem_of_mem hc
 have hk' : k < gs.length := by rw [← h.1]; exact hk
 obtain ⟨cs, q1, q2⟩ := h.2 k gs[k] (List.getElem?_eq_getElem hk')
 rw [List.getElem?_eq_getElem hk] at q1
 injection q1 with q1
 rw [q1]; exact q2.len
theorem GsOwn.at_ {css : List (List Value)} {gs : List GraphD} {base' : Nat} {e : TypeId} (h : GsOwn w base css gs) (ho : w.ownsRow base' e 8 v gs.length css.flatten) : GraphsAt w w.heap.size v gs := by
 obtain ⟨A, c, rfl, h1, h2, h3⟩ := own_any ho
 exact ⟨A, _, c, css, rfl, h1, h2, rfl, h.1, h.len, h3, fun i f hf => by
  obtain ⟨cs, k1, k2⟩ := h.2 i f hf
  exact ⟨cs, k1, k2.at_⟩⟩
end
/-- within the reach -/
structure GsSmall (gs : List GraphD) : Prop where
 each : ∀ g ∈ gs, g.params.length * 8 ≤ 140737488351232 ∧ g.kinds.length ≤ 140737488351232 ∧ g.init.length * 8 ≤ 140737488351232 ∧ g.nodes.length * 104 ≤ 140737488351232 ∧ ∀ x ∈ g.nodes, x.args.length * 8 ≤ 140737488351232
 len : gs.length * 128 ≤ 140737488351232
/-- what a copy leaves -/
def CopyPost (gs : List GraphD) (w : World) (e : Ending) (w' : World) : Prop :=
 Below w.heap.size w w' ∧ ∃ pv css, e = .returned (.agg #[pv]) ∧ w'.ownsRow w.heap.size 44 8 pv gs.length css.flatten ∧ GsOwn w' w.heap.size css gs
/-- what stands when so many graphs are copied -/
def CopyRel (w : World) (T U : Nat) (gs : List GraphD) (j : Nat) (wr : World) : Prop :=
 ∃ (css : List (List Value)) (pv : Value), wr.ownsRow w.heap.size 44 8 pv j css.flatten ∧ GsOwn wr w.heap.size css (gs.take j) ∧ Blk wr T 24 #[pv] ∧ Blk wr U 24 #[.slice none 0 0] ∧ Below w.heap.size w wr
/-- a node's row turned: its arguments' cell -/
theorem flatten_set12 : ∀ (css : List (List Value)) (k : Nat) (x : NodeD) (av u : Value), (∀ c ∈ css, c.length = 12) → css[k]? = some (ncells x av) → (css.flatten).set (k * 12 + 9) u = (css.set k (ncells x u)).flatten
 | [], k, x, av, u, _, h => by simp at h
 | c :: r, 0, x, av, u, hl, h => by
  simp at h; subst h
  rw [List.set_cons_zero, List.flatten_cons, List.flatten_cons, Nat.zero_mul, Nat.zero_add]
  rw [List.set_append_left _ _ (by simp [ncells])]
  rfl
 | c :: r, k + 1, x, av, u, hl, h => by
  have hc := hl c List.mem_cons_self
  have ih := flatten_set12 r k x av u (fun d hd => hl d (List.mem_cons_of_mem _ hd)) (by simpa using h)
  rw [List.set_cons_succ, List.flatten_cons, List.flatten_cons, ← ih]
  rw [List.set_append_right _ _ (by rw [hc]; omega)]
  congr 2
  rw [hc]; omega
end Go.Proofs.YtnfjjliiajaijaaDoor
