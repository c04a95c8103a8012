/- Walk of the checker's question whether a graph is right but for its nodes. Conditions: the checker lies in memory. -/
import Derived.Test.YtncpehhfjkncoaaIrArgs
set_option linter.unusedVariables false
set_option linter.unusedSimpArgs false
namespace Go.Proofs.Ytncpehhfjkncoaa
open Go.RowKit

def parB (g : GraphD) (bound : Bool) (i : Nat) : Bool :=
  !(decide (g.params.getD i 0 < 0) || decide ((g.kinds.length : Int) ≤ g.params.getD i 0) || decide (g.params.getD i 0 ∈ g.params.take i) || (bound && decide (g.params.getD i 0 ≠ i))) &&
  !(decide (g.init.getD i 0 ≠ -1) && (!cellB g (g.init.getD i 0) || !isB g bound 0 [g.params.getD i 0]))
def head1 (g : GraphD) (bound : Bool) : Bool := decide (1024 < g.kinds.length) || (bound && decide (g.kinds.length < 16)) || g.kinds.any fun k => decide (1 < k)
def head2 (g : GraphD) : Bool := decide (4 < g.params.length) || decide (g.init.length ≠ g.params.length) || decide (g.cells < 0) || decide (64 < g.cells) || (decide (g.keep ≠ -1) && !cellB g g.keep)
def head3 (g : GraphD) : Bool := decide (0 < g.nodes.length) && decide (g.nodes.length ≤ 4096) && decide (0 ≤ g.entry) && decide (g.entry < g.nodes.length)
def headB (g : GraphD) (bound : Bool) : Bool := !head1 g bound && !head2 g && ((List.range g.params.length).all (parB g bound)) && head3 g
set_option maxRecDepth 100000 in
set_option maxHeartbeats 8000000 in
theorem head_any {w : World} {B cb : Nat} {allv : Value} {gs : List GraphD} {ga : Addr} {g : GraphD} {pv kv iv nv : Value} {bound : Bool} (h : Ck w B cb allv gs ga g pv kv iv nv bound) (hkm : g.kinds.length ≤ 140737488351232) :
    Calls Try.prog 18 #[.pointer (some ⟨cb, 0, none⟩)] w fun e w' => e = .returned (.bool (headB g bound)) ∧ Below w.heap.size w w' := by
  obtain ⟨r, hr⟩ : ∃ r, headB g bound = r := ⟨_, rfl⟩
  rw [hr]
  unfold headB at hr
  obtain ⟨PA, pc, rfl, hPc, _, hPR⟩ := h.gm.params.slice
  obtain ⟨KA, kc, rfl, _, _, hKR⟩ := h.gm.kinds.slice
  obtain ⟨IA, ic, rfl, _, _, hIR⟩ := h.gm.init.slice
  obtain ⟨NA, nn, nc, css, rfl, _, _, hnn, _⟩ := h.gm.nodes
  obtain ⟨b2, hb2⟩ : ∃ b2, head1 g bound = b2 := ⟨_, rfl⟩
  obtain ⟨b4, hb4⟩ : ∃ b4, head2 g = b4 := ⟨_, rfl⟩
  obtain ⟨b15, hb15⟩ : ∃ b15, head3 g = b15 := ⟨_, rfl⟩
  rw [hb2, hb4, hb15] at hr
  obtain ⟨K, hK⟩ : ∃ K, g.kinds.length = K := ⟨_, rfl⟩
  obtain ⟨P, hP⟩ : ∃ P, g.params.length = P := ⟨_, rfl⟩
  obtain ⟨I, hI⟩ : ∃ I, g.init.length = I := ⟨_, rfl⟩
  have g0 := h.gm.c0
  have g1 := h.gm.c1
  have g2 := h.gm.c2
  have g3 := h.gm.c3
  have g5 := h.gm.c5
  rw [hP] at g0 hPR hr hPc
  rw [hK] at g1 hKR hkm
  rw [hI] at g3 hIR
  have kc1 := Blk.cell h.blk 1
  have kc2 := Blk.cell h.blk 2
  simp only [List.getElem?_toArray, List.getElem?_cons_zero, List.getElem?_cons_succ] at kc1 kc2
  unfold head1 at hb2
  unfold head2 at hb4
  rw [hK] at hb2
  rw [hP, hI] at hb4
  have H := Lib.hid h
  have Hr := Lib.hid hr
  have HPR := Lib.hid hPR
  have HKR := Lib.hid hKR
  have HIR := Lib.hid hIR
  have Hnn := Lib.hid hnn
  have Hb2 := Lib.hid hb2
  have Hb4 := Lib.hid hb4
  have Hb15 := Lib.hid hb15
  have HK := Lib.hid hK
  have HP := Lib.hid hP
  have HI := Lib.hid hI
  clear hI hP hK hb15 hb4 hb2 hnn hIR hKR hPR hr h
  go_enter Try.func18, Try.ntmps18
  go_upto_region 2 with fail
  go_cut [37] (fun t wx => t = .bool b2 ∧ w = wx)
  case first =>
    have hb := Hb2.out
    by_cases c1 : 1024 < K
    · have c1' : (1024 : Int) < K := by omega
      have hs : b2 = true := by rw [← hb]; simp [c1]
      have Hs := Lib.hid hs
      have Hb := Lib.hid hb
      clear hb hs
      go_wp2_with fail
      go_meet
      exact ⟨by rw [Hs.out], rfl⟩
    · have c1' : ¬ (1024 : Int) < K := by omega
      have hany : ∀ {b : Bool}, (bound && decide (K < 16)) = b → (b || g.kinds.any fun k => decide (1 < k)) = b2 := fun {b} e => by rw [← hb, ← e]; simp [c1]
      clear c1
      cases bound
      · have hs := hany (b := false) rfl
        rw [Bool.false_or] at hs
        have Hs := Lib.hid hs
        have Hb := Lib.hid hb
        clear hb hs
        clear hany
        go_wp2_with fail
        refine (containsFunc_any w B KA K kc g.kinds HKR.out HK.out hkm).mono ?_
        rintro e w1 ⟨rfl, rfl⟩
        rw [Hs.out]
        go_wp2_with fail
        go_meet
        exact ⟨rfl, rfl⟩
      · by_cases c2 : K < 16
        · have c2' : (K : Int) < 16 := by omega
          have hs := hany (b := true) (by simp [c2])
          rw [Bool.true_or] at hs
          have Hs := Lib.hid hs
          have Hb := Lib.hid hb
          clear hb hs
          clear hany
          go_wp2_with fail
          go_meet
          exact ⟨by rw [← Hs.out], rfl⟩
        · have c2' : ¬ (K : Int) < 16 := by omega
          have hs := hany (b := false) (by simp [c2])
          rw [Bool.false_or] at hs
          have Hs := Lib.hid hs
          have Hb := Lib.hid hb
          clear hb hs
          clear hany
          go_wp2_with fail
          refine (containsFunc_any w B KA K kc g.kinds HKR.out HK.out hkm).mono ?_
          rintro e w1 ⟨rfl, rfl⟩
          rw [Hs.out]
          go_wp2_with fail
          go_meet
          exact ⟨rfl, rfl⟩
  case rest =>
    obtain ⟨rfl, hwc⟩ := hcut
    subst hwc
    cases b2
    case true =>
      have hs : r = false := by rw [← Hr.out]; rfl
      have Hs := Lib.hid hs
      clear hs
      go_wp2_with fail
      go_ret
      rw [Hs.out]
      exact ⟨rfl, Below.refl _ _⟩
    case false =>
      have hrr := Hr.out
      rw [Bool.not_false, Bool.true_and] at hrr
      have Hrr := Lib.hid hrr
      clear hrr
      go_upto_region 4 with fail
      go_cut [86] (fun t wx => t = .bool b4 ∧ ∃ d, wx = w.drewN d)
      case first =>
        have hb := Hb4.out
        by_cases c1 : 4 < P
        · have c1' : (4 : Int) < P := by omega
          have hs : b4 = true := by rw [← hb]; simp [c1]
          have Hs := Lib.hid hs
          have Hb := Lib.hid hb
          clear hb hs
          go_quiet (fail)
          go_wp2_with fail
          go_meet
          exact ⟨by rw [Hs.out], _, rfl⟩
        have c1' : ¬ (4 : Int) < P := by omega
        by_cases c2 : I = P
        case neg =>
          have c2' : ((I : Int) != P) = true := by simp; omega
          have hs : b4 = true := by rw [← hb]; simp [c2]
          have Hs := Lib.hid hs
          have Hb := Lib.hid hb
          clear hb hs
          go_quiet (fail)
          go_wp2_with fail
          go_meet
          exact ⟨by rw [Hs.out], _, rfl⟩
        have c2' : ((I : Int) != P) = false := by simp [c2]
        obtain ⟨C, hC⟩ : ∃ C, g.cells = C := ⟨_, rfl⟩
        rw [hC] at hb g2
        by_cases c3 : C < 0
        · have hs : b4 = true := by rw [← hb]; simp [c3]
          have Hs := Lib.hid hs
          have Hb := Lib.hid hb
          have Hc2 := Lib.hid c2
          clear c2 hb hs
          go_quiet (fail)
          go_wp2_with fail
          go_meet
          exact ⟨by rw [Hs.out], _, rfl⟩
        by_cases c4 : 64 < C
        · have hs : b4 = true := by rw [← hb]; simp [c4]
          have Hs := Lib.hid hs
          have Hb := Lib.hid hb
          have Hc2 := Lib.hid c2
          clear c2 hb hs
          go_quiet (fail)
          go_wp2_with fail
          go_meet
          exact ⟨by rw [Hs.out], _, rfl⟩
        obtain ⟨kp, hkp⟩ : ∃ kp, g.keep = kp := ⟨_, rfl⟩
        rw [hkp] at hb g5
        by_cases c5 : kp = -1
        · have c5' : (kp != -1) = false := by simp [c5]
          have hs : b4 = false := by rw [← hb]; simp [c1, c2, c3, c4, c5]
          have Hs := Lib.hid hs
          have Hb := Lib.hid hb
          have Hc2 := Lib.hid c2
          have Hc5 := Lib.hid c5
          clear c5 c2 hb hs
          go_quiet (fail)
          go_wp2_with fail
          go_meet
          exact ⟨by rw [Hs.out], _, rfl⟩
        · have c5' : (kp != -1) = true := by simp [c5]
          have hs : (!cellB g kp) = b4 := by rw [← hb]; simp [c1, c2, c3, c4, c5]
          have Hs := Lib.hid hs
          have Hb := Lib.hid hb
          have Hc2 := Lib.hid c2
          have Hc5 := Lib.hid c5
          clear c5 c2 hb hs
          go_quiet (first | (go_at_call 39; exact Calls.quiet_of_same ((cell_any (H.out.below (below_drewN (Below.refl _ w) _)) kp).mono fun _ _ h => ⟨h.1, h.2.symm⟩)))
          go_wp2_with fail
          go_meet
          exact ⟨by rw [← Hs.out], _, rfl⟩
      case rest =>
        obtain ⟨rfl, d0, hwc⟩ := hcut
        cases b4
        case true =>
          have hs : r = false := by rw [← Hrr.out]; rfl
          have Hs := Lib.hid hs
          clear hs
          go_wp2_with fail
          go_ret
          rw [Hs.out]
          exact ⟨rfl, by rw [hwc]; exact below_drewN (Below.refl _ _) _⟩
        case false =>
          have hr4 := Hrr.out
          rw [Bool.not_false, Bool.true_and] at hr4
          have hb4' := Hb4.out
          have hIP : I = P := by
            by_cases e : I = P
            · exact e
            · simp [e] at hb4'
          have hP4 : P ≤ 4 := by
            by_cases e : 4 < P
            · simp [e] at hb4'
            · omega
          subst hIP
          clear g0 g1 g2 g3 g5 kc1 kc2
          have hW : Below w.heap.size w wc := by rw [hwc]; exact below_drewN (Below.refl _ _) _
          have hD := H.out.below hW
          have hBw : B ≤ w.heap.size := by have := H.out.le; have := H.out.blk.lt; omega
          have hPR1 := HPR.out.below (hW.mono hBw)
          have hIR1 := HIR.out.below (hW.mono hBw)
          have g0 := hD.gm.c0
          have g1 := hD.gm.c1
          have g3 := hD.gm.c3
          rw [HP.out] at g0
          rw [HK.out] at g1
          rw [HI.out] at g3
          have kc1 := Blk.cell hD.blk 1
          have kc2 := Blk.cell hD.blk 2
          simp only [List.getElem?_toArray, List.getElem?_cons_zero, List.getElem?_cons_succ] at kc1 kc2
          have HD := Lib.hid hD
          have HW := Lib.hid hW
          have Hr4 := Lib.hid hr4
          have Hb4' := Lib.hid hb4'
          have HPR1 := Lib.hid hPR1
          have HIR1 := Lib.hid hIR1
          have Hwc := Lib.hid hwc
          clear hwc hIR1 hPR1 hb4' hr4 hW hD
          go_wp2_with fail
          clear g0 g1 g3 kc1 kc2
          go_loopw [92] (fun i wq => ∃ j : Nat, j ≤ I ∧ i = .int .i64 j ∧ Below wc.heap.size wc wq ∧ Hid (∀ k, k < j → parB g bound k = true)) (fun i _ => I - (intOf i).toNat)
          case atStart => exact ⟨0, by omega, rfl, Below.refl _ _, (show ∀ k, k < 0 → parB g bound k = true by omega)⟩
          case round =>
            obtain ⟨j, hj, rfl, hbq, hall⟩ := hrel
            have hBc : B ≤ wc.heap.size := by have := HD.out.le; have := HD.out.blk.lt; omega
            have hDq := HD.out.below hbq
            have g0 := hDq.gm.c0
            have g1 := hDq.gm.c1
            have g3 := hDq.gm.c3
            rw [HP.out] at g0
            rw [HK.out] at g1
            rw [HI.out] at g3
            have kc1 := Blk.cell hDq.blk 1
            have kc2 := Blk.cell hDq.blk 2
            simp only [List.getElem?_toArray, List.getElem?_cons_zero, List.getElem?_cons_succ] at kc1 kc2
            have hbnd := HW.out.trans (hbq.mono HW.out.size)
            by_cases hjm : j < I
            · have hPq := HPR1.out.below (hbq.mono hBc)
              have hIq := HIR1.out.below (hbq.mono hBc)
              obtain ⟨pad, pu, hPA, _, hpu, hpce⟩ := hPq.at_ hjm
              subst hPA
              obtain ⟨p, hpp, rfl⟩ : ∃ pp, g.params[j]? = some pp ∧ pu = .int .i64 pp := by
                rw [List.getElem?_map, Option.map_eq_some_iff] at hpu
                obtain ⟨x, h1, h2⟩ := hpu
                exact ⟨x, h1, h2.symm⟩
              obtain ⟨iad, iu, hIA, _, hiu, hice⟩ := hIq.at_ hjm
              subst hIA
              obtain ⟨k, hik, rfl⟩ : ∃ pp, g.init[j]? = some pp ∧ iu = .int .i64 pp := by
                rw [List.getElem?_map, Option.map_eq_some_iff] at hiu
                obtain ⟨x, h1, h2⟩ := hiu
                exact ⟨x, h1, h2.symm⟩
              have hpg : g.params.getD j 0 = p := by rw [List.getD_eq_getElem?_getD, hpp]; rfl
              have hig : g.init.getD j 0 = k := by rw [List.getD_eq_getElem?_getD, hik]; rfl
              obtain ⟨b9, hb9⟩ : ∃ b9, (decide (p < 0) || decide ((K : Int) ≤ p) || decide (p ∈ g.params.take j) || (bound && decide (p ≠ j))) = b9 := ⟨_, rfl⟩
              obtain ⟨b12, hb12⟩ : ∃ b12, (decide (k ≠ -1) && (!cellB g k || !isB g bound 0 [p])) = b12 := ⟨_, rfl⟩
              have hpar : parB g bound j = (!b9 && !b12) := by unfold parB; rw [hpg, hig, HK.out, hb9, hb12]
              have hRj : Reads wr B 1 (some pad) j ((g.params.take j).map (Value.int .i64)) := by
                refine ⟨by rw [List.length_map, List.length_take, HP.out]; omega, fun hn => ?_⟩
                obtain ⟨ad, e1, e2, e3⟩ := hPq.2 (by omega)
                refine ⟨ad, e1, e2, fun i u hu => e3 i u ?_⟩
                rw [List.getElem?_map, List.getElem?_take] at hu
                split at hu
                · rw [List.getElem?_map]; exact hu
                · cases hu
              have hlj : (g.params.take j).length = j := by rw [List.length_take, HP.out]; omega
              have hbad : parB g bound j = false → r = false := fun hf => by
                rw [← Hr4.out]
                rcases hq : (List.range I).all (parB g bound) with _ | _
                · rfl
                · rw [List.all_eq_true.1 hq j (List.mem_range.2 hjm)] at hf; cases hf
              have hstep : parB g bound j = true → ∀ i, i < j + 1 → parB g bound i = true := fun hf i hi => by
                by_cases e : i = j
                · rw [e]; exact hf
                · exact hall.out i (by omega)
              have hjI : (j : Int) < I := by omega
              clear hpu hiu
              have Hbq := Lib.hid hbq
              have Hall := Lib.hid hall
              have HDq := Lib.hid hDq
              have HPq := Lib.hid hPq
              have HIq := Lib.hid hIq
              have Hpp := Lib.hid hpp
              have Hik := Lib.hid hik
              have Hpg := Lib.hid hpg
              have Hig := Lib.hid hig
              have Hb9 := Lib.hid hb9
              have Hb12 := Lib.hid hb12
              have Hpar := Lib.hid hpar
              have HRj := Lib.hid hRj
              have Hlj := Lib.hid hlj
              have Hbad := Lib.hid hbad
              have Hstep := Lib.hid hstep
              have Hbnd := Lib.hid hbnd
              clear hbnd hstep hbad hlj hRj hpar hb12 hb9 hig hpg hik hpp hIq hPq hDq hall hbq
              go_upto_region 9 with fail
              go_cut [128] from 97 to 128 (fun t wx => t = .bool b9 ∧ wr = wx)
              case first =>
                have hb := Hb9.out
                by_cases c1 : p < 0
                · have hs : b9 = true := by rw [← hb]; simp [c1]
                  have Hs := Lib.hid hs
                  have Hb := Lib.hid hb
                  clear hb hs
                  go_wp2_with fail
                  go_meet
                  exact ⟨by rw [Hs.out], rfl⟩
                by_cases c2 : (K : Int) ≤ p
                · have hs : b9 = true := by rw [← hb]; simp [c2]
                  have Hs := Lib.hid hs
                  have Hb := Lib.hid hb
                  clear hb hs
                  go_wp2_with fail
                  go_meet
                  exact ⟨by rw [Hs.out], rfl⟩
                obtain ⟨bc, hbc⟩ : ∃ bc, decide (p ∈ g.params.take j) = bc := ⟨_, rfl⟩
                rw [hbc] at hb
                have hjI2 : (j : Int) ≤ I := by omega
                have hjpc : j ≤ pc := by omega
                have Hb := Lib.hid hb
                have Hbc := Lib.hid hbc
                clear hbc hb
                go_wp2_with fail
                refine (contains_any wr B (some pad) j pc (g.params.take j) HRj.out Hlj.out (by omega) p).mono ?_
                rintro e w1 ⟨rfl, rfl⟩
                rw [Hbc.out]
                have hb := Hb.out
                cases bc
                · cases bound
                  · have hs : b9 = false := by rw [← hb]; simp [c1, c2]
                    have Hs := Lib.hid hs
                    have Hb := Lib.hid hb
                    clear hb hs
                    go_wp2_with fail
                    go_meet
                    exact ⟨by rw [Hs.out], rfl⟩
                  · by_cases c3 : p = j
                    · have c3' : (p != (j : Int)) = false := by simp [c3]
                      have hs : b9 = false := by rw [← hb]; simp [c1, c2, c3]; omega
                      have Hs := Lib.hid hs
                      have Hb := Lib.hid hb
                      have Hc3 := Lib.hid c3
                      clear c3 hb hs
                      go_wp2_with fail
                      go_meet
                      exact ⟨by rw [Hs.out], rfl⟩
                    · have c3' : (p != (j : Int)) = true := by simp [c3]
                      have hs : b9 = true := by rw [← hb]; simp [c3]
                      have Hs := Lib.hid hs
                      have Hb := Lib.hid hb
                      have Hc3 := Lib.hid c3
                      clear c3 hb hs
                      go_wp2_with fail
                      go_meet
                      exact ⟨by rw [Hs.out], rfl⟩
                · have hs : b9 = true := by rw [← hb]; simp
                  have Hs := Lib.hid hs
                  have Hb := Lib.hid hb
                  clear hb hs
                  go_wp2_with fail
                  go_meet
                  exact ⟨by rw [Hs.out], rfl⟩
              case rest =>
                obtain ⟨rfl, hwc2⟩ := hcut
                subst hwc2
                cases b9
                case true =>
                  have hs := Hbad.out (by rw [Hpar.out]; rfl)
                  have Hs := Lib.hid hs
                  clear hs
                  go_wp2_with fail
                  go_ret
                  rw [Hs.out]
                  exact ⟨rfl, Hbnd.out⟩
                case false =>
                  go_upto_region 12 with fail
                  go_cut [150] from 136 to 150 (fun t wx => t = .bool b12 ∧ Below wr.heap.size wr wx)
                  case first =>
                    have hb := Hb12.out
                    by_cases c1 : k = -1
                    · have c1' : (k != -1) = false := by simp [c1]
                      have hs : b12 = false := by rw [← hb]; simp [c1]
                      have Hs := Lib.hid hs
                      have Hb := Lib.hid hb
                      have Hc1 := Lib.hid c1
                      clear c1 hb hs
                      go_wp2_with fail
                      go_meet
                      exact ⟨by rw [Hs.out], Below.refl _ _⟩
                    · have c1' : (k != -1) = true := by simp [c1]
                      have hb' : (!cellB g k || !isB g bound 0 [p]) = b12 := by rw [← hb]; simp [c1]
                      obtain ⟨bc, hbc⟩ : ∃ bc, cellB g k = bc := ⟨_, rfl⟩
                      obtain ⟨bi, hbi⟩ : ∃ bi, isB g bound 0 [p] = bi := ⟨_, rfl⟩
                      rw [hbc, hbi] at hb'
                      have Hb := Lib.hid hb
                      have Hb' := Lib.hid hb'
                      have Hc1 := Lib.hid c1
                      have Hbc := Lib.hid hbc
                      have Hbi := Lib.hid hbi
                      clear hbi hbc c1 hb' hb
                      go_wp2_with fail
                      refine (cell_any HDq.out k).mono ?_
                      rintro e w1 ⟨rfl, rfl⟩
                      rw [Hbc.out]
                      have hb' := Hb'.out
                      cases bc
                      · have hs : b12 = true := by rw [← hb']; rfl
                        have Hs := Lib.hid hs
                        have HB2 := Lib.hid hb'
                        clear hb' hs
                        go_wp2_with fail
                        go_meet
                        exact ⟨by rw [Hs.out], Below.refl _ _⟩
                      · have hs : (!bi) = b12 := by rw [← hb']; rfl
                        have Hs := Lib.hid hs
                        have HB2 := Lib.hid hb'
                        clear hb' hs
                        have hal := (Below.refl wr.heap.size wr).alloc (Nat.le_refl _) (.cells #[.int .i64 p] 3)
                        have hDal := HDq.out.below hal
                        have Hal := Lib.hid hal
                        have HDal := Lib.hid hDal
                        clear hDal hal
                        go_wp2_with fail
                        refine (is_any HDal.out 0 (wr.heap.size + 1) (some ⟨wr.heap.size, 0, none⟩) 1 1 [p] (Reads.new1 _ _ _) rfl (by omega)).mono ?_
                        rintro e w1 ⟨rfl, rfl⟩
                        rw [Hbi.out]
                        go_wp2_with fail
                        go_meet
                        exact ⟨by rw [Hs.out], Hal.out⟩
                  case rest =>
                    obtain ⟨rfl, hb8⟩ := hcut
                    have hbe := Hbq.out.trans (hb8.mono Hbq.out.size)
                    have hbe2 := Hbnd.out.trans (hb8.mono Hbnd.out.size)
                    cases b12
                    case true =>
                      have hs := Hbad.out (by rw [Hpar.out]; rfl)
                      have Hs := Lib.hid hs
                      have Hbe := Lib.hid hbe
                      have Hbe2 := Lib.hid hbe2
                      clear hbe2 hbe hs
                      go_wp2_with fail
                      go_ret
                      rw [Hs.out]
                      exact ⟨rfl, Hbe2.out⟩
                    case false =>
                      have hs := Hstep.out (by rw [Hpar.out]; rfl)
                      have Hs := Lib.hid hs
                      have Hbe := Lib.hid hbe
                      have Hbe2 := Lib.hid hbe2
                      clear hbe2 hbe hs
                      go_wp2_with fail
                      exact ⟨⟨j + 1, by omega, by go_num, Hbe.out, Lib.hid Hs.out⟩, by simp [intOf]; omega⟩
            · have hr5 : b15 = r := by
                have h1 := Hr4.out
                rw [List.all_eq_true.2 (fun k hk => hall.out k (by have := List.mem_range.1 hk; omega)), Bool.true_and] at h1
                exact h1
              have hb15' := Hb15.out
              unfold head3 at hb15'
              have g6 := hDq.gm.c6
              have g7 := hDq.gm.c7
              obtain ⟨en, hen⟩ : ∃ en, g.entry = en := ⟨_, rfl⟩
              rw [hen] at g7 hb15'
              rw [Hnn.out] at hb15'
              have hcase : (nn = 0 ∧ b15 = false) ∨ (0 < nn ∧ 4096 < nn ∧ b15 = false) ∨ (0 < nn ∧ nn ≤ 4096 ∧ en < 0 ∧ b15 = false) ∨ (0 < nn ∧ nn ≤ 4096 ∧ 0 ≤ en ∧ (nn : Int) ≤ en ∧ b15 = false) ∨ (0 < nn ∧ nn ≤ 4096 ∧ 0 ≤ en ∧ en < nn ∧ b15 = true) := by
                rw [← hb15']
                by_cases d1 : 0 < nn
                · by_cases d2 : nn ≤ 4096
                  · by_cases d3 : 0 ≤ en
                    · by_cases d4 : en < nn
                      · exact .inr (.inr (.inr (.inr ⟨d1, d2, d3, d4, by simp [d1, d2, d3, d4]⟩)))
                      · exact .inr (.inr (.inr (.inl ⟨d1, d2, d3, by omega, by simp [d4]⟩)))
                    · exact .inr (.inr (.inl ⟨d1, d2, by omega, by simp [d3]⟩))
                  · exact .inr (.inl ⟨d1, by omega, by simp [d2]⟩)
                · exact .inl ⟨by omega, by simp [d1]⟩
              have Hr5 := Lib.hid hr5
              have Hb15' := Lib.hid hb15'
              have Hall := Lib.hid hall
              have Hbq := Lib.hid hbq
              have HDq := Lib.hid hDq
              have Hbnd := Lib.hid hbnd
              have Hen := Lib.hid hen
              clear hen hbnd hDq hbq hall hb15' hr5
              go_upto_region 15 with fail
              rcases hcase with ⟨d1, hs⟩ | ⟨d1, d2, hs⟩ | ⟨d1, d2, d3, hs⟩ | ⟨d1, d2, d3, d4, hs⟩ | ⟨d1, d2, d3, d4, hs⟩
              · have hD1 : ¬ (0 : Int) < nn := by omega
                have hD2 : ¬ 0 < nn := by omega
                have Hs := Lib.hid hs
                clear hs
                clear d1
                go_quiet (fail)
                go_wp2_with fail
                go_ret
                rw [← Hr5.out, Hs.out]
                exact ⟨rfl, below_drewN Hbnd.out _⟩
              · have hD1 : ¬ (nn : Int) ≤ 4096 := by omega
                have hD2 : 0 < nn := by omega
                have Hs := Lib.hid hs
                clear hs
                clear d1
                go_quiet (fail)
                go_wp2_with fail
                go_ret
                rw [← Hr5.out, Hs.out]
                exact ⟨rfl, below_drewN Hbnd.out _⟩
              · have hD1 : (nn : Int) ≤ 4096 ∧ ¬ 0 ≤ en := by omega
                have hD2 : 0 < nn := by omega
                have Hs := Lib.hid hs
                clear hs
                clear d1
                go_quiet (fail)
                go_wp2_with fail
                go_ret
                rw [← Hr5.out, Hs.out]
                exact ⟨rfl, below_drewN Hbnd.out _⟩
              · have hD1 : (nn : Int) ≤ 4096 ∧ 0 ≤ en ∧ ¬ en < nn := by omega
                have hD2 : 0 < nn := by omega
                have Hs := Lib.hid hs
                clear hs
                clear d1
                go_quiet (fail)
                go_wp2_with fail
                go_ret
                rw [← Hr5.out, Hs.out]
                exact ⟨rfl, below_drewN Hbnd.out _⟩
              · have hD1 : (nn : Int) ≤ 4096 ∧ 0 ≤ en ∧ en < nn := by omega
                have hD2 : 0 < nn := by omega
                have Hs := Lib.hid hs
                clear hs
                clear d1
                go_quiet (fail)
                go_wp2_with fail
                go_ret
                rw [← Hr5.out, Hs.out]
                exact ⟨rfl, below_drewN Hbnd.out _⟩
end Go.Proofs.Ytncpehhfjkncoaa
