/- Walk of the document's Same. Conditions: both lists of graphs lie in memory. -/
import Derived.Test.YtfjalejlbegkeaaIrSame
import Derived.Test.YtfjalejlbegkeaaIrRight
import Derived.Deep.RegionHeld3
import Derived.Deep.DeepCutAuto
set_option linter.unusedVariables false
set_option linter.unusedSimpArgs false
namespace Go.Proofs.Ytfjalejlbegkeaa
open Go.RowKit

theorem GraphM.row {w : World} {B : Nat} {ga : Addr} {g : GraphD} {pv kv iv nv : Value} (h : GraphM w B ga g pv kv iv nv) (j : Nat) (u : Value) (hj : 0 < j) (hu : (gcells g pv kv iv nv)[j]? = some u) : w.cell? ⟨ga.block, ga.off + j, none⟩ = some u := by
  match j, hu with
  | 1, hu => simp [gcells] at hu; subst hu; exact h.c1
  | 2, hu => simp [gcells] at hu; subst hu; exact h.c2
  | 3, hu => simp [gcells] at hu; subst hu; exact h.c3
  | 4, hu => simp [gcells] at hu; subst hu; exact h.c4
  | 5, hu => simp [gcells] at hu; subst hu; exact h.c5
  | 6, hu => simp [gcells] at hu; subst hu; exact h.c6
  | 7, hu => simp [gcells] at hu; subst hu; exact h.c7
  | j + 8, hu => simp [gcells] at hu
set_option maxRecDepth 100000 in
set_option maxHeartbeats 8000000 in
theorem refsame_any (v1 v2 : Value) (fs gs : List GraphD) (w : World) (B : Nat) (hB : B ≤ w.heap.size) (h1 : GraphsAt w B v1 fs) (h2 : GraphsAt w B v2 gs) :
    Calls Try.prog 11 #[.agg #[v1], .agg #[v2]] w fun e w' => e = .returned (.bool (eqGs fs gs)) ∧ Below w.heap.size w w' := by
  obtain ⟨A, c, rfl, hc1, hc2⟩ := h1.slice
  obtain ⟨A', c', rfl, hc1', hc2'⟩ := h2.slice
  obtain ⟨n, hl⟩ : ∃ n, fs.length = n := ⟨_, rfl⟩
  obtain ⟨m, hl'⟩ : ∃ m, gs.length = m := ⟨_, rfl⟩
  rw [hl] at h1 hc1 ⊢
  rw [hl'] at h2 hc1' ⊢
  unfold maxLen at hc2 hc2'
  have hbb : Below w.heap.size w ((w.alloc (.cells #[.slice A n c] 24)).alloc (.cells #[.slice A' m c'] 24)) := ((Below.refl _ _).alloc (Nat.le_refl _) _).alloc (by simp) _
  by_cases hnm : n = m
  · subst hnm
    have hP := (Blk.new w 24 #[.slice A n c]).alloc (.cells #[.slice A' n c'] 24)
    have hQ := Blk.new (w.alloc (.cells #[.slice A n c] 24)) 24 #[.slice A' n c']
    rw [World.size_alloc] at hQ
    generalize hWW : (w.alloc (.cells #[.slice A n c] 24)).alloc (.cells #[.slice A' n c'] 24) = WW at hbb hP hQ
    have Hl := Lib.hid hl
    have Hl' := Lib.hid hl'
    have Hbb := Lib.hid hbb
    have HP := Lib.hid hP
    have HQ := Lib.hid hQ
    have HG1 := Lib.hid h1
    have HG2 := Lib.hid h2
    clear h2 h1 hQ hP hbb hl' hl
    have HWW := Lib.hid hWW
    clear hWW
    go_enter Try.func11, Try.ntmps11
    go_wp2_with fail
    rw [HWW.out]
    go_loopw [19] (fun i wr => ∃ j : Nat, j ≤ n ∧ i = .int .i64 j ∧ Below w.heap.size w wr ∧ Blk wr w.heap.size 24 #[.slice A n c] ∧ Blk wr (w.heap.size + 1) 24 #[.slice A' n c'] ∧ Hid (fs.take j = gs.take j)) (fun i _ => n - (intOf i).toNat)
    case atStart => exact ⟨0, by omega, rfl, Hbb.out, HP.out, HQ.out, by show _ = _; simp⟩
    case round =>
      obtain ⟨j, hj, rfl, hbw, hP1, hQ1, ht⟩ := hrel
      by_cases hlt : j < n
      · have hsz := hbw.size
        have hQlt := hQ1.lt
        obtain ⟨f, hfk⟩ : ∃ f, fs[j]? = some f := ⟨_, List.getElem?_eq_getElem (by have := Hl.out; omega)⟩
        obtain ⟨g, hgk⟩ : ∃ g, gs[j]? = some g := ⟨_, List.getElem?_eq_getElem (by have := Hl'.out; omega)⟩
        obtain ⟨ad, pv, kv, iv, nv, hadd, _, hM⟩ := (HG1.out.below (hbw.mono hB)).at_ hfk
        obtain ⟨ad', pv', kv', iv', nv', hadd', _, hM'⟩ := (HG2.out.below (hbw.mono hB)).at_ hgk
        subst hadd hadd'
        obtain ⟨PA, pn, pc, KA, kn, kc, IA, il, ic, NA, nn, nc, rfl, rfl, rfl, rfl, hpn, hkn, hil, hnn⟩ := hM.forms
        obtain ⟨PA', pn', pc', KA', kn', kc', IA', il', ic', NA', nn', nc', rfl, rfl, rfl, rfl, hpn', hkn', hil', hnn'⟩ := hM'.forms
        have hnb : nn' ≤ 9223372036854775807 := by
          obtain ⟨_, _, _, _, e, h1, h2, _⟩ := hM'.nodes
          injection e with _ e2 e3
          unfold maxLen at h2; omega
        have g0 := hM.c0
        have g1 := hM.c1
        have g2 := hM.c2
        have g3 := hM.c3
        have g4 := hM.c4
        have g5 := hM.c5
        have g6 := hM.c6
        have g7 := hM.c7
        have k0 := hM'.c0
        have k1 := hM'.c1
        have k2 := hM'.c2
        have k3 := hM'.c3
        have k4 := hM'.c4
        have k5 := hM'.c5
        have k6 := hM'.c6
        have k7 := hM'.c7
        have i0 : (0 : Int) ≤ (j : Int) := by omega
        have i1 : (j : Int) < (n : Int) := by omega
        have l1 := hM.lt
        have l2 := hM'.lt
        have n1 : wr.heap.size ≠ (ad.add (j * 8)).block := by omega
        have n2 : wr.heap.size + 1 ≠ (ad.add (j * 8)).block := by omega
        have n3 : wr.heap.size ≠ (ad'.add (j * 8)).block := by omega
        have n4 : wr.heap.size + 1 ≠ (ad'.add (j * 8)).block := by omega
        have n5 : wr.heap.size ≠ w.heap.size := by omega
        have n6 : wr.heap.size + 1 ≠ w.heap.size := by omega
        have n7 : wr.heap.size ≠ w.heap.size + 1 := by omega
        have n8 : wr.heap.size + 1 ≠ w.heap.size + 1 := by omega
        have kp0 := Blk.cell hP1 0
        simp only [List.getElem?_toArray, List.getElem?_cons_zero, List.getElem?_cons_succ] at kp0
        have kq0 := Blk.cell hQ1 0
        simp only [List.getElem?_toArray, List.getElem?_cons_zero, List.getElem?_cons_succ] at kq0
        have Hbw := Lib.hid hbw
        have HP1 := Lib.hid hP1
        have HQ1 := Lib.hid hQ1
        have Hfk := Lib.hid hfk
        have Hgk := Lib.hid hgk
        have HM := Lib.hid hM
        have HM' := Lib.hid hM'
        have Hpn := Lib.hid hpn
        have Hkn := Lib.hid hkn
        have Hil := Lib.hid hil
        have Hnn := Lib.hid hnn
        have Hpn' := Lib.hid hpn'
        have Hkn' := Lib.hid hkn'
        have Hil' := Lib.hid hil'
        have Hnn' := Lib.hid hnn'
        clear hnn' hil' hkn' hpn' hnn hil hkn hpn hM' hM hgk hfk hQ1 hP1 hbw
        clear l1 l2
        go_upto_region 6 with fail
        go_cut [6, 7] (fun a b wx => ∃ g6 g7, a = .pointer (some ⟨g6, 0, none⟩) ∧ b = .pointer (some ⟨g7, 0, none⟩) ∧ Blk wx g6 45 #[.slice PA pn pc, .slice KA kn kc, .int .i64 f.cells, .slice IA il ic, .bool f.result, .int .i64 f.keep, .slice NA nn nc, .int .i64 f.entry] ∧ Blk wx g7 45 #[.slice PA' pn' pc', .slice KA' kn' kc', .int .i64 g.cells, .slice IA' il' ic', .bool g.result, .int .i64 g.keep, .slice NA' nn' nc', .int .i64 g.entry] ∧ Below wr.heap.size wr wx)
        case first =>
          as_aux_lemma =>
          go_region_held3 (fun W => W.cell? ⟨w.heap.size, 0, none⟩ = some (.slice (some ad) n c) ∧ W.cell? ⟨w.heap.size + 1, 0, none⟩ = some (.slice (some ad') n c') ∧ W.cell? (ad.add (j * 8)) = some (.slice PA pn pc) ∧ W.cell? ⟨(ad.add (j * 8)).block, (ad.add (j * 8)).off + 1, none⟩ = some (.slice KA kn kc) ∧ W.cell? ⟨(ad.add (j * 8)).block, (ad.add (j * 8)).off + 2, none⟩ = some (.int .i64 f.cells) ∧ W.cell? ⟨(ad.add (j * 8)).block, (ad.add (j * 8)).off + 3, none⟩ = some (.slice IA il ic) ∧ W.cell? ⟨(ad.add (j * 8)).block, (ad.add (j * 8)).off + 4, none⟩ = some (.bool f.result) ∧ W.cell? ⟨(ad.add (j * 8)).block, (ad.add (j * 8)).off + 5, none⟩ = some (.int .i64 f.keep) ∧ W.cell? ⟨(ad.add (j * 8)).block, (ad.add (j * 8)).off + 6, none⟩ = some (.slice NA nn nc) ∧ W.cell? ⟨(ad.add (j * 8)).block, (ad.add (j * 8)).off + 7, none⟩ = some (.int .i64 f.entry)
            ∧ W.cell? (ad'.add (j * 8)) = some (.slice PA' pn' pc') ∧ W.cell? ⟨(ad'.add (j * 8)).block, (ad'.add (j * 8)).off + 1, none⟩ = some (.slice KA' kn' kc') ∧ W.cell? ⟨(ad'.add (j * 8)).block, (ad'.add (j * 8)).off + 2, none⟩ = some (.int .i64 g.cells) ∧ W.cell? ⟨(ad'.add (j * 8)).block, (ad'.add (j * 8)).off + 3, none⟩ = some (.slice IA' il' ic') ∧ W.cell? ⟨(ad'.add (j * 8)).block, (ad'.add (j * 8)).off + 4, none⟩ = some (.bool g.result) ∧ W.cell? ⟨(ad'.add (j * 8)).block, (ad'.add (j * 8)).off + 5, none⟩ = some (.int .i64 g.keep) ∧ W.cell? ⟨(ad'.add (j * 8)).block, (ad'.add (j * 8)).off + 6, none⟩ = some (.slice NA' nn' nc') ∧ W.cell? ⟨(ad'.add (j * 8)).block, (ad'.add (j * 8)).off + 7, none⟩ = some (.int .i64 g.entry)) (go_keep) (fail)
          all_goals
            go_wp2_with fail
            go_meet
            first
              | exact ⟨_, _, rfl, rfl, ((Blk.new wr _ _).alloc _).drew, (Blk.new2 wr _ _ _).drew, (((Below.refl _ _).alloc (Nat.le_refl _) _).alloc (by simp) _).drew⟩
              | exact ⟨_, _, rfl, rfl, (Blk.new2 wr _ _ _).drew, ((Blk.new wr _ _).alloc _).drew, (((Below.refl _ _).alloc (Nat.le_refl _) _).alloc (by simp) _).drew⟩
        case rest =>
          obtain ⟨GF, GG, rfl, rfl, hF6, hG7, hbc⟩ := hcut
          have hBr : B ≤ wr.heap.size := Nat.le_trans hB hsz
          have hbwc := Hbw.out.trans (hbc.mono hsz)
          have hP2 := HP1.out.below hbc (by omega)
          have hQ2 := HQ1.out.below hbc hQlt
          have hMc := HM.out.below (hbc.mono hBr)
          have hMc' := HM'.out.below (hbc.mono hBr)
          have hnot : f ≠ g → eqGs fs gs = false := fun h => eqGs_not (ne_of_at (j := j) (by rw [Hfk.out, Hgk.out]; simpa using h))
          have y0 := Blk.cell hF6 0
          have y1 := Blk.cell hF6 1
          have y2 := Blk.cell hF6 2
          have y3 := Blk.cell hF6 3
          have y4 := Blk.cell hF6 4
          have y5 := Blk.cell hF6 5
          have y6 := Blk.cell hF6 6
          have y7 := Blk.cell hF6 7
          simp only [List.getElem?_toArray, List.getElem?_cons_zero, List.getElem?_cons_succ] at y0 y1 y2 y3 y4 y5 y6 y7
          have z0 := Blk.cell hG7 0
          have z1 := Blk.cell hG7 1
          have z2 := Blk.cell hG7 2
          have z3 := Blk.cell hG7 3
          have z4 := Blk.cell hG7 4
          have z5 := Blk.cell hG7 5
          have z6 := Blk.cell hG7 6
          have z7 := Blk.cell hG7 7
          simp only [List.getElem?_toArray, List.getElem?_cons_zero, List.getElem?_cons_succ] at z0 z1 z2 z3 z4 z5 z6 z7
          have h6l := hF6.lt
          have h7l := hG7.lt
          have hBc : B ≤ wc.heap.size := Nat.le_trans hBr hbc.size
          have hc1 := sameInts_any _ _ _ _ wc B B hMc.params hMc'.params
          have HF6 := Lib.hid hF6
          have HG7 := Lib.hid hG7
          have Hbwc := Lib.hid hbwc
          have HP2 := Lib.hid hP2
          have HQ2 := Lib.hid hQ2
          have Hnot := Lib.hid hnot
          have HMc := Lib.hid hMc
          have HMc' := Lib.hid hMc'
          have Hc1 := Lib.hid hc1
          clear hc1 hMc' hMc hnot hQ2 hP2 hbwc hG7 hF6
          clear hbc g0 g1 g2 g3 g4 g5 g6 g7 k0 k1 k2 k3 k4 k5 k6 k7 n1 n2 n3 n4 n5 n6 n7 n8 kp0 kq0
          go_wp2_with fail
          refine Hc1.out.mono ?_
          rintro e w1 ⟨rfl, q1, rfl⟩
          by_cases e1 : f.params = g.params
          case neg =>
            have hs : decide (f.params = g.params) = false := decide_eq_false e1
            have hfg : f ≠ g := fun h => e1 (by rw [h])
            rw [hs]
            have Hs := Lib.hid hs
            have He1 := Lib.hid e1
            have Hfg := Lib.hid hfg
            clear hfg e1 hs
            go_wp2_with fail
            go_ret
            exact ⟨ret_b (Hnot.out Hfg.out).symm, below_drewN Hbwc.out _⟩
          have hs : decide (f.params = g.params) = true := decide_eq_true e1
          rw [hs]
          have hc2 := sameKinds_any _ _ _ _ (wc.drewN q1) B B (show NumsAt .u8 wc B _ _ from HMc.out.kinds) (show NumsAt .u8 wc B _ _ from HMc'.out.kinds)
          have Hs := Lib.hid hs
          have He1 := Lib.hid e1
          have Hc2 := Lib.hid hc2
          clear hc2 e1 hs
          go_wp2_with fail
          refine Hc2.out.mono ?_
          rintro e w1 ⟨rfl, q2, rfl⟩
          by_cases e2 : f.kinds = g.kinds
          case neg =>
            have hs : decide (f.kinds = g.kinds) = false := decide_eq_false e2
            have hfg : f ≠ g := fun h => e2 (by rw [h])
            rw [hs]
            have HS2 := Lib.hid hs
            have He2 := Lib.hid e2
            have Hfg := Lib.hid hfg
            clear hfg e2 hs
            go_wp2_with fail
            go_ret
            exact ⟨ret_b (Hnot.out Hfg.out).symm, below_drewN Hbwc.out _⟩
          have hs : decide (f.kinds = g.kinds) = true := decide_eq_true e2
          rw [hs]
          have HS2 := Lib.hid hs
          have He2 := Lib.hid e2
          clear e2 hs
          by_cases e3 : f.cells = g.cells
          case neg =>
            have hb3 : (f.cells != g.cells) = true := by simpa using e3
            have hfg : f ≠ g := fun h => e3 (by rw [h])
            have He3 := Lib.hid e3
            have Hfg := Lib.hid hfg
            clear hfg e3
            go_wp2_with fail
            go_ret
            exact ⟨ret_b (Hnot.out Hfg.out).symm, below_drewN Hbwc.out _⟩
          have hb3 : (f.cells != g.cells) = false := by simpa using e3
          have hc3 := sameInts_any _ _ _ _ (wc.drewN (q1 + q2)) B B (show NumsAt .i64 wc B _ _ from HMc.out.init) (show NumsAt .i64 wc B _ _ from HMc'.out.init)
          have He3 := Lib.hid e3
          have Hc3 := Lib.hid hc3
          clear hc3 e3
          go_wp2_with fail
          refine Hc3.out.mono ?_
          rintro e w1 ⟨rfl, q3, rfl⟩
          clear hb3
          by_cases e4 : f.init = g.init
          case neg =>
            have hs : decide (f.init = g.init) = false := decide_eq_false e4
            have hfg : f ≠ g := fun h => e4 (by rw [h])
            rw [hs]
            have HS4 := Lib.hid hs
            have He4 := Lib.hid e4
            have Hfg := Lib.hid hfg
            clear hfg e4 hs
            go_wp2_with fail
            go_ret
            exact ⟨ret_b (Hnot.out Hfg.out).symm, below_drewN Hbwc.out _⟩
          have hs : decide (f.init = g.init) = true := decide_eq_true e4
          rw [hs]
          have HS4 := Lib.hid hs
          have He4 := Lib.hid e4
          clear e4 hs
          by_cases e5 : f.result = g.result
          case neg =>
            have hfg : f ≠ g := fun h => e5 (by rw [h])
            obtain ⟨b1, hb1⟩ : ∃ b1, f.result = b1 := ⟨_, rfl⟩
            obtain ⟨b2, hb2⟩ : ∃ b2, g.result = b2 := ⟨_, rfl⟩
            rw [hb1] at y4 e5
            rw [hb2] at z4 e5
            have Hfg := Lib.hid hfg
            have Hb1 := Lib.hid hb1
            have Hb2 := Lib.hid hb2
            clear hb2 hb1 hfg
            cases b1 <;> cases b2
            · exact absurd rfl e5
            · have He5 := Lib.hid e5
              clear e5
              go_wp2_with fail
              go_ret
              exact ⟨ret_b (Hnot.out Hfg.out).symm, below_drewN Hbwc.out _⟩
            · have He5 := Lib.hid e5
              clear e5
              go_wp2_with fail
              go_ret
              exact ⟨ret_b (Hnot.out Hfg.out).symm, below_drewN Hbwc.out _⟩
            · exact absurd rfl e5
          rw [e5] at y4
          have He5 := Lib.hid e5
          clear e5
          by_cases e6 : f.keep = g.keep
          case neg =>
            have hb3 : (f.keep != g.keep) = true := by simpa using e6
            have hfg : f ≠ g := fun h => e6 (by rw [h])
            have He6 := Lib.hid e6
            have Hfg := Lib.hid hfg
            clear hfg e6
            go_wp2_with fail
            go_ret
            exact ⟨ret_b (Hnot.out Hfg.out).symm, below_drewN Hbwc.out _⟩
          have hb6 : (f.keep != g.keep) = false := by simpa using e6
          have He6 := Lib.hid e6
          clear e6
          by_cases e7 : f.entry = g.entry
          case neg =>
            have hb3 : (f.entry != g.entry) = true := by simpa using e7
            have hfg : f ≠ g := fun h => e7 (by rw [h])
            have He7 := Lib.hid e7
            have Hfg := Lib.hid hfg
            clear hfg e7
            go_wp2_with fail
            go_ret
            exact ⟨ret_b (Hnot.out Hfg.out).symm, below_drewN Hbwc.out _⟩
          have hb7 : (f.entry != g.entry) = false := by simpa using e7
          have He7 := Lib.hid e7
          clear e7
          by_cases e8 : (nn : Int) = nn'
          case neg =>
            have hb3 : ((nn : Int) != nn') = true := by simpa using e8
            have hfg : f ≠ g := fun h => by
              have h1 := Hnn.out
              have h2 := Hnn'.out
              rw [h] at h1
              omega
            have He8 := Lib.hid e8
            have Hfg := Lib.hid hfg
            clear hfg e8
            go_wp2_with fail
            go_ret
            exact ⟨ret_b (Hnot.out Hfg.out).symm, below_drewN Hbwc.out _⟩
          have hb8 : ((nn : Int) != nn') = false := by simpa using e8
          have e8' : nn' = nn := by omega
          have He8 := Lib.hid e8
          clear e8
          go_wp2_with fail
          clear hb6 hb7 hb8 y0 y1 y2 y3 y4 y5 y6 y7 z0 z1 z2 z3 z4 z5 z6 z7
          subst e8'
          obtain ⟨W3, hW3⟩ : ∃ W3, W3 = wc.drewN (q1 + q2 + q3) := ⟨_, rfl⟩
          have hwd : Below wc.heap.size wc W3 := by rw [hW3]; exact below_drewN (Below.refl _ _) _
          rw [← hW3]
          have Hwd := Lib.hid hwd
          have HW3 := Lib.hid hW3
          clear hW3 hwd
          go_loopw [94] (fun i wq => ∃ k : Nat, k ≤ nn' ∧ i = .int .i64 k ∧ Below W3.heap.size W3 wq ∧ Hid (f.nodes.take k = g.nodes.take k)) (fun i _ => nn' - (intOf i).toNat)
          case atStart => exact ⟨0, by omega, rfl, Below.refl _ _, by show _ = _; simp⟩
          case round =>
            obtain ⟨k, hk, rfl, hbk, htk⟩ := hrel
            have hbk1 := Hwd.out.trans (hbk.mono Hwd.out.size)
            have hbk2 := Hbwc.out.trans (hbk1.mono Hbwc.out.size)
            have hF9 := HF6.out.below hbk1 h6l
            have hG9 := HG7.out.below hbk1 h7l
            by_cases hlt2 : k < nn'
            · as_aux_lemma =>
              have hMk := HMc.out.below (hbk1.mono hBc)
              have hMk' := HMc'.out.below (hbk1.mono hBc)
              obtain ⟨x, hxk⟩ : ∃ x, f.nodes[k]? = some x := ⟨_, List.getElem?_eq_getElem (by rw [Hnn.out]; exact hlt2)⟩
              obtain ⟨y, hyk⟩ : ∃ y, g.nodes[k]? = some y := ⟨_, List.getElem?_eq_getElem (by rw [Hnn'.out]; exact hlt2)⟩
              obtain ⟨nad, cs, hna, hnlt, _, _, ⟨av, hcs, hav⟩, z0, nj⟩ := RowsAt.at_ hMk.nodes hxk
              obtain ⟨nad', cs', hna', hnlt', _, _, ⟨av', hcs', hav'⟩, z0', nj'⟩ := RowsAt.at_ hMk'.nodes hyk
              subst hna hcs hna' hcs'
              obtain ⟨AA, aac, hava, _, _, _⟩ := hav.slice
              obtain ⟨AA', aac', hava', _, _, _⟩ := hav'.slice
              subst hava hava'
              have u0 : wr.cell? (nad.add (k * 12)) = some (.int .u8 x.op) := z0 _ rfl
              have v0 : wr.cell? (nad'.add (k * 12)) = some (.int .u8 y.op) := z0' _ rfl
              have u1 := nj 1 _ (by omega) rfl
              have v1 := nj' 1 _ (by omega) rfl
              have u2 := nj 2 _ (by omega) rfl
              have v2 := nj' 2 _ (by omega) rfl
              have u3 := nj 3 _ (by omega) rfl
              have v3 := nj' 3 _ (by omega) rfl
              have u4 := nj 4 _ (by omega) rfl
              have v4 := nj' 4 _ (by omega) rfl
              have u5 := nj 5 _ (by omega) rfl
              have v5 := nj' 5 _ (by omega) rfl
              have u6 := nj 6 _ (by omega) rfl
              have v6 := nj' 6 _ (by omega) rfl
              have u7 := nj 7 _ (by omega) rfl
              have v7 := nj' 7 _ (by omega) rfl
              have u8 := nj 8 _ (by omega) rfl
              have v8 := nj' 8 _ (by omega) rfl
              have u9 := nj 9 _ (by omega) rfl
              have v9 := nj' 9 _ (by omega) rfl
              have u10 := nj 10 _ (by omega) rfl
              have v10 := nj' 10 _ (by omega) rfl
              have u11 := nj 11 _ (by omega) rfl
              have v11 := nj' 11 _ (by omega) rfl
              clear z0 nj z0' nj'
              have y6 := Blk.cell hF9 6
              simp only [List.getElem?_toArray, List.getElem?_cons_zero, List.getElem?_cons_succ] at y6
              have z6 := Blk.cell hG9 6
              simp only [List.getElem?_toArray, List.getElem?_cons_zero, List.getElem?_cons_succ] at z6
              have j1 : (k : Int) < (nn' : Int) := by omega
              have j0 : (0 : Int) ≤ (k : Int) := by omega
              have hsk := hbk1.size
              have hcn := refsameNode_any wr.drew x y (.slice AA x.args.length aac) (.slice AA' y.args.length aac') B (Nat.le_trans hBc hsk) hav hav'
              obtain ⟨bn, hbn⟩ : ∃ bn, eqN x y = bn := ⟨_, rfl⟩
              rw [hbn] at hcn
              have hLn : (nad.add (k * 12)).block < wr.heap.size := by rw [block_add]; omega
              have hLn' : (nad'.add (k * 12)).block < wr.heap.size := by rw [block_add]; omega
              have hL6 : GF < wr.heap.size := hF9.lt
              have hL7 : GG < wr.heap.size := hG9.lt
              have HMk := Lib.hid hMk
              have HMk' := Lib.hid hMk'
              have Hxk := Lib.hid hxk
              have Hyk := Lib.hid hyk
              have Hav := Lib.hid hav
              have Hav' := Lib.hid hav'
              have HF9 := Lib.hid hF9
              have HG9 := Lib.hid hG9
              have Hbk1 := Lib.hid hbk1
              have Hbk2 := Lib.hid hbk2
              have Hcn := Lib.hid hcn
              have Hbn := Lib.hid hbn
              have Hbk := Lib.hid hbk
              have Htk := Lib.hid htk
              clear htk hbk hbn hcn hbk2 hbk1 hG9 hF9 hav' hav hyk hxk hMk' hMk
              go_upto_region 12 with fail
              refine wp_region_noPanic ?_
              refine wp_region_held_drew (S := fun W => W.cell? ⟨GF, 6, none⟩ = some (.slice (some nad) nn' nc) ∧ W.cell? ⟨GG, 6, none⟩ = some (.slice (some nad') nn' nc') ∧ W.cell? (nad.add (k * 12)) = some (.int .u8 x.op) ∧ W.cell? (nad'.add (k * 12)) = some (.int .u8 y.op) ∧ W.cell? ⟨(nad.add (k * 12)).block, (nad.add (k * 12)).off + 1, none⟩ = some (.int .u8 x.byo) ∧ W.cell? ⟨(nad.add (k * 12)).block, (nad.add (k * 12)).off + 2, none⟩ = some (.int .i64 x.d) ∧ W.cell? ⟨(nad.add (k * 12)).block, (nad.add (k * 12)).off + 3, none⟩ = some (.int .i64 x.e) ∧ W.cell? ⟨(nad.add (k * 12)).block, (nad.add (k * 12)).off + 4, none⟩ = some (.int .i64 x.a) ∧ W.cell? ⟨(nad.add (k * 12)).block, (nad.add (k * 12)).off + 5, none⟩ = some (.int .i64 x.b) ∧ W.cell? ⟨(nad.add (k * 12)).block, (nad.add (k * 12)).off + 6, none⟩ = some (.int .i64 x.f) ∧ W.cell? ⟨(nad.add (k * 12)).block, (nad.add (k * 12)).off + 7, none⟩ = some (.int .i64 x.cell) ∧ W.cell? ⟨(nad.add (k * 12)).block, (nad.add (k * 12)).off + 8, none⟩ = some (.int .u64 x.imm) ∧ W.cell? ⟨(nad.add (k * 12)).block, (nad.add (k * 12)).off + 9, none⟩ = some (.slice AA x.args.length aac) ∧ W.cell? ⟨(nad.add (k * 12)).block, (nad.add (k * 12)).off + 10, none⟩ = some (.int .i64 x.next) ∧ W.cell? ⟨(nad.add (k * 12)).block, (nad.add (k * 12)).off + 11, none⟩ = some (.int .i64 x.els) ∧ W.cell? ⟨(nad'.add (k * 12)).block, (nad'.add (k * 12)).off + 1, none⟩ = some (.int .u8 y.byo) ∧ W.cell? ⟨(nad'.add (k * 12)).block, (nad'.add (k * 12)).off + 2, none⟩ = some (.int .i64 y.d) ∧ W.cell? ⟨(nad'.add (k * 12)).block, (nad'.add (k * 12)).off + 3, none⟩ = some (.int .i64 y.e) ∧ W.cell? ⟨(nad'.add (k * 12)).block, (nad'.add (k * 12)).off + 4, none⟩ = some (.int .i64 y.a) ∧ W.cell? ⟨(nad'.add (k * 12)).block, (nad'.add (k * 12)).off + 5, none⟩ = some (.int .i64 y.b) ∧ W.cell? ⟨(nad'.add (k * 12)).block, (nad'.add (k * 12)).off + 6, none⟩ = some (.int .i64 y.f) ∧ W.cell? ⟨(nad'.add (k * 12)).block, (nad'.add (k * 12)).off + 7, none⟩ = some (.int .i64 y.cell) ∧ W.cell? ⟨(nad'.add (k * 12)).block, (nad'.add (k * 12)).off + 8, none⟩ = some (.int .u64 y.imm) ∧ W.cell? ⟨(nad'.add (k * 12)).block, (nad'.add (k * 12)).off + 9, none⟩ = some (.slice AA' y.args.length aac') ∧ W.cell? ⟨(nad'.add (k * 12)).block, (nad'.add (k * 12)).off + 10, none⟩ = some (.int .i64 y.next) ∧ W.cell? ⟨(nad'.add (k * 12)).block, (nad'.add (k * 12)).off + 11, none⟩ = some (.int .i64 y.els)) (by kernel_rfl) ⟨y6, z6, u0, v0, u1, u2, u3, u4, u5, u6, u7, u8, u9, u10, u11, v1, v2, v3, v4, v5, v6, v7, v8, v9, v10, v11⟩ (fun hHeld => ?_)
              refine wpAnyH_take (i := 0) (v := ?_) rfl (by kernel_rfl) (by kernel_rfl) (by kernel_rfl) (fun _ _ _ h => h) (Or.inl ⟨by rfl, ?_⟩) (by assumption) ?_
              rotate_left
              · intro w hSw; (try dsimp only at hSw); go_simp; try with_reducible rfl
              simp only [Act.put, List.getElem_toArray, List.getElem_cons_zero, List.getElem_cons_succ, List.setIfInBounds_toArray, List.set_cons_zero, List.set_cons_succ]
              refine wpAnyH_take (i := 1) (v := ?_) rfl (by kernel_rfl) (by kernel_rfl) (by kernel_rfl) (fun _ _ _ h => h) (Or.inl ⟨by rfl, ?_⟩) (by assumption) ?_
              rotate_left
              · intro w hSw; (try dsimp only at hSw); go_simp; try with_reducible rfl
              simp only [Act.put, List.getElem_toArray, List.getElem_cons_zero, List.getElem_cons_succ, List.setIfInBounds_toArray, List.set_cons_zero, List.set_cons_succ]
              refine wpAnyH_take (i := 2) (v := ?_) rfl (by kernel_rfl) (by kernel_rfl) (by kernel_rfl) (fun _ _ _ h => h) (Or.inl ⟨by rfl, ?_⟩) (by assumption) ?_
              rotate_left
              · intro w hSw; (try dsimp only at hSw); go_simp; try with_reducible rfl
              simp only [Act.put, List.getElem_toArray, List.getElem_cons_zero, List.getElem_cons_succ, List.setIfInBounds_toArray, List.set_cons_zero, List.set_cons_succ]
              refine wpAnyH_take (i := 3) (v := ?_) rfl (by kernel_rfl) (by kernel_rfl) (by kernel_rfl) (fun _ _ _ h => h) (Or.inl ⟨by rfl, ?_⟩) (by assumption) ?_
              rotate_left
              · intro w hSw; (try dsimp only at hSw); go_simp; try with_reducible rfl
              simp only [Act.put, List.getElem_toArray, List.getElem_cons_zero, List.getElem_cons_succ, List.setIfInBounds_toArray, List.set_cons_zero, List.set_cons_succ]
              refine wpAnyH_take (i := 4) (v := ?_) rfl (by kernel_rfl) (by kernel_rfl) (by kernel_rfl) (fun _ _ _ h => h) (Or.inl ⟨by rfl, ?_⟩) (by assumption) ?_
              rotate_left
              · intro w hSw; (try dsimp only at hSw); go_simp; try with_reducible rfl
              simp only [Act.put, List.getElem_toArray, List.getElem_cons_zero, List.getElem_cons_succ, List.setIfInBounds_toArray, List.set_cons_zero, List.set_cons_succ]
              refine wpAnyH_take (i := 5) (v := ?_) rfl (by kernel_rfl) (by kernel_rfl) (by kernel_rfl) (fun _ _ _ h => h) (Or.inl ⟨by rfl, ?_⟩) (by assumption) ?_
              rotate_left
              · intro w hSw; (try dsimp only at hSw); go_simp; try with_reducible rfl
              simp only [Act.put, List.getElem_toArray, List.getElem_cons_zero, List.getElem_cons_succ, List.setIfInBounds_toArray, List.set_cons_zero, List.set_cons_succ]
              refine wpAnyH_take (i := 6) (v := ?_) rfl (by kernel_rfl) (by kernel_rfl) (by kernel_rfl) (fun _ _ _ h => h) (Or.inl ⟨by rfl, ?_⟩) (by assumption) ?_
              rotate_left
              · intro w hSw; (try dsimp only at hSw); go_simp; try with_reducible rfl
              simp only [Act.put, List.getElem_toArray, List.getElem_cons_zero, List.getElem_cons_succ, List.setIfInBounds_toArray, List.set_cons_zero, List.set_cons_succ]
              refine wpAnyH_take (i := 7) (v := ?_) rfl (by kernel_rfl) (by kernel_rfl) (by kernel_rfl) (fun _ _ _ h => h) (Or.inl ⟨by rfl, ?_⟩) (by assumption) ?_
              rotate_left
              · intro w hSw; (try dsimp only at hSw); go_simp; try with_reducible rfl
              simp only [Act.put, List.getElem_toArray, List.getElem_cons_zero, List.getElem_cons_succ, List.setIfInBounds_toArray, List.set_cons_zero, List.set_cons_succ]
              refine wpAnyH_take (i := 8) (v := ?_) rfl (by kernel_rfl) (by kernel_rfl) (by kernel_rfl) (fun _ _ _ h => h) (Or.inl ⟨by rfl, ?_⟩) (by assumption) ?_
              rotate_left
              · intro w hSw; (try dsimp only at hSw); go_simp; try with_reducible rfl
              simp only [Act.put, List.getElem_toArray, List.getElem_cons_zero, List.getElem_cons_succ, List.setIfInBounds_toArray, List.set_cons_zero, List.set_cons_succ]
              refine wpAnyH_take (i := 9) (v := ?_) rfl (by kernel_rfl) (by kernel_rfl) (by kernel_rfl) (fun _ _ _ h => h) (Or.inl ⟨by rfl, ?_⟩) (by assumption) ?_
              rotate_left
              · intro w hSw; (try dsimp only at hSw); go_simp; try with_reducible rfl
              simp only [Act.put, List.getElem_toArray, List.getElem_cons_zero, List.getElem_cons_succ, List.setIfInBounds_toArray, List.set_cons_zero, List.set_cons_succ]
              refine wpAnyH_ready (rs := [10]) (by kernel_rfl) (by simp) ?_
              refine AllReadyH.cons rfl (fun K hK => ?_) AllReadyH.nil
              go_simp
              refine Hcn.out.mono ?_
              rintro e w9 ⟨rfl, hb9⟩
              have hb9' : Below wr.heap.size wr w9 := (Below.refl wr.heap.size wr).drew.trans hb9
              refine hK.out _ _ ⟨(hb9.cell (p := ⟨GF, 6, none⟩) hL6).trans y6, (hb9.cell (p := ⟨GG, 6, none⟩) hL7).trans z6, (hb9.cell (p := nad.add (k * 12)) hLn).trans u0, (hb9.cell (p := nad'.add (k * 12)) hLn').trans v0, (hb9.cell (p := ⟨(nad.add (k * 12)).block, (nad.add (k * 12)).off + 1, none⟩) hLn).trans u1, (hb9.cell (p := ⟨(nad.add (k * 12)).block, (nad.add (k * 12)).off + 2, none⟩) hLn).trans u2, (hb9.cell (p := ⟨(nad.add (k * 12)).block, (nad.add (k * 12)).off + 3, none⟩) hLn).trans u3, (hb9.cell (p := ⟨(nad.add (k * 12)).block, (nad.add (k * 12)).off + 4, none⟩) hLn).trans u4, (hb9.cell (p := ⟨(nad.add (k * 12)).block, (nad.add (k * 12)).off + 5, none⟩) hLn).trans u5, (hb9.cell (p := ⟨(nad.add (k * 12)).block, (nad.add (k * 12)).off + 6, none⟩) hLn).trans u6, (hb9.cell (p := ⟨(nad.add (k * 12)).block, (nad.add (k * 12)).off + 7, none⟩) hLn).trans u7, (hb9.cell (p := ⟨(nad.add (k * 12)).block, (nad.add (k * 12)).off + 8, none⟩) hLn).trans u8, (hb9.cell (p := ⟨(nad.add (k * 12)).block, (nad.add (k * 12)).off + 9, none⟩) hLn).trans u9, (hb9.cell (p := ⟨(nad.add (k * 12)).block, (nad.add (k * 12)).off + 10, none⟩) hLn).trans u10, (hb9.cell (p := ⟨(nad.add (k * 12)).block, (nad.add (k * 12)).off + 11, none⟩) hLn).trans u11, (hb9.cell (p := ⟨(nad'.add (k * 12)).block, (nad'.add (k * 12)).off + 1, none⟩) hLn').trans v1, (hb9.cell (p := ⟨(nad'.add (k * 12)).block, (nad'.add (k * 12)).off + 2, none⟩) hLn').trans v2, (hb9.cell (p := ⟨(nad'.add (k * 12)).block, (nad'.add (k * 12)).off + 3, none⟩) hLn').trans v3, (hb9.cell (p := ⟨(nad'.add (k * 12)).block, (nad'.add (k * 12)).off + 4, none⟩) hLn').trans v4, (hb9.cell (p := ⟨(nad'.add (k * 12)).block, (nad'.add (k * 12)).off + 5, none⟩) hLn').trans v5, (hb9.cell (p := ⟨(nad'.add (k * 12)).block, (nad'.add (k * 12)).off + 6, none⟩) hLn').trans v6, (hb9.cell (p := ⟨(nad'.add (k * 12)).block, (nad'.add (k * 12)).off + 7, none⟩) hLn').trans v7, (hb9.cell (p := ⟨(nad'.add (k * 12)).block, (nad'.add (k * 12)).off + 8, none⟩) hLn').trans v8, (hb9.cell (p := ⟨(nad'.add (k * 12)).block, (nad'.add (k * 12)).off + 9, none⟩) hLn').trans v9, (hb9.cell (p := ⟨(nad'.add (k * 12)).block, (nad'.add (k * 12)).off + 10, none⟩) hLn').trans v10, (hb9.cell (p := ⟨(nad'.add (k * 12)).block, (nad'.add (k * 12)).off + 11, none⟩) hLn').trans v11⟩ (fun hHeld2 => ?_)
              have hbe := Hbk.out.trans (hb9'.mono Hbk.out.size)
              have hbe2 := Hbk2.out.trans (hb9'.mono Hbk2.out.size)
              have Hbe := Lib.hid hbe
              have Hbe2 := Lib.hid hbe2
              clear hbe2 hbe
              clear hK K hHeld hb9 hb9'
              try simp only [Act.put, List.getElem_toArray, List.getElem_cons_zero, List.getElem_cons_succ, List.setIfInBounds_toArray, List.set_cons_zero, List.set_cons_succ]
              refine wpAnyH_take (i := 11) (v := ?_) rfl (by kernel_rfl) (by kernel_rfl) (by kernel_rfl) (fun _ _ _ h => h) (Or.inl ⟨by rfl, ?_⟩) (by assumption) ?_
              rotate_left
              · intro w hSw; (try dsimp only at hSw); go_simp; try with_reducible rfl
              simp only [Act.put, List.getElem_toArray, List.getElem_cons_zero, List.getElem_cons_succ, List.setIfInBounds_toArray, List.set_cons_zero, List.set_cons_succ]
              refine wpAnyH_done (by kernel_rfl) ?_ _
              refine NoPanic.normal ?_
              clear hHeld2 y6 z6 u0 v0 u1 u2 u3 u4 u5 u6 u7 u8 u9 u10 u11 v1 v2 v3 v4 v5 v6 v7 v8 v9 v10 v11
              cases bn
              · have hfg : f ≠ g := fun h => by
                  have h1 := Hxk.out
                  have h2 := Hyk.out
                  rw [h, h2] at h1
                  injection h1 with h1
                  have h3 := Hbn.out
                  rw [(eqN_iff _ _).2 h1.symm] at h3
                  cases h3
                have Hfg := Lib.hid hfg
                clear hfg
                go_wp2_with fail
                go_ret
                exact ⟨ret_b (Hnot.out Hfg.out).symm, Hbe2.out⟩
              · have hxy := (eqN_iff _ _).1 Hbn.out
                have hs : f.nodes.take (k + 1) = g.nodes.take (k + 1) := take_snoc_eq Htk.out (by rw [Hxk.out, Hyk.out, hxy])
                have Hs := Lib.hid hs
                have Hxy := Lib.hid hxy
                clear hxy hs
                go_wp2_with fail
                exact ⟨⟨k + 1, by omega, by go_num, Hbe.out, Lib.hid Hs.out⟩, by simp [intOf]; omega⟩
            · have hnodes : f.nodes = g.nodes := by
                have h1 := htk.out
                rwa [List.take_of_length_le (by rw [Hnn.out]; omega), List.take_of_length_le (by rw [Hnn'.out]; omega)] at h1
              have hfg : f = g := by
                obtain ⟨a1, a2, a3, a4, a5, a6, a7, a8⟩ := f
                obtain ⟨b1, b2, b3, b4, b5, b6, b7, b8⟩ := g
                have e1 := He1.out
                have e2 := He2.out
                have e3 := He3.out
                have e4 := He4.out
                have e5 := He5.out
                have e6 := He6.out
                have e7 := He7.out
                simp only at e1 e2 e3 e4 e5 e6 e7 hnodes
                rw [e1, e2, e3, e4, e5, e6, e7, hnodes]
              have hP9 := HP2.out.below hbk1 HP2.out.lt
              have hQ9 := HQ2.out.below hbk1 HQ2.out.lt
              have Hfg := Lib.hid hfg
              have Hnodes := Lib.hid hnodes
              have Hbk := Lib.hid hbk
              have Hbk1 := Lib.hid hbk1
              have Hbk2 := Lib.hid hbk2
              have HF9 := Lib.hid hF9
              have HG9 := Lib.hid hG9
              have HP9 := Lib.hid hP9
              have HQ9 := Lib.hid hQ9
              have Htk := Lib.hid htk
              clear htk hQ9 hP9 hG9 hF9 hbk2 hbk1 hbk hnodes hfg
              go_wp2_with fail
              exact ⟨⟨j + 1, by omega, by go_num, Hbk2.out, HP9.out, HQ9.out, take_snoc_eq ht.out (by rw [Hfk.out, Hgk.out, Hfg.out])⟩, by simp [intOf]; omega⟩
      · have hfull : fs = gs := by
          have h1 := ht.out
          rwa [List.take_of_length_le (by rw [Hl.out]; omega), List.take_of_length_le (by rw [Hl'.out]; omega)] at h1
        have hs : eqGs fs gs = true := (eqGs_iff _ _).2 hfull
        have Hs := Lib.hid hs
        have Hfull := Lib.hid hfull
        have Hbw := Lib.hid hbw
        have HP1 := Lib.hid hP1
        have HQ1 := Lib.hid hQ1
        have Ht := Lib.hid ht
        clear ht hQ1 hP1 hbw hfull hs
        go_wp2_with fail
        go_ret
        exact ⟨ret_b Hs.out.symm, Hbw.out⟩
  · have hb : ((n : Int) != (m : Int)) = true := by rw [bne_iff_ne]; omega
    have hs : eqGs fs gs = false := eqGs_not (fun h => hnm (by rw [← hl, ← hl', h]))
    have Hl := Lib.hid hl
    have Hl' := Lib.hid hl'
    have Hnm := Lib.hid hnm
    have Hbb := Lib.hid hbb
    have HG1 := Lib.hid h1
    have HG2 := Lib.hid h2
    have Hs := Lib.hid hs
    clear hs h2 h1 hbb hnm hl' hl
    go_enter Try.func11, Try.ntmps11
    go_wp2_with fail
    go_ret
    exact ⟨ret_b Hs.out.symm, Hbb.out⟩
end Go.Proofs.Ytfjalejlbegkeaa
