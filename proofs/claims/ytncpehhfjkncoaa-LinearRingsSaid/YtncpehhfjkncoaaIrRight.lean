/- Walk of the document's question whether graphs are right. Conditions: the graphs lie in memory. -/
import Derived.Test.YtncpehhfjkncoaaIrRCall
set_option linter.unusedVariables false
set_option linter.unusedSimpArgs false
namespace Go.Proofs.Ytncpehhfjkncoaa
open Go.RowKit

theorem GraphM.forms {w : World} {B : Nat} {ga : Addr} {g : GraphD} {pv kv iv nv : Value} (h : GraphM w B ga g pv kv iv nv) :
    ∃ PA pn pc KA kn kc IA il ic NA nn nc, pv = .slice PA pn pc ∧ kv = .slice KA kn kc ∧ iv = .slice IA il ic ∧ nv = .slice NA nn nc ∧ g.params.length = pn ∧ g.kinds.length = kn ∧ g.init.length = il ∧ g.nodes.length = nn := by
  obtain ⟨PA, pc, h1, _⟩ := h.params.slice
  obtain ⟨KA, kc, h2, _⟩ := h.kinds.slice
  obtain ⟨IA, ic, h3, _⟩ := h.init.slice
  obtain ⟨NA, nn, nc, css, h4, _, _, h5, _⟩ := h.nodes
  exact ⟨PA, _, pc, KA, _, kc, IA, _, ic, NA, nn, nc, h1, h2, h3, h4, rfl, rfl, rfl, h5⟩
/-- within bounds -/
structure GsLe (gs : List GraphD) : Prop where
  kinds : ∀ g ∈ gs, g.kinds.length ≤ 140737488351232
  args : ∀ g ∈ gs, ∀ x ∈ g.nodes, x.args.length ≤ 140737488351232
set_option maxRecDepth 100000 in
set_option maxHeartbeats 8000000 in
theorem right_any {w : World} {B : Nat} {allv : Value} {gs : List GraphD} (h : GraphsAt w B allv gs) (hB : B ≤ w.heap.size) (hok : GraphsOk gs) (bound : Bool) :
    Calls Try.prog 10 #[.agg #[allv], .bool bound] w fun e w' => e = .returned (.bool (checkB gs bound)) ∧ Below w.heap.size w w' := by
  obtain ⟨r, hr⟩ : ∃ r, checkB gs bound = r := ⟨_, rfl⟩
  rw [hr]
  unfold checkB at hr
  obtain ⟨G, hG⟩ : ∃ G, G = w.heap.size := ⟨_, rfl⟩
  have hP := Blk.new w 24 #[allv]
  have hb := (Below.refl w.heap.size w).alloc (Nat.le_refl _) (.cells #[allv] 24)
  have hA := h.below ((Below.refl B w).alloc hB (.cells #[allv] 24))
  obtain ⟨V, hV⟩ : ∃ V, V = w.alloc (.cells #[allv] 24) := ⟨_, rfl⟩
  rw [← hV] at hb hA hP
  rw [← hG] at hP
  have hGV : G < V.heap.size := by rw [hV, World.size_alloc, hG]; omega
  have hBV : B ≤ V.heap.size := by rw [hV, World.size_alloc]; omega
  obtain ⟨GA, gc, rfl, _, _⟩ := hA.slice
  obtain ⟨Z, hZ⟩ : ∃ Z, gs.length = Z := ⟨_, rfl⟩
  rw [hZ] at hr hP hV ⊢
  rw [hZ] at hA
  have kp0 := Blk.cell hP 0
  simp only [List.getElem?_toArray, List.getElem?_cons_zero, List.getElem?_cons_succ] at kp0
  by_cases hZ0 : Z = 0
  · have hs : r = false := by rw [← hr, List.getElem?_eq_none (by omega)]; rfl
    have hz : (Z : Int) < 1 := by omega
    have HA := Lib.hid hA
    have Hb := Lib.hid hb
    have HP := Lib.hid hP
    have Hr := Lib.hid hr
    have HZ := Lib.hid hZ
    have Hs := Lib.hid hs
    have H := Lib.hid h
    have Hok := Lib.hid hok
    have HG := Lib.hid hG
    have HV := Lib.hid hV
    have HZ0 := Lib.hid hZ0
    clear hZ0 hV hG hok h hs hZ hr hP hb hA
    go_enter Try.func10, Try.ntmps10
    go_upto_region 1 with fail
    rw [← HV.out, ← HG.out]
    go_wp2_with fail
    go_ret
    rw [Hs.out]
    exact ⟨rfl, Hb.out⟩
  have hz : ¬ (Z : Int) < 1 := by omega
  obtain ⟨g0, hg0⟩ : ∃ g0, gs[0]? = some g0 := ⟨_, List.getElem?_eq_getElem (by omega)⟩
  rw [hg0] at hr
  simp only at hr
  by_cases hZ16 : Z ≤ 16
  case neg =>
    have hs : r = false := by rw [← hr]; simp [hZ16]
    have hz2 : (16 : Int) < Z := by omega
    have HA := Lib.hid hA
    have Hb := Lib.hid hb
    have HP := Lib.hid hP
    have Hr := Lib.hid hr
    have HZ := Lib.hid hZ
    have Hs := Lib.hid hs
    have H := Lib.hid h
    have Hok := Lib.hid hok
    have HG := Lib.hid hG
    have HV := Lib.hid hV
    have HZ0 := Lib.hid hZ0
    clear hZ0 hV hG hok h hs hZ hr hP hb hA
    clear hZ16
    go_enter Try.func10, Try.ntmps10
    go_upto_region 1 with fail
    rw [← HV.out, ← HG.out]
    go_wp2_with fail
    go_ret
    rw [Hs.out]
    exact ⟨rfl, Hb.out⟩
  have hz2 : ¬ (16 : Int) < Z := by omega
  have hz3 : (0 : Int) < Z := by omega
  have hz4 : 0 < Z := by omega
  obtain ⟨ad, pv0, kv0, iv0, nv0, hGA, _, hM0⟩ := hA.at_ hg0
  subst hGA
  obtain ⟨PA0, pc0, hpv0, _, _, _⟩ := hM0.params.slice
  subst hpv0
  have m0 := hM0.c0
  have m4 := hM0.c4
  have ead : ad.add (0 * 8) = ad := by rw [Nat.zero_mul]; first | rfl | simp [Addr.add]
  rw [ead] at m0 m4
  obtain ⟨P0, hP0⟩ : ∃ P0, g0.params.length = P0 := ⟨_, rfl⟩
  obtain ⟨b0, hb0⟩ : ∃ b0, g0.result = b0 := ⟨_, rfl⟩
  rw [hP0] at m0 hr
  rw [hb0] at m4 hr
  have hZd : decide (Z ≤ 16) = true := decide_eq_true hZ16
  rw [hZd, Bool.true_and] at hr
  by_cases hp0 : P0 = 0
  case neg =>
    have hs : r = false := by rw [← hr]; simp [hp0]
    have hz5 : ((P0 : Int) != 0) = true := by simp; omega
    have HA := Lib.hid hA
    have Hb := Lib.hid hb
    have HP := Lib.hid hP
    have Hr := Lib.hid hr
    have HZ := Lib.hid hZ
    have Hs := Lib.hid hs
    have H := Lib.hid h
    have Hok := Lib.hid hok
    have HG := Lib.hid hG
    have HV := Lib.hid hV
    have HZ0 := Lib.hid hZ0
    have HM0 := Lib.hid hM0
    have Hg0 := Lib.hid hg0
    have HZd := Lib.hid hZd
    have HP0 := Lib.hid hP0
    have Hb0 := Lib.hid hb0
    clear hb0 hP0 hZd hg0 hM0 hZ0 hV hG hok h hs hZ hr hP hb hA
    clear hZ16 hp0
    go_enter Try.func10, Try.ntmps10
    go_upto_region 1 with fail
    rw [← HV.out, ← HG.out]
    go_wp2_with fail
    go_ret
    rw [Hs.out]
    exact ⟨rfl, Hb.out⟩
  have hz5 : ((P0 : Int) != 0) = false := by simp; omega
  have hPd : decide (P0 = 0) = true := decide_eq_true hp0
  rw [hPd, Bool.true_and] at hr
  cases b0
  case true =>
    have hs : r = false := by rw [← hr]; rfl
    have HA := Lib.hid hA
    have Hb := Lib.hid hb
    have HP := Lib.hid hP
    have Hr := Lib.hid hr
    have HZ := Lib.hid hZ
    have Hs := Lib.hid hs
    have H := Lib.hid h
    have Hok := Lib.hid hok
    have HG := Lib.hid hG
    have HV := Lib.hid hV
    have HZ0 := Lib.hid hZ0
    have HM0 := Lib.hid hM0
    have Hg0 := Lib.hid hg0
    have HZd := Lib.hid hZd
    have HP0 := Lib.hid hP0
    have Hb0 := Lib.hid hb0
    have HPd := Lib.hid hPd
    clear hPd hb0 hP0 hZd hg0 hM0 hZ0 hV hG hok h hs hZ hr hP hb hA
    clear hZ16 hp0
    go_enter Try.func10, Try.ntmps10
    go_upto_region 1 with fail
    rw [← HV.out, ← HG.out]
    go_wp2_with fail
    go_ret
    rw [Hs.out]
    exact ⟨rfl, Hb.out⟩
  case false =>
    rw [Bool.not_false, Bool.true_and] at hr
    have HA := Lib.hid hA
    have Hb := Lib.hid hb
    have HP := Lib.hid hP
    have Hr := Lib.hid hr
    have HZ := Lib.hid hZ
    have H := Lib.hid h
    have Hok := Lib.hid hok
    have HG := Lib.hid hG
    have HV := Lib.hid hV
    have HZ0 := Lib.hid hZ0
    have HM0 := Lib.hid hM0
    have Hg0 := Lib.hid hg0
    have HZd := Lib.hid hZd
    have HP0 := Lib.hid hP0
    have Hb0 := Lib.hid hb0
    have HPd := Lib.hid hPd
    clear hPd hb0 hP0 hZd hg0 hM0 hZ0 hV hG hok h hZ hr hP hb hA
    clear hp0
    go_enter Try.func10, Try.ntmps10
    go_upto_region 1 with fail
    rw [← HV.out, ← HG.out]
    go_wp2_with fail
    clear kp0 m0 m4
    go_loopw [40] (fun i wq => ∃ j : Nat, j ≤ Z ∧ i = .int .i64 j ∧ Below V.heap.size V wq ∧ Hid (∀ g ∈ gs.take j, headB g bound = true)) (fun i _ => Z - (intOf i).toNat)
    case atStart => exact ⟨0, by omega, rfl, Below.refl _ _, (show ∀ g ∈ gs.take 0, headB g bound = true by simp)⟩
    case round =>
      obtain ⟨j, hj, rfl, hbq, hall⟩ := hrel
      have hsq := hbq.size
      have hAq := HA.out.below (hbq.mono hBV)
      have hPq := HP.out.below hbq hGV
      have hbnd := Hb.out.trans (hbq.mono Hb.out.size)
      have kp0 := Blk.cell hPq 0
      simp only [List.getElem?_toArray, List.getElem?_cons_zero, List.getElem?_cons_succ] at kp0
      by_cases hjZ : j < Z
      · obtain ⟨g, hgj⟩ : ∃ g, gs[j]? = some g := ⟨_, List.getElem?_eq_getElem (by rw [HZ.out]; exact hjZ)⟩
        obtain ⟨ad', pv, kv, iv, nv, hadd, _, hM⟩ := hAq.at_ hgj
        injection hadd with hadd
        subst hadd
        have hgm := List.mem_of_getElem? hgj
        have hjI : (j : Int) < Z := by omega
        obtain ⟨PA, pn, pc, KA, kn, kc, IA, il, ic, NA, nn, nc, rfl, rfl, rfl, rfl, hpn, hkn, hil, hnn⟩ := hM.forms
        have m0 := hM.c0
        have m1 := hM.c1
        have m2 := hM.c2
        have m3 := hM.c3
        have m4 := hM.c4
        have m5 := hM.c5
        have m6 := hM.c6
        have m7 := hM.c7
        have hal := (Below.refl wr.heap.size wr).alloc (Nat.le_refl _) (.cells #[.slice PA pn pc, .slice KA kn kc, .int .i64 g.cells, .slice IA il ic, .bool g.result, .int .i64 g.keep, .slice NA nn nc, .int .i64 g.entry] 48)
        have hT3 := Blk.new wr 48 #[.slice PA pn pc, .slice KA kn kc, .int .i64 g.cells, .slice IA il ic, .bool g.result, .int .i64 g.keep, .slice NA nn nc, .int .i64 g.entry]
        have hM3 := hM.below (hal.mono (by omega))
        obtain ⟨W3, hW3⟩ : ∃ W3, W3 = wr.alloc (.cells #[.slice PA pn pc, .slice KA kn kc, .int .i64 g.cells, .slice IA il ic, .bool g.result, .int .i64 g.keep, .slice NA nn nc, .int .i64 g.entry] 48) := ⟨_, rfl⟩
        obtain ⟨T, hT⟩ : ∃ T, T = wr.heap.size := ⟨_, rfl⟩
        rw [← hW3] at hal hT3 hM3
        rw [← hT] at hT3
        have kt0 := Blk.cell hT3 0
        have kt1 := Blk.cell hT3 1
        have kt2 := Blk.cell hT3 2
        have kt3 := Blk.cell hT3 3
        have kt4 := Blk.cell hT3 4
        have kt5 := Blk.cell hT3 5
        have kt6 := Blk.cell hT3 6
        have kt7 := Blk.cell hT3 7
        simp only [List.getElem?_toArray, List.getElem?_cons_zero, List.getElem?_cons_succ] at kt0 kt1 kt2 kt3 kt4 kt5 kt6 kt7
        obtain ⟨bh, hbh⟩ : ∃ bh, headB g bound = bh := ⟨_, rfl⟩
        have hhd := refhead_any W3 g _ _ _ _ B (Nat.le_trans hBV (Nat.le_trans hsq hal.size)) hM3.params hM3.kinds hM3.init hM3.nodes (Hok.out.kinds g hgm) bound
        rw [hbh] at hhd
        have hstep : bh = true → ∀ g' ∈ gs.take (j + 1), headB g' bound = true := fun e g' hg' => by
          rw [List.take_add_one, hgj] at hg'
          rcases List.mem_append.1 hg' with h1 | h1
          · exact hall.out g' h1
          · simp at h1; rw [h1, hbh, e]
        have hbad : bh = false → r = false := fun e => by
          rw [← Hr.out]
          rcases hq : gs.all (fun g => headB g bound) with _ | _
          · rfl
          · rw [List.all_eq_true.1 hq g hgm] at hbh; rw [e] at hbh; cases hbh
        have hbqa := hbq.trans (hal.mono hsq)
        have hbna := hbnd.trans (hal.mono hbnd.size)
        have Hbq := Lib.hid hbq
        have Hall := Lib.hid hall
        have HAq := Lib.hid hAq
        have HPq := Lib.hid hPq
        have Hbnd := Lib.hid hbnd
        have Hgj := Lib.hid hgj
        have HM := Lib.hid hM
        have Hgm := Lib.hid hgm
        have Hal := Lib.hid hal
        have HT3 := Lib.hid hT3
        have HM3 := Lib.hid hM3
        have Hbh := Lib.hid hbh
        have Hhd := Lib.hid hhd
        have Hstep := Lib.hid hstep
        have Hbad := Lib.hid hbad
        have HW3 := Lib.hid hW3
        have HTT := Lib.hid hT
        have Hpn := Lib.hid hpn
        have Hkn := Lib.hid hkn
        have Hil := Lib.hid hil
        have Hnn := Lib.hid hnn
        have Hbqa := Lib.hid hbqa
        have Hbna := Lib.hid hbna
        clear hbna hbqa hnn hil hkn hpn hT hW3 hbad hstep hhd hbh hM3 hT3 hal hgm hM hgj hbnd hPq hAq hall hbq
        go_upto_region 6 with fail
        rw [← HW3.out, ← HTT.out]
        clear m0 m1 m2 m3 m4 m5 m6 m7 kp0
        go_wp2_with fail
        refine Hhd.out.mono ?_
        rintro e w8 ⟨rfl, hb8⟩
        have hbe := Hbqa.out.trans (hb8.mono Hbqa.out.size)
        have hbe2 := Hbna.out.trans (hb8.mono Hbna.out.size)
        clear hb8 kt0 kt1 kt2 kt3 kt4 kt5 kt6 kt7
        cases bh
        · have hs := Hbad.out rfl
          have Hs := Lib.hid hs
          have Hbe := Lib.hid hbe
          have Hbe2 := Lib.hid hbe2
          clear hbe2 hbe hs
          go_wp2_with fail
          go_ret
          rw [Hs.out]
          exact ⟨rfl, Hbe2.out⟩
        · have hs := Hstep.out rfl
          have Hs := Lib.hid hs
          have Hbe := Lib.hid hbe
          have Hbe2 := Lib.hid hbe2
          clear hbe2 hbe hs
          go_wp2_with fail
          exact ⟨⟨j + 1, by omega, by go_num, Hbe.out, Lib.hid Hs.out⟩, by simp [intOf]; omega⟩
      · have hheads : ∀ g ∈ gs, headB g bound = true := by
          rw [List.take_of_length_le (by rw [HZ.out]; omega)] at hall
          exact hall.out
        have hr2 : (gs.all fun g => g.nodes.all (nodeB gs g bound)) = r := by
          have h1 := Hr.out
          rw [List.all_eq_true.2 hheads, Bool.true_and] at h1
          exact h1
        have hjI : ¬ (j : Int) < Z := by omega
        have hpar : ∀ f ∈ gs, ∀ p ∈ f.params, 0 ≤ p ∧ p < f.kinds.length := fun f hf => (head_par (hheads f hf)).1
        have hpl : ∀ f ∈ gs, f.params.length ≤ 4 := fun f hf => (head_par (hheads f hf)).2.1
        have hkl : ∀ f ∈ gs, f.kinds.length ≤ 1024 := fun f hf => (head_par (hheads f hf)).2.2.1
        have hnl : ∀ f ∈ gs, f.nodes.length ≤ 4096 := fun f hf => (head_par (hheads f hf)).2.2.2
        have Hheads := Lib.hid hheads
        have Hr2 := Lib.hid hr2
        have Hpar := Lib.hid hpar
        have Hpl := Lib.hid hpl
        have Hkl := Lib.hid hkl
        have Hnl := Lib.hid hnl
        have Hbq := Lib.hid hbq
        have Hall := Lib.hid hall
        have HAq := Lib.hid hAq
        have HPq := Lib.hid hPq
        have Hbnd := Lib.hid hbnd
        clear hbnd hPq hAq hall hbq hnl hkl hpl hpar hr2 hheads
        go_wp2_with fail
        clear kp0
        go_loopw [52] (fun i wq => ∃ j : Nat, j ≤ Z ∧ i = .int .i64 j ∧ Below V.heap.size V wq ∧ Hid (∀ g ∈ gs.take j, g.nodes.all (nodeB gs g bound) = true)) (fun i _ => Z - (intOf i).toNat)
        case atStart => exact ⟨0, by omega, rfl, Hbq.out, (show ∀ g ∈ gs.take 0, g.nodes.all (nodeB gs g bound) = true by simp)⟩
        case round =>
          obtain ⟨j2, hj2, rfl, hbq2, hall2⟩ := hrel
          have hsq2 := hbq2.size
          have hAq2 := HA.out.below (hbq2.mono hBV)
          have hPq2 := HP.out.below hbq2 hGV
          have hbnd2 := Hb.out.trans (hbq2.mono Hb.out.size)
          have kp0 := Blk.cell hPq2 0
          simp only [List.getElem?_toArray, List.getElem?_cons_zero, List.getElem?_cons_succ] at kp0
          by_cases hjZ2 : j2 < Z
          · obtain ⟨g, hgj⟩ : ∃ g, gs[j2]? = some g := ⟨_, List.getElem?_eq_getElem (by rw [HZ.out]; exact hjZ2)⟩
            obtain ⟨ad', pv, kv, iv, nv, hadd, _, hM⟩ := hAq2.at_ hgj
            injection hadd with hadd
            subst hadd
            have hgm := List.mem_of_getElem? hgj
            have hjI2 : (j2 : Int) < Z := by omega
            obtain ⟨PA, pn, pc, KA, kn, kc, IA, il, ic, NA, nn, nc, rfl, rfl, rfl, rfl, hpn, hkn, hil, hnn⟩ := hM.forms
            have m0 := hM.c0
            have m1 := hM.c1
            have m2 := hM.c2
            have m3 := hM.c3
            have m4 := hM.c4
            have m5 := hM.c5
            have m6 := hM.c6
            have m7 := hM.c7
            have hal := (Below.refl wr.heap.size wr).alloc (Nat.le_refl _) (.cells #[.slice PA pn pc, .slice KA kn kc, .int .i64 g.cells, .slice IA il ic, .bool g.result, .int .i64 g.keep, .slice NA nn nc, .int .i64 g.entry] 48)
            have hT3 := Blk.new wr 48 #[.slice PA pn pc, .slice KA kn kc, .int .i64 g.cells, .slice IA il ic, .bool g.result, .int .i64 g.keep, .slice NA nn nc, .int .i64 g.entry]
            have hM3 := hM.below (hal.mono (by omega))
            obtain ⟨W3, hW3⟩ : ∃ W3, W3 = wr.alloc (.cells #[.slice PA pn pc, .slice KA kn kc, .int .i64 g.cells, .slice IA il ic, .bool g.result, .int .i64 g.keep, .slice NA nn nc, .int .i64 g.entry] 48) := ⟨_, rfl⟩
            obtain ⟨T, hT⟩ : ∃ T, T = wr.heap.size := ⟨_, rfl⟩
            rw [← hW3] at hal hT3 hM3
            rw [← hT] at hT3
            have kt6 := Blk.cell hT3 6
            simp only [List.getElem?_toArray, List.getElem?_cons_zero, List.getElem?_cons_succ] at kt6
            have hTl := hT3.lt
            obtain ⟨bh, hbh⟩ : ∃ bh, g.nodes.all (nodeB gs g bound) = bh := ⟨_, rfl⟩
            have hstep : bh = true → ∀ g' ∈ gs.take (j2 + 1), g'.nodes.all (nodeB gs g' bound) = true := fun e g' hg' => by
              rw [List.take_add_one, hgj] at hg'
              rcases List.mem_append.1 hg' with h1 | h1
              · exact hall2.out g' h1
              · simp at h1; rw [h1, hbh, e]
            have hbad : bh = false → r = false := fun e => by
              rw [← Hr2.out]
              rcases hq : (gs.all fun g => g.nodes.all (nodeB gs g bound)) with _ | _
              · rfl
              · rw [List.all_eq_true.1 hq g hgm] at hbh; rw [e] at hbh; cases hbh
            have hbq3 := hbq2.trans (hal.mono hsq2)
            have hbnd3 := hbnd2.trans (hal.mono hbnd2.size)
            have hn4 := Hnl.out g hgm
            rw [hnn] at hn4
            have hkg := Hok.out.kinds g hgm
            have Hbq2 := Lib.hid hbq2
            have Hall2 := Lib.hid hall2
            have HAq2 := Lib.hid hAq2
            have HPq2 := Lib.hid hPq2
            have Hbnd2 := Lib.hid hbnd2
            have Hgj := Lib.hid hgj
            have HM := Lib.hid hM
            have Hgm := Lib.hid hgm
            have Hal := Lib.hid hal
            have HT3 := Lib.hid hT3
            have HM3 := Lib.hid hM3
            have Hbh := Lib.hid hbh
            have Hstep := Lib.hid hstep
            have Hbad := Lib.hid hbad
            have HW3 := Lib.hid hW3
            have HTT := Lib.hid hT
            have Hpn := Lib.hid hpn
            have Hkn := Lib.hid hkn
            have Hil := Lib.hid hil
            have Hnn := Lib.hid hnn
            have Hbq3 := Lib.hid hbq3
            have Hbnd3 := Lib.hid hbnd3
            have Hkg := Lib.hid hkg
            clear hkg hbnd3 hbq3 hnn hil hkn hpn hT hW3 hbad hstep hbh hM3 hT3 hal hgm hM hgj hbnd2 hPq2 hAq2 hall2 hbq2
            go_upto_region 12 with fail
            rw [← HW3.out, ← HTT.out]
            clear m0 m1 m2 m3 m4 m5 m6 m7 kp0
            go_wp2_with fail
            clear kt6
            go_loopw [59] (fun i wq => ∃ k : Nat, k ≤ nn ∧ i = .int .i64 k ∧ Below W3.heap.size W3 wq ∧ Hid (∀ x ∈ g.nodes.take k, nodeB gs g bound x = true)) (fun i _ => nn - (intOf i).toNat)
            case atStart => exact ⟨0, by omega, rfl, Below.refl _ _, (show ∀ x ∈ g.nodes.take 0, nodeB gs g bound x = true by simp)⟩
            case round =>
              obtain ⟨k, hk, rfl, hbq4, hall4⟩ := hrel
              have hsq4 := hbq4.size
              have hbq5 := Hbq3.out.trans (hbq4.mono Hbq3.out.size)
              have hbnd4 := Hbnd3.out.trans (hbq4.mono Hbnd3.out.size)
              have hM4 := HM3.out.below (hbq4.mono (Nat.le_trans hBV Hbq3.out.size))
              have hT4 := HT3.out.below hbq4 hTl
              have hA4 := HA.out.below (hbq5.mono hBV)
              have hP4 := HP.out.below hbq5 hGV
              by_cases hkn' : k < nn
              · obtain ⟨x, hxk⟩ : ∃ x, g.nodes[k]? = some x := ⟨_, List.getElem?_eq_getElem (by rw [Hnn.out]; exact hkn')⟩
                have hxm := List.mem_of_getElem? hxk
                obtain ⟨nad, cs, hna, _, _, _, ⟨av, hcs, hav⟩, z0, nj⟩ := RowsAt.at_ hM4.nodes hxk
                subst hna hcs
                obtain ⟨AA, aac, hava, _, _, _⟩ := hav.slice
                subst hava
                have n0 : wr.cell? (nad.add (k * 12)) = some (.int .u8 x.op) := z0 _ rfl
                have n1 := nj 1 _ (by omega) rfl
                have n2 := nj 2 _ (by omega) rfl
                have n3 := nj 3 _ (by omega) rfl
                have n4 := nj 4 _ (by omega) rfl
                have n5 := nj 5 _ (by omega) rfl
                have n6 := nj 6 _ (by omega) rfl
                have n7 := nj 7 _ (by omega) rfl
                have n8 := nj 8 _ (by omega) rfl
                have n9 := nj 9 _ (by omega) rfl
                have n10 := nj 10 _ (by omega) rfl
                have n11 := nj 11 _ (by omega) rfl
                clear nj z0
                have hkI : (k : Int) < nn := by omega
                obtain ⟨bn, hbn⟩ : ∃ bn, nodeB gs g bound x = bn := ⟨_, rfl⟩
                have hstep4 : bn = true → ∀ y ∈ g.nodes.take (k + 1), nodeB gs g bound y = true := fun e y hy => by
                  rw [List.take_add_one, hxk] at hy
                  rcases List.mem_append.1 hy with h1 | h1
                  · exact hall4.out y h1
                  · simp at h1; rw [h1, hbn, e]
                have hbad4 : bn = false → r = false := fun e => Hbad.out (by
                  rw [← Hbh.out]
                  rcases hq : g.nodes.all (nodeB gs g bound) with _ | _
                  · rfl
                  · rw [List.all_eq_true.1 hq x hxm] at hbn; rw [e] at hbn; cases hbn)
                have hal4 := (Below.refl wr.heap.size wr).alloc (Nat.le_refl _) (.cells (ncells x (.slice AA x.args.length aac)).toArray 52)
                have hPn := Blk.new wr 52 (ncells x (.slice AA x.args.length aac)).toArray
                have hsB : B ≤ wr.heap.size := Nat.le_trans hBV hbq5.size
                have hav5 := hav.below (hal4.mono hsB)
                have hM5 := hM4.below (hal4.mono hsB)
                have hA5 := hA4.below (hal4.mono hsB)
                have hT5 := hT4.below hal4 hT4.lt
                have hP5 := hP4.below hal4 hP4.lt
                obtain ⟨G3, hG3⟩ : ∃ G3, G3 = wr.heap.size := ⟨_, rfl⟩
                have hbq6 := hbq4.trans (hal4.mono hsq4)
                have hbnd6 := hbnd4.trans (hal4.mono hbnd4.size)
                have hnd := refnode_all _ B (Nat.le_trans hsB hal4.size) _ gs hA5 g (.slice PA pn pc) (.slice KA kn kc) (.slice IA il ic) (.slice (some nad) nn nc) hM5.kinds hM5.nodes Hkg.out bound Hpar.out (by rw [HZ.out]; omega) x (.slice AA x.args.length aac) hav5 (Hok.out.args g Hgm.out x hxm) Hpl.out Hkl.out
                rw [hbn] at hnd
                obtain ⟨W4, hW4⟩ : ∃ W4, W4 = wr.alloc (.cells (ncells x (.slice AA x.args.length aac)).toArray 52) := ⟨_, rfl⟩
                rw [← hW4] at hPn hav5 hbq6 hbnd6 hnd hM5 hA5 hT5 hP5
                rw [← hG3] at hPn
                have hrange : W4.rangeAt G3 0 (ncells x (.slice AA x.args.length aac)) := fun j v hv => by
                  rw [hPn.cell (0 + j), Nat.zero_add, List.getElem?_toArray]
                  exact hv
                have hW4' : wr.alloc (.cells #[.int .u8 x.op, .int .u8 x.byo, .int .i64 x.d, .int .i64 x.e, .int .i64 x.a, .int .i64 x.b, .int .i64 x.f, .int .i64 x.cell, .int .u64 x.imm, .slice AA x.args.length aac, .int .i64 x.next, .int .i64 x.els] 52) = W4 := hW4.symm
                have kt0 := Blk.cell hT5 0
                have kt1 := Blk.cell hT5 1
                have kt2 := Blk.cell hT5 2
                have kt3 := Blk.cell hT5 3
                have kt4 := Blk.cell hT5 4
                have kt5 := Blk.cell hT5 5
                have kt6 := Blk.cell hT5 6
                have kt7 := Blk.cell hT5 7
                simp only [List.getElem?_toArray, List.getElem?_cons_zero, List.getElem?_cons_succ] at kt0 kt1 kt2 kt3 kt4 kt5 kt6 kt7
                have kp0 := Blk.cell hP5 0
                simp only [List.getElem?_toArray, List.getElem?_cons_zero, List.getElem?_cons_succ] at kp0
                have Hbq4 := Lib.hid hbq4
                have Hall4 := Lib.hid hall4
                have HM4 := Lib.hid hM4
                have HT4 := Lib.hid hT4
                have HA4 := Lib.hid hA4
                have HP4 := Lib.hid hP4
                have Hbnd4 := Lib.hid hbnd4
                have Hbq5 := Lib.hid hbq5
                have Hxk := Lib.hid hxk
                have Hxm := Lib.hid hxm
                have Hav := Lib.hid hav
                have Hbn := Lib.hid hbn
                have Hstep4 := Lib.hid hstep4
                have Hbad4 := Lib.hid hbad4
                have Hal4 := Lib.hid hal4
                have HPn := Lib.hid hPn
                have Hav5 := Lib.hid hav5
                have Hbq6 := Lib.hid hbq6
                have Hbnd6 := Lib.hid hbnd6
                have Hnd := Lib.hid hnd
                have Hrange := Lib.hid hrange
                have HW5 := Lib.hid hW4'
                have HG3 := Lib.hid hG3
                have HM5 := Lib.hid hM5
                have HA5 := Lib.hid hA5
                have HT5 := Lib.hid hT5
                have HP5 := Lib.hid hP5
                have HW4 := Lib.hid hW4
                clear hW4 hP5 hT5 hA5 hM5 hG3 hW4' hrange hnd hbnd6 hbq6 hav5 hPn hal4 hbad4 hstep4 hbn hav hxm hxk hbq5 hbnd4 hP4 hA4 hT4 hM4 hall4 hbq4
                go_upto_region 15 with fail
                rw [HW5.out, ← HG3.out]
                clear n0 n1 n2 n3 n4 n5 n6 n7 n8 n9 n10 n11
                go_wp2_with (refine wpList_load_mid rfl 52 _ rfl G3 0 rfl (ncells x (.slice AA x.args.length aac)) _ Hrange.out Try.underlying52 rfl (by kernel_rfl) ?_)
                refine Hnd.out.mono ?_
                rintro e w9 ⟨rfl, hb9⟩
                have hbe := Hbq6.out.trans (hb9.mono Hbq6.out.size)
                have hbe2 := Hbnd6.out.trans (hb9.mono Hbnd6.out.size)
                clear hb9 kt0 kt1 kt2 kt3 kt4 kt5 kt6 kt7 kp0
                cases bn
                · have hs := Hbad4.out rfl
                  have Hs := Lib.hid hs
                  have Hbe := Lib.hid hbe
                  have Hbe2 := Lib.hid hbe2
                  clear hbe2 hbe hs
                  go_wp2_with fail
                  go_ret
                  rw [Hs.out]
                  exact ⟨rfl, Hbe2.out⟩
                · have hs := Hstep4.out rfl
                  have Hs := Lib.hid hs
                  have Hbe := Lib.hid hbe
                  have Hbe2 := Lib.hid hbe2
                  clear hbe2 hbe hs
                  go_wp2_with fail
                  exact ⟨⟨k + 1, by omega, by go_num, Hbe.out, Lib.hid Hs.out⟩, by simp [intOf]; omega⟩
              · have hkI : ¬ (k : Int) < nn := by omega
                have hs := Hstep.out (by
                  rw [← Hbh.out]
                  rw [List.take_of_length_le (by rw [Hnn.out]; omega)] at hall4
                  exact List.all_eq_true.2 hall4.out)
                have Hs := Lib.hid hs
                have Hbq4 := Lib.hid hbq4
                have Hall4 := Lib.hid hall4
                have HM4 := Lib.hid hM4
                have HT4 := Lib.hid hT4
                have HA4 := Lib.hid hA4
                have HP4 := Lib.hid hP4
                have Hbq5 := Lib.hid hbq5
                have Hbnd4 := Lib.hid hbnd4
                clear hbnd4 hbq5 hP4 hA4 hT4 hM4 hall4 hbq4 hs
                go_wp2_with fail
                exact ⟨⟨j2 + 1, by omega, by go_num, Hbq5.out, Lib.hid Hs.out⟩, by simp [intOf]; omega⟩
          · have hs : r = true := by
              rw [← Hr2.out]
              rw [List.take_of_length_le (by rw [HZ.out]; omega)] at hall2
              exact List.all_eq_true.2 hall2.out
            have hjI2 : ¬ (j2 : Int) < Z := by omega
            have Hs := Lib.hid hs
            have Hbq2 := Lib.hid hbq2
            have Hall2 := Lib.hid hall2
            have HAq2 := Lib.hid hAq2
            have HPq2 := Lib.hid hPq2
            have Hbnd2 := Lib.hid hbnd2
            clear hbnd2 hPq2 hAq2 hall2 hbq2 hs
            go_wp2_with fail
            go_ret
            rw [Hs.out]
            exact ⟨rfl, Hbnd2.out⟩
end Go.Proofs.Ytncpehhfjkncoaa
