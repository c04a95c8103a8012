/- The walk of the law IrCopies. Conditions: what the law's arguments are read as. -/
import Derived.Test.YtfjalejlbegkeaaIrFirst
import Derived.Test.YtfjalejlbegkeaaIrSamePG
import Derived.Test.YtfjalejlbegkeaaIrMut
import Derived.Test.YtfjalejlbegkeaaOpenI
set_option linter.unusedVariables false
set_option linter.unusedSimpArgs false
namespace Go.Proofs.Ytfjalejlbegkeaa
open Go.RowKit

theorem GraphsWf.small' {gs : List GraphD} (h : GraphsWf gs) : GsSmall gs := ⟨fun g hg => ⟨(h.each g hg).lenP, (h.each g hg).lenK, (h.each g hg).lenI, (h.each g hg).lenN, fun x hx => ((h.each g hg).nodes x hx).len⟩, h.len⟩
theorem gcells_inj {g : GraphD} {pv kv iv nv pv' kv' iv' nv' : Value} (h : gcells g pv kv iv nv = gcells g pv' kv' iv' nv') : pv = pv' ∧ kv = kv' ∧ iv = iv' ∧ nv = nv' := by
  simp only [gcells, List.cons.injEq, and_true, true_and] at h
  exact h
theorem MInv.at_ {w : World} {M : Nat} {v : Value} {css : List (List Value)} {gs : List GraphD} {av : Nat → Nat → Value} {j : Nat} {g : GraphD} {pv kv iv nv : Value} (h : MInv w M v css gs av) (hg : gs[j]? = some g) (hc : css[j]? = some (gcells g pv kv iv nv)) :
    IR w M pv g.params.length ∧ KR w M kv g.kinds.length ∧ IR w M iv g.init.length ∧ NR w M nv g.nodes (av j) := by
  obtain ⟨cs, h1, pv', kv', iv', nv', rfl, a1, a2, a3, a4⟩ := h.2.2 j g hg
  rw [hc] at h1
  injection h1 with h1
  obtain ⟨rfl, rfl, rfl, rfl⟩ := gcells_inj h1
  exact ⟨a1, a2, a3, a4⟩
theorem MInv.len {w : World} {M : Nat} {v : Value} {css : List (List Value)} {gs : List GraphD} {av : Nat → Nat → Value} (h : MInv w M v css gs av) : ∀ c ∈ css, c.length = 8 := fun c hc => by
  obtain ⟨k, hk, rfl⟩ := List.getElem_of_mem hc
  have hk' : k < gs.length := by rw [← h.1]; exact hk
  obtain ⟨cs, h1, pv', kv', iv', nv', rfl, _⟩ := h.2.2 k gs[k] (List.getElem?_eq_getElem hk')
  rw [List.getElem?_eq_getElem hk] at h1
  injection h1 with h1
  rw [h1]; rfl
set_option maxRecDepth 100000 in
set_option maxHeartbeats 8000000 in
theorem walk_IrCopies (w : World) (gv0 : Value) (gs0 : List GraphD) (hg0 : GraphsIn w gv0 gs0) (gv1 : Value) (gs1 : List GraphD) (hg1 : GraphsIn w gv1 gs1) :
    Calls Try.prog 5 #[.agg #[gv0], .agg #[gv1]] w fun e w' => e = .returned (.bool true) ∧ Below w.heap.size w w' := by
  obtain ⟨hgs, hwf⟩ := hg0
  obtain ⟨hgs1, hwf1⟩ := hg1
  have hsm := hwf.small'
  obtain ⟨GA, hGA⟩ : ∃ GA, GA = w.heap.size := ⟨_, rfl⟩
  obtain ⟨GB, hGB⟩ : ∃ GB, GB = w.heap.size + 1 := ⟨_, rfl⟩
  have hP := (Blk.new w 24 #[gv0]).alloc (.cells #[gv1] 24)
  have hQ := Blk.new2 w (.cells #[gv0] 24) 24 #[gv1]
  have hb := ((Below.refl w.heap.size w).alloc (Nat.le_refl _) (.cells #[gv0] 24)).alloc (by simp) (.cells #[gv1] 24)
  have hA := hgs.below hb
  have hB := hgs1.below hb
  obtain ⟨V, hV⟩ : ∃ V, V = (w.alloc (.cells #[gv0] 24)).alloc (.cells #[gv1] 24) := ⟨_, rfl⟩
  rw [← hV] at hb hA hB hP hQ
  rw [← hGA] at hP
  rw [← hGB] at hQ
  have hPl := hP.lt
  have hQl := hQ.lt
  have Hb := Lib.hid hb
  have HP := Lib.hid hP
  have HQ := Lib.hid hQ
  have HA := Lib.hid hA
  have HB := Lib.hid hB
  have HV := Lib.hid hV
  have HGGA := Lib.hid hGA
  have HGGB := Lib.hid hGB
  have Hsm := Lib.hid hsm
  have Hgs := Lib.hid hgs
  have Hgs1 := Lib.hid hgs1
  have Hwf := Lib.hid hwf
  have Hwf1 := Lib.hid hwf1
  clear hwf1 hwf hgs1 hgs hsm hGB hGA hV hB hA hQ hP hb
  go_enter Try.func5, Try.ntmps5
  go_upto_region 1 with fail
  rw [← HV.out, ← HGGB.out, ← HGGA.out]
  go_wp2_with fail
  refine (first_any V).mono ?_
  rintro e w1 ⟨rfl, hb1⟩
  have hbw1 := Hb.out.trans (hb1.mono Hb.out.size)
  have hA1 := HA.out.below (hb1.mono Hb.out.size)
  have hB1 := HB.out.below (hb1.mono Hb.out.size)
  have hP1 := HP.out.below hb1 hPl
  have hQ1 := HQ.out.below hb1 hQl
  have kp0 := Blk.cell hP1 0
  simp only [List.getElem?_toArray, List.getElem?_cons_zero, List.getElem?_cons_succ] at kp0
  have hz1 := hbw1.size
  have Hbw1 := Lib.hid hbw1
  have HA1 := Lib.hid hA1
  have HB1 := Lib.hid hB1
  have HP1 := Lib.hid hP1
  have HQ1 := Lib.hid hQ1
  clear hQ1 hP1 hB1 hA1 hbw1
  clear hb1
  go_wp2_with fail
  refine (refcopy_any gv0 gs0 w1 w.heap.size HA1.out hz1 Hsm.out).mono ?_
  rintro e w2 hcp
  obtain ⟨hb2, pv, css0, rfl, hO, hC⟩ := hcp
  obtain ⟨PA, pc, rfl, hpc, hpc2, _⟩ := own_any hO
  have hWas := hC.at_ hO
  have hbw2 := Hbw1.out.trans (hb2.mono Hbw1.out.size)
  have hA2 := HA1.out.below (hb2.mono hz1)
  have hB2 := HB1.out.below (hb2.mono hz1)
  have hP2 := HP1.out.below hb2 HP1.out.lt
  have hQ2 := HQ1.out.below hb2 HQ1.out.lt
  have hal := (Below.refl w2.heap.size w2).alloc (Nat.le_refl _) (.cells #[.slice PA gs0.length pc] 24)
  have hT := Blk.new w2 24 #[.slice PA gs0.length pc]
  obtain ⟨W3, hW3⟩ : ∃ W3, W3 = w2.alloc (.cells #[.slice PA gs0.length pc] 24) := ⟨_, rfl⟩
  obtain ⟨T, hTT⟩ : ∃ T, T = w2.heap.size := ⟨_, rfl⟩
  obtain ⟨wv, hwv⟩ : ∃ wv, wv = Value.slice PA gs0.length pc := ⟨_, rfl⟩
  rw [← hW3] at hal hT
  rw [← hTT] at hT
  have hWas3 := (hWas.below hal).more hal.size
  have hbw3 := hbw2.trans (hal.mono hbw2.size)
  have hA3 := hA2.below (hal.mono hbw2.size)
  have hB3 := hB2.below (hal.mono hbw2.size)
  have hP3 := hP2.below hal hP2.lt
  have hQ3 := hQ2.below hal hQ2.lt
  have hz3 := hbw3.size
  clear kp0
  have kp0 := Blk.cell hP3 0
  simp only [List.getElem?_toArray, List.getElem?_cons_zero, List.getElem?_cons_succ] at kp0
  have Hb2 := Lib.hid hb2
  have HO := Lib.hid hO
  have HC := Lib.hid hC
  have HWas := Lib.hid hWas
  have Hbw2 := Lib.hid hbw2
  have HA2 := Lib.hid hA2
  have HB2 := Lib.hid hB2
  have HP2 := Lib.hid hP2
  have HQ2 := Lib.hid hQ2
  have Hal := Lib.hid hal
  have HT := Lib.hid hT
  have HW3 := Lib.hid hW3
  have HTT := Lib.hid hTT
  have HWas3 := Lib.hid hWas3
  have Hbw3 := Lib.hid hbw3
  have HA3 := Lib.hid hA3
  have HB3 := Lib.hid hB3
  have HP3 := Lib.hid hP3
  have HQ3 := Lib.hid hQ3
  have Hwv := Lib.hid hwv
  clear hwv hQ3 hP3 hB3 hA3 hbw3 hWas3 hTT hW3 hT hal hQ2 hP2 hB2 hA2 hbw2 hWas hC hO hb2
  go_upto_region 4 with fail
  rw [← HW3.out, ← HTT.out]
  go_wp2_with fail
  refine (copy_any gv0 gs0 W3 w.heap.size HA3.out hz3 Hsm.out).mono ?_
  rintro e w4 hcp
  obtain ⟨hb4, cv, css, rfl, hO4, hC4⟩ := hcp
  obtain ⟨CA, cc, rfl, hcc, hcc2, _⟩ := own_any hO4
  have hCat := hC4.at_ hO4
  obtain ⟨av, hM4⟩ := MInv.of_own hC4 hO4
  obtain ⟨M, hMM⟩ : ∃ M, M = W3.heap.size := ⟨_, rfl⟩
  rw [← hMM] at hM4 hb4
  have hal4 := (Below.refl w4.heap.size w4).alloc (Nat.le_refl _) (.cells #[.slice CA gs0.length cc] 24)
  have hCb := Blk.new w4 24 #[.slice CA gs0.length cc]
  obtain ⟨W5, hW5⟩ : ∃ W5, W5 = w4.alloc (.cells #[.slice CA gs0.length cc] 24) := ⟨_, rfl⟩
  obtain ⟨C, hCC⟩ : ∃ C, C = w4.heap.size := ⟨_, rfl⟩
  rw [← hW5] at hal4 hCb
  rw [← hCC] at hCb
  have hM5 := hM4.kept hal4
  have hMw4 : M ≤ w4.heap.size := by have := hb4.size; omega
  have hb5 := hb4.trans (hal4.mono hMw4)
  have hwM : w.heap.size ≤ M := by omega
  have hbw5 := Hbw3.out.trans (hb5.mono hwM)
  have hCat5 := (hCat.below hal4).more hal4.size
  have hA5 := HA3.out.below (hb5.mono hwM)
  have hB5 := HB3.out.below (hb5.mono hwM)
  have hP5 := HP3.out.below hb5 (by rw [hMM]; exact HP3.out.lt)
  have hQ5 := HQ3.out.below hb5 (by rw [hMM]; exact HQ3.out.lt)
  have hT5 := HT.out.below hb5 (by rw [hMM]; exact HT.out.lt)
  have hWas5 := HWas3.out.below (by rw [← hMM]; exact hb5)
  have hT3l : T < M := by rw [hMM]; exact HT.out.lt
  have hP3l : GA < M := by rw [hMM]; exact HP3.out.lt
  have hQ3l : GB < M := by rw [hMM]; exact HQ3.out.lt
  have hCl : M ≤ C := by rw [hCC]; exact hMw4
  rw [← hMM] at hWas5
  have hz5 := hbw5.size
  have hzM := hb5.size
  clear kp0
  have ka0 := Blk.cell hP5 0
  simp only [List.getElem?_toArray, List.getElem?_cons_zero, List.getElem?_cons_succ] at ka0
  have kb0 := Blk.cell hQ5 0
  simp only [List.getElem?_toArray, List.getElem?_cons_zero, List.getElem?_cons_succ] at kb0
  have kt0 := Blk.cell hT5 0
  simp only [List.getElem?_toArray, List.getElem?_cons_zero, List.getElem?_cons_succ] at kt0
  have kc0 := Blk.cell hCb 0
  simp only [List.getElem?_toArray, List.getElem?_cons_zero, List.getElem?_cons_succ] at kc0
  have HO4 := Lib.hid hO4
  have HC4 := Lib.hid hC4
  have HCat := Lib.hid hCat
  have HM4 := Lib.hid hM4
  have Hb4 := Lib.hid hb4
  have Hal4 := Lib.hid hal4
  have HCb := Lib.hid hCb
  have HW5 := Lib.hid hW5
  have HCC := Lib.hid hCC
  have HM5 := Lib.hid hM5
  have Hb5 := Lib.hid hb5
  have Hbw5 := Lib.hid hbw5
  have HCat5 := Lib.hid hCat5
  have HA5 := Lib.hid hA5
  have HB5 := Lib.hid hB5
  have HP5 := Lib.hid hP5
  have HQ5 := Lib.hid hQ5
  have HT5 := Lib.hid hT5
  have HWas5 := Lib.hid hWas5
  have HMM := Lib.hid hMM
  clear hMM hWas5 hT5 hQ5 hP5 hB5 hA5 hCat5 hbw5 hb5 hM5 hCC hW5 hCb hal4 hb4 hM4 hCat hC4 hO4
  go_upto_region 5 with fail
  rw [← HW5.out, ← HCC.out]
  have kA : GraphsAt W5 W5.heap.size gv0 gs0 := HA5.out.more hz5
  have kB : GraphsAt W5 W5.heap.size gv1 gs1 := HB5.out.more hz5
  have kW : GraphsAt W5 W5.heap.size (.slice PA gs0.length pc) gs0 := HWas5.out.more (by have := HMM.out; omega)
  have kC : GraphsAt W5 W5.heap.size (.slice CA gs0.length cc) gs0 := HCat5.out
  have hlC : C < W5.heap.size := HCb.out.lt
  have hlT : T < W5.heap.size := by omega
  have hlA : GA < W5.heap.size := by omega
  have hlB : GB < W5.heap.size := by omega
  have hkeep : ∀ W W' : World, (W.cell? ⟨C, 0, none⟩ = some (.slice CA gs0.length cc) ∧ W.cell? ⟨T, 0, none⟩ = some (.slice PA gs0.length pc) ∧ W.cell? ⟨GA, 0, none⟩ = some gv0 ∧ W.cell? ⟨GB, 0, none⟩ = some gv1 ∧ Hid (Below W5.heap.size W5 W)) → Below W.heap.size W W' → (W'.cell? ⟨C, 0, none⟩ = some (.slice CA gs0.length cc) ∧ W'.cell? ⟨T, 0, none⟩ = some (.slice PA gs0.length pc) ∧ W'.cell? ⟨GA, 0, none⟩ = some gv0 ∧ W'.cell? ⟨GB, 0, none⟩ = some gv1 ∧ Hid (Below W5.heap.size W5 W')) := fun W W' h hb => by
    have hs := h.2.2.2.2.out.size
    exact ⟨(hb.cell (p := ⟨C, 0, none⟩) (Nat.lt_of_lt_of_le hlC hs)).trans h.1, (hb.cell (p := ⟨T, 0, none⟩) (Nat.lt_of_lt_of_le hlT hs)).trans h.2.1, (hb.cell (p := ⟨GA, 0, none⟩) (Nat.lt_of_lt_of_le hlA hs)).trans h.2.2.1, (hb.cell (p := ⟨GB, 0, none⟩) (Nat.lt_of_lt_of_le hlB hs)).trans h.2.2.2.1, Lib.hid (h.2.2.2.2.out.trans (hb.mono hs))⟩
  have KA0 := Lib.hid kA
  have KB0 := Lib.hid kB
  have KW0 := Lib.hid kW
  have KC0 := Lib.hid kC
  have Hkeep := Lib.hid hkeep
  clear hkeep kC kW kB kA
  go_cut [38] (fun t wx => t = .bool false ∧ Below W5.heap.size W5 wx)
  case first =>
    as_aux_lemma =>
    refine wp_region_noPanic ?_
    refine wp_region_held_drew (S := fun W => W.cell? ⟨C, 0, none⟩ = some (.slice CA gs0.length cc) ∧ W.cell? ⟨T, 0, none⟩ = some (.slice PA gs0.length pc) ∧ W.cell? ⟨GA, 0, none⟩ = some gv0 ∧ W.cell? ⟨GB, 0, none⟩ = some gv1 ∧ Hid (Below W5.heap.size W5 W)) (by kernel_rfl) ⟨kc0, kt0, ka0, kb0, Lib.hid (Below.refl _ _).drew⟩ (fun hHeld => ?_)
    refine wpAnyH_take (i := 0) (v := ?_) rfl (by kernel_rfl) (by kernel_rfl) (by kernel_rfl) (fun _ _ _ h => h) (Or.inl ⟨by rfl, ?_⟩) (by assumption) ?_
    rotate_left
    · intro w hSw; (try dsimp only at hSw); go_simp; try with_reducible rfl
    simp only [Act.put, List.getElem_toArray, List.getElem_cons_zero, List.getElem_cons_succ, List.setIfInBounds_toArray, List.set_cons_zero, List.set_cons_succ]
    refine wpAnyH_take (i := 1) (v := ?_) rfl (by kernel_rfl) (by kernel_rfl) (by kernel_rfl) (fun _ _ _ h => h) (Or.inl ⟨by rfl, ?_⟩) (by assumption) ?_
    rotate_left
    · intro w hSw; (try dsimp only at hSw); go_simp; try with_reducible rfl
    simp only [Act.put, List.getElem_toArray, List.getElem_cons_zero, List.getElem_cons_succ, List.setIfInBounds_toArray, List.set_cons_zero, List.set_cons_succ]
    refine wpAnyH_ready (rs := [2]) (by kernel_rfl) (by simp) ?_
    refine AllReadyH.cons rfl (fun K hK => ?_) AllReadyH.nil
    go_simp
    refine (refsame_any _ _ gs0 gs0 _ W5.heap.size hHeld.2.2.2.2.out.size (KC0.out.below hHeld.2.2.2.2.out) (KW0.out.below hHeld.2.2.2.2.out)).mono ?_
    rintro e w6 ⟨rfl, hb6⟩
    have hS := Hkeep.out _ _ hHeld hb6
    rw [(eqGs_iff gs0 gs0).2 rfl]
    refine hK.out _ _ hS (fun hHeld2 => ?_)
    clear hK K hHeld hb6 hS
    try simp only [Act.put, List.getElem_toArray, List.getElem_cons_zero, List.getElem_cons_succ, List.setIfInBounds_toArray, List.set_cons_zero, List.set_cons_succ]
    refine wpAnyH_take (i := 3) (v := ?_) rfl (by kernel_rfl) (by kernel_rfl) (by kernel_rfl) (fun _ _ _ h => h) (Or.inl ⟨by rfl, ?_⟩) (by assumption) ?_
    rotate_left
    · intro w hSw; (try dsimp only at hSw); go_simp; try with_reducible rfl
    simp only [Act.put, List.getElem_toArray, List.getElem_cons_zero, List.getElem_cons_succ, List.setIfInBounds_toArray, List.set_cons_zero, List.set_cons_succ]
    refine wpAnyH_take (i := 4) (v := ?_) rfl (by kernel_rfl) (by kernel_rfl) (by kernel_rfl) (fun _ _ _ h => h) (Or.inl ⟨by rfl, ?_⟩) (by assumption) ?_
    rotate_left
    · intro w hSw; (try dsimp only at hSw); go_simp; try with_reducible rfl
    simp only [Act.put, List.getElem_toArray, List.getElem_cons_zero, List.getElem_cons_succ, List.setIfInBounds_toArray, List.set_cons_zero, List.set_cons_succ]
    refine wpAnyH_take (i := 5) (v := ?_) rfl (by kernel_rfl) (by kernel_rfl) (by kernel_rfl) (fun _ _ _ h => h) (Or.inl ⟨by rfl, ?_⟩) (by assumption) ?_
    rotate_left
    · intro w hSw; (try dsimp only at hSw); go_simp; try with_reducible rfl
    simp only [Act.put, List.getElem_toArray, List.getElem_cons_zero, List.getElem_cons_succ, List.setIfInBounds_toArray, List.set_cons_zero, List.set_cons_succ]
    refine wpAnyH_take (i := 6) (v := ?_) rfl (by kernel_rfl) (by kernel_rfl) (by kernel_rfl) (fun _ _ _ h => h) (Or.inl ⟨by rfl, ?_⟩) (by assumption) ?_
    rotate_left
    · intro w hSw; (try dsimp only at hSw); go_simp; try with_reducible rfl
    simp only [Act.put, List.getElem_toArray, List.getElem_cons_zero, List.getElem_cons_succ, List.setIfInBounds_toArray, List.set_cons_zero, List.set_cons_succ]
    refine wpAnyH_ready (rs := [7]) (by kernel_rfl) (by simp) ?_
    refine AllReadyH.cons rfl (fun K hK => ?_) AllReadyH.nil
    go_simp
    refine (same_any _ _ gs0 gs0 _ W5.heap.size hHeld2.2.2.2.2.out.size (KC0.out.below hHeld2.2.2.2.2.out) (KA0.out.below hHeld2.2.2.2.2.out)).mono ?_
    rintro e w7 ⟨rfl, hb7⟩
    have hS := Hkeep.out _ _ hHeld2 hb7
    rw [(eqGs_iff gs0 gs0).2 rfl]
    refine hK.out _ _ hS (fun hHeld => ?_)
    clear hK K hHeld2 hb7 hS
    try simp only [Act.put, List.getElem_toArray, List.getElem_cons_zero, List.getElem_cons_succ, List.setIfInBounds_toArray, List.set_cons_zero, List.set_cons_succ]
    refine wpAnyH_take (i := 8) (v := ?_) rfl (by kernel_rfl) (by kernel_rfl) (by kernel_rfl) (fun _ _ _ h => h) (Or.inl ⟨by rfl, ?_⟩) (by assumption) ?_
    rotate_left
    · intro w hSw; (try dsimp only at hSw); go_simp; try with_reducible rfl
    simp only [Act.put, List.getElem_toArray, List.getElem_cons_zero, List.getElem_cons_succ, List.setIfInBounds_toArray, List.set_cons_zero, List.set_cons_succ]
    refine wpAnyH_take (i := 9) (v := ?_) rfl (by kernel_rfl) (by kernel_rfl) (by kernel_rfl) (fun _ _ _ h => h) (Or.inl ⟨by rfl, ?_⟩) (by assumption) ?_
    rotate_left
    · intro w hSw; (try dsimp only at hSw); go_simp; try with_reducible rfl
    simp only [Act.put, List.getElem_toArray, List.getElem_cons_zero, List.getElem_cons_succ, List.setIfInBounds_toArray, List.set_cons_zero, List.set_cons_succ]
    refine wpAnyH_take (i := 10) (v := ?_) rfl (by kernel_rfl) (by kernel_rfl) (by kernel_rfl) (fun _ _ _ h => h) (Or.inl ⟨by rfl, ?_⟩) (by assumption) ?_
    rotate_left
    · intro w hSw; (try dsimp only at hSw); go_simp; try with_reducible rfl
    simp only [Act.put, List.getElem_toArray, List.getElem_cons_zero, List.getElem_cons_succ, List.setIfInBounds_toArray, List.set_cons_zero, List.set_cons_succ]
    refine wpAnyH_take (i := 11) (v := ?_) rfl (by kernel_rfl) (by kernel_rfl) (by kernel_rfl) (fun _ _ _ h => h) (Or.inl ⟨by rfl, ?_⟩) (by assumption) ?_
    rotate_left
    · intro w hSw; (try dsimp only at hSw); go_simp; try with_reducible rfl
    simp only [Act.put, List.getElem_toArray, List.getElem_cons_zero, List.getElem_cons_succ, List.setIfInBounds_toArray, List.set_cons_zero, List.set_cons_succ]
    refine wpAnyH_take (i := 12) (v := ?_) rfl (by kernel_rfl) (by kernel_rfl) (by kernel_rfl) (fun _ _ _ h => h) (Or.inl ⟨by rfl, ?_⟩) (by assumption) ?_
    rotate_left
    · intro w hSw; (try dsimp only at hSw); go_simp; try with_reducible rfl
    simp only [Act.put, List.getElem_toArray, List.getElem_cons_zero, List.getElem_cons_succ, List.setIfInBounds_toArray, List.set_cons_zero, List.set_cons_succ]
    refine wpAnyH_take (i := 14) (v := ?_) rfl (by kernel_rfl) (by kernel_rfl) (by kernel_rfl) (fun _ _ _ h => h) (Or.inl ⟨by rfl, ?_⟩) (by assumption) ?_
    rotate_left
    · intro w hSw; (try dsimp only at hSw); go_simp; try with_reducible rfl
    simp only [Act.put, List.getElem_toArray, List.getElem_cons_zero, List.getElem_cons_succ, List.setIfInBounds_toArray, List.set_cons_zero, List.set_cons_succ]
    refine wpAnyH_take (i := 15) (v := ?_) rfl (by kernel_rfl) (by kernel_rfl) (by kernel_rfl) (fun _ _ _ h => h) (Or.inl ⟨by rfl, ?_⟩) (by assumption) ?_
    rotate_left
    · intro w hSw; (try dsimp only at hSw); go_simp; try with_reducible rfl
    simp only [Act.put, List.getElem_toArray, List.getElem_cons_zero, List.getElem_cons_succ, List.setIfInBounds_toArray, List.set_cons_zero, List.set_cons_succ]
    refine wpAnyH_ready (rs := [13]) (by kernel_rfl) (by simp) ?_
    refine AllReadyH.cons rfl (fun K hK => ?_) AllReadyH.nil
    go_simp
    obtain ⟨bb, hbb⟩ : ∃ bb, eqGs gs0 gs1 = bb := ⟨_, rfl⟩
    refine (same_any _ _ gs0 gs1 _ W5.heap.size hHeld.2.2.2.2.out.size (KA0.out.below hHeld.2.2.2.2.out) (KB0.out.below hHeld.2.2.2.2.out)).mono ?_
    rintro e w8 ⟨rfl, hb8⟩
    have hS := Hkeep.out _ _ hHeld hb8
    rw [hbb]
    have Hbb := Lib.hid hbb
    clear hbb
    refine hK.out _ _ hS (fun hHeld2 => ?_)
    clear hK K hHeld hb8 hS
    try simp only [Act.put, List.getElem_toArray, List.getElem_cons_zero, List.getElem_cons_succ, List.setIfInBounds_toArray, List.set_cons_zero, List.set_cons_succ]
    refine wpAnyH_ready (rs := [16]) (by kernel_rfl) (by simp) ?_
    refine AllReadyH.cons rfl (fun K hK => ?_) AllReadyH.nil
    go_simp
    refine (refsame_any _ _ gs0 gs1 _ W5.heap.size hHeld2.2.2.2.2.out.size (KA0.out.below hHeld2.2.2.2.2.out) (KB0.out.below hHeld2.2.2.2.2.out)).mono ?_
    rintro e w9 ⟨rfl, hb9⟩
    have hS := Hkeep.out _ _ hHeld2 hb9
    rw [Hbb.out]
    refine hK.out _ _ hS (fun hHeld => ?_)
    clear hK K hHeld2 hb9 hS
    try simp only [Act.put, List.getElem_toArray, List.getElem_cons_zero, List.getElem_cons_succ, List.setIfInBounds_toArray, List.set_cons_zero, List.set_cons_succ]
    cases bb
    all_goals
      refine wpAnyH_take (i := 17) (v := ?_) rfl (by kernel_rfl) (by kernel_rfl) (by kernel_rfl) (fun _ _ _ h => h) (Or.inl ⟨by rfl, ?_⟩) (by assumption) ?_
      rotate_left
      · intro w hSw; (try dsimp only at hSw); go_simp; try with_reducible rfl
      simp only [Act.put, List.getElem_toArray, List.getElem_cons_zero, List.getElem_cons_succ, List.setIfInBounds_toArray, List.set_cons_zero, List.set_cons_succ]
      refine wpAnyH_take (i := 18) (v := ?_) rfl (by kernel_rfl) (by kernel_rfl) (by kernel_rfl) (fun _ _ _ h => h) (Or.inl ⟨by rfl, ?_⟩) (by assumption) ?_
      rotate_left
      · intro w hSw; (try dsimp only at hSw); go_simp; try with_reducible rfl
      simp only [Act.put, List.getElem_toArray, List.getElem_cons_zero, List.getElem_cons_succ, List.setIfInBounds_toArray, List.set_cons_zero, List.set_cons_succ]
      refine wpAnyH_done (by kernel_rfl) ?_ _
      refine NoPanic.normal ?_
      have hfin := hHeld.2.2.2.2
      clear hHeld
      go_wp2_with fail
      go_meet
      exact ⟨rfl, hfin.out⟩
  case rest =>
    obtain ⟨rfl, hbc⟩ := hcut
    have hbMc : Below M W5 wc := hbc.mono (by have := HMM.out; omega)
    have hMc := HM5.out.kept hbc
    have hCc := HCb.out.below hbc hlC
    have hMW5 : M ≤ W5.heap.size := by have := HMM.out; omega
    clear ka0 kb0 kt0 kc0
    have kc0 := Blk.cell hCc 0
    simp only [List.getElem?_toArray, List.getElem?_cons_zero, List.getElem?_cons_succ] at kc0
    have Hbc := Lib.hid hbc
    have HbMc := Lib.hid hbMc
    have HMc := Lib.hid hMc
    have HCc := Lib.hid hCc
    clear hCc hMc hbMc hbc
    go_wp2_with fail
    clear kc0
    have hgl : gs0.length ≤ 9223372036854775807 := by unfold maxLen at hcc2; omega
    go_loopw [42] (fun i wr => ∃ j : Nat, j ≤ gs0.length ∧ i = .int .i64 j ∧ Below M W5 wr ∧ Blk wr C 24 #[.slice CA gs0.length cc] ∧ MInv wr M (.slice CA gs0.length cc) css gs0 av) (fun i _ => gs0.length - (intOf i).toNat)
    case atStart => exact ⟨0, by omega, rfl, HbMc.out, HCc.out, HMc.out⟩
    case round =>
      obtain ⟨j, hj, rfl, hbo, hCo, hMo⟩ := hrel
      have hso := hbo.size
      by_cases hlt : j < gs0.length
      · as_aux_lemma =>
        have hjI : (j : Int) < gs0.length := by omega
        obtain ⟨g, hgj⟩ : ∃ g, gs0[j]? = some g := ⟨_, List.getElem?_eq_getElem hlt⟩
        obtain ⟨cs, hcsj, pv, kv, iv, nv, rfl, hPr, hKr, hIr, hNr⟩ := hMo.2.2 j g hgj
        obtain ⟨PA2, pc2, rfl, hb1, hb1'⟩ := hPr.form
        obtain ⟨KA2, kc2, rfl, hb2, hb2'⟩ := hKr.form
        obtain ⟨IA2, ic2, rfl, hb3, hb3'⟩ := hIr.form
        obtain ⟨NA2, nc2, rfl, hb4, hb4'⟩ := hNr.form
        obtain ⟨_, gC, hgC, hgM, ⟨gcb, hgcb⟩, hcc8⟩ := own_row hMo.2.1 (by omega)
        subst hgC
        unfold maxLen at hb1' hb2' hb3' hb4'
        have h8 := hMo.len
        have hcell : ∀ t u, t < 8 → (gcells g (.slice PA2 g.params.length pc2) (.slice KA2 g.kinds.length kc2) (.slice IA2 g.init.length ic2) (.slice NA2 g.nodes.length nc2))[t]? = some u → wr.cell? ⟨gC, j * 8 + t, none⟩ = some u := fun t u ht hu => by
          have h := hcc8 (j * 8 + t) u (by rw [flatten_get css 8 j _ hcsj h8 t ht]; exact hu)
          rwa [addr_zero] at h
        have m0 := hcell 0 _ (by omega) rfl
        rw [Nat.add_zero] at m0
        have m1 := hcell 1 _ (by omega) rfl
        have m2 := hcell 2 _ (by omega) rfl
        have m3 := hcell 3 _ (by omega) rfl
        have m4 := hcell 4 _ (by omega) rfl
        have m5 := hcell 5 _ (by omega) rfl
        have m6 := hcell 6 _ (by omega) rfl
        have m7 := hcell 7 _ (by omega) rfl
        have kc0 := Blk.cell hCo 0
        simp only [List.getElem?_toArray, List.getElem?_cons_zero, List.getElem?_cons_succ] at kc0
        obtain ⟨pn, hpn⟩ : ∃ pn, g.params.length = pn := ⟨_, rfl⟩
        obtain ⟨kn, hkn⟩ : ∃ kn, g.kinds.length = kn := ⟨_, rfl⟩
        obtain ⟨il, hil⟩ : ∃ il, g.init.length = il := ⟨_, rfl⟩
        obtain ⟨nn, hnn⟩ : ∃ nn, g.nodes.length = nn := ⟨_, rfl⟩
        rw [hpn] at m0 hb1 hcsj
        rw [hkn] at m1 hb2 hcsj
        rw [hil] at m3 hb3 hcsj
        rw [hnn] at m6 hb4 hcsj
        clear hcell hPr hKr hIr hNr
        have hal := (Below.refl wr.heap.size wr).alloc (Nat.le_refl _) (.cells #[.slice PA2 pn pc2, .slice KA2 kn kc2, .int .i64 g.cells, .slice IA2 il ic2, .bool g.result, .int .i64 g.keep, .slice NA2 nn nc2, .int .i64 g.entry] 45)
        have hFb := Blk.new wr 45 #[.slice PA2 pn pc2, .slice KA2 kn kc2, .int .i64 g.cells, .slice IA2 il ic2, .bool g.result, .int .i64 g.keep, .slice NA2 nn nc2, .int .i64 g.entry]
        obtain ⟨W6, hW6⟩ : ∃ W6, W6 = wr.alloc (.cells #[.slice PA2 pn pc2, .slice KA2 kn kc2, .int .i64 g.cells, .slice IA2 il ic2, .bool g.result, .int .i64 g.keep, .slice NA2 nn nc2, .int .i64 g.entry] 45) := ⟨_, rfl⟩
        obtain ⟨F, hFF⟩ : ∃ F, F = wr.heap.size := ⟨_, rfl⟩
        rw [← hW6] at hal hFb
        rw [← hFF] at hFb
        have hM6 := hMo.kept hal
        have hC6 := hCo.below hal hCo.lt
        have hb6 := hbo.trans (hal.mono (by omega))
        have kf0 := Blk.cell hFb 0
        simp only [List.getElem?_toArray, List.getElem?_cons_zero, List.getElem?_cons_succ] at kf0
        have Hgj := Lib.hid hgj
        have Hcsj := Lib.hid hcsj
        have Hbo := Lib.hid hbo
        have HCo := Lib.hid hCo
        have HMo := Lib.hid hMo
        have Hcc8 := Lib.hid hcc8
        have H8 := Lib.hid h8
        have Hgcb := Lib.hid hgcb
        have Hpn := Lib.hid hpn
        have Hkn := Lib.hid hkn
        have Hil := Lib.hid hil
        have Hnn := Lib.hid hnn
        have Hal := Lib.hid hal
        have HFb := Lib.hid hFb
        have HW6 := Lib.hid hW6
        have HFF := Lib.hid hFF
        have HM6 := Lib.hid hM6
        have HC6 := Lib.hid hC6
        have Hb6 := Lib.hid hb6
        clear hb6 hC6 hM6 hFF hW6 hFb hal hnn hil hkn hpn hgcb h8 hcc8 hMo hCo hbo hcsj hgj
        go_upto_region 11 with fail
        rw [← HW6.out, ← HFF.out]
        clear m0 m1 m2 m3 m4 m5 m6 m7 kc0
        go_wp2_with fail
        clear kf0
        go_loopw [53] (fun i wq => ∃ k : Nat, k ≤ pn ∧ i = .int .i64 k ∧ Below M W5 wq ∧ Blk wq C 24 #[.slice (some ⟨gC, 0, none⟩) gs0.length cc] ∧ Blk wq F 45 #[.slice PA2 pn pc2, .slice KA2 kn kc2, .int .i64 g.cells, .slice IA2 il ic2, .bool g.result, .int .i64 g.keep, .slice NA2 nn nc2, .int .i64 g.entry] ∧ MInv wq M (.slice (some ⟨gC, 0, none⟩) gs0.length cc) css gs0 av) (fun i _ => pn - (intOf i).toNat)
        case atStart => exact ⟨0, by omega, rfl, Hb6.out, HC6.out, HFb.out, HM6.out⟩
        case round =>
          obtain ⟨ka, hk, rfl, hbq, hCq, hFq, hMq⟩ := hrel
          by_cases hlta : ka < pn
          · as_aux_lemma =>
            have hjI : (ka : Int) < pn := by omega
            have hat := hMq.at_ Hgj.out Hcsj.out
            obtain ⟨gP, hgP, hMg, ⟨cb, hcb⟩, ⟨y, hy⟩, hfr⟩ := IR.row hat.1 hlta
            subst hgP
            have kf0 := Blk.cell hFq 0
            simp only [List.getElem?_toArray, List.getElem?_cons_zero, List.getElem?_cons_succ] at kf0
            have hbw : ∀ u, Below M W5 (wr.setCell ⟨gP, ka, none⟩ u) := fun u => hbq.setCell (p := ⟨gP, ka, none⟩) hMg u
            have hCw : ∀ u, Blk (wr.setCell ⟨gP, ka, none⟩ u) C 24 #[.slice (some ⟨gC, 0, none⟩) gs0.length cc] := fun u => hCq.far (p := ⟨gP, ka, none⟩) (Blk.ne_ hCq hcb (by decide)) u
            have hFw : ∀ u, Blk (wr.setCell ⟨gP, ka, none⟩ u) F 45 _ := fun u => hFq.far (p := ⟨gP, ka, none⟩) (Blk.ne_ hFq hcb (by decide)) u
            have Hbq := Lib.hid hbq
            have HCq := Lib.hid hCq
            have HFq := Lib.hid hFq
            have HMq := Lib.hid hMq
            have Hat := Lib.hid hat
            have Hcb := Lib.hid hcb
            have Hbw := Lib.hid hbw
            have HCw := Lib.hid hCw
            have HFw := Lib.hid hFw
            clear hFw hCw hbw hcb hat hMq hFq hCq hbq
            go_wp2_with fail
            exact ⟨⟨ka + 1, by omega, by go_num, Hbw.out _, HCw.out _, HFw.out _, HMq.out.setI Hcb.out⟩, by simp [intOf]; omega⟩
          · have hjI : ¬ (ka : Int) < pn := by omega
            have kf3 := Blk.cell hFq 3
            simp only [List.getElem?_toArray, List.getElem?_cons_zero, List.getElem?_cons_succ] at kf3
            have Hbq := Lib.hid hbq
            have HCq := Lib.hid hCq
            have HFq := Lib.hid hFq
            have HMq := Lib.hid hMq
            clear hMq hFq hCq hbq
            go_wp2_with fail
            clear kf3
            go_loopw [67] (fun i wq => ∃ k : Nat, k ≤ il ∧ i = .int .i64 k ∧ Below M W5 wq ∧ Blk wq C 24 #[.slice (some ⟨gC, 0, none⟩) gs0.length cc] ∧ Blk wq F 45 #[.slice PA2 pn pc2, .slice KA2 kn kc2, .int .i64 g.cells, .slice IA2 il ic2, .bool g.result, .int .i64 g.keep, .slice NA2 nn nc2, .int .i64 g.entry] ∧ MInv wq M (.slice (some ⟨gC, 0, none⟩) gs0.length cc) css gs0 av) (fun i _ => il - (intOf i).toNat)
            case atStart => exact ⟨0, by omega, rfl, Hbq.out, HCq.out, HFq.out, HMq.out⟩
            case round =>
              obtain ⟨kb, hk, rfl, hbq, hCq, hFq, hMq⟩ := hrel
              by_cases hltb : kb < il
              · as_aux_lemma =>
                have hjI : (kb : Int) < il := by omega
                have hat := hMq.at_ Hgj.out Hcsj.out
                obtain ⟨gP, hgP, hMg, ⟨cb, hcb⟩, ⟨y, hy⟩, hfr⟩ := IR.row hat.2.2.1 hltb
                subst hgP
                have kf3 := Blk.cell hFq 3
                simp only [List.getElem?_toArray, List.getElem?_cons_zero, List.getElem?_cons_succ] at kf3
                have hbw : ∀ u, Below M W5 (wr.setCell ⟨gP, kb, none⟩ u) := fun u => hbq.setCell (p := ⟨gP, kb, none⟩) hMg u
                have hCw : ∀ u, Blk (wr.setCell ⟨gP, kb, none⟩ u) C 24 #[.slice (some ⟨gC, 0, none⟩) gs0.length cc] := fun u => hCq.far (p := ⟨gP, kb, none⟩) (Blk.ne_ hCq hcb (by decide)) u
                have hFw : ∀ u, Blk (wr.setCell ⟨gP, kb, none⟩ u) F 45 _ := fun u => hFq.far (p := ⟨gP, kb, none⟩) (Blk.ne_ hFq hcb (by decide)) u
                have Hbq := Lib.hid hbq
                have HCq := Lib.hid hCq
                have HFq := Lib.hid hFq
                have HMq := Lib.hid hMq
                have Hat := Lib.hid hat
                have Hcb := Lib.hid hcb
                have Hbw := Lib.hid hbw
                have HCw := Lib.hid hCw
                have HFw := Lib.hid hFw
                clear hFw hCw hbw hcb hat hMq hFq hCq hbq
                go_wp2_with fail
                exact ⟨⟨kb + 1, by omega, by go_num, Hbw.out _, HCw.out _, HFw.out _, HMq.out.setI Hcb.out⟩, by simp [intOf]; omega⟩
              · have hjI : ¬ (kb : Int) < il := by omega
                have kf1 := Blk.cell hFq 1
                simp only [List.getElem?_toArray, List.getElem?_cons_zero, List.getElem?_cons_succ] at kf1
                have Hbq := Lib.hid hbq
                have HCq := Lib.hid hCq
                have HFq := Lib.hid hFq
                have HMq := Lib.hid hMq
                clear hMq hFq hCq hbq
                go_wp2_with fail
                clear kf1
                go_loopw [81] (fun i wq => ∃ k : Nat, k ≤ kn ∧ i = .int .i64 k ∧ Below M W5 wq ∧ Blk wq C 24 #[.slice (some ⟨gC, 0, none⟩) gs0.length cc] ∧ Blk wq F 45 #[.slice PA2 pn pc2, .slice KA2 kn kc2, .int .i64 g.cells, .slice IA2 il ic2, .bool g.result, .int .i64 g.keep, .slice NA2 nn nc2, .int .i64 g.entry] ∧ MInv wq M (.slice (some ⟨gC, 0, none⟩) gs0.length cc) css gs0 av) (fun i _ => kn - (intOf i).toNat)
                case atStart => exact ⟨0, by omega, rfl, Hbq.out, HCq.out, HFq.out, HMq.out⟩
                case round =>
                  obtain ⟨kc, hk, rfl, hbq, hCq, hFq, hMq⟩ := hrel
                  by_cases hltc : kc < kn
                  · as_aux_lemma =>
                    have hjI : (kc : Int) < kn := by omega
                    have hat := hMq.at_ Hgj.out Hcsj.out
                    obtain ⟨gP, hgP, hMg, ⟨cb, hcb⟩, ⟨y, hy⟩, hfr⟩ := KR.row hat.2.1 hltc
                    subst hgP
                    have kf1 := Blk.cell hFq 1
                    simp only [List.getElem?_toArray, List.getElem?_cons_zero, List.getElem?_cons_succ] at kf1
                    have hbw : ∀ u, Below M W5 (wr.setCell ⟨gP, kc, none⟩ u) := fun u => hbq.setCell (p := ⟨gP, kc, none⟩) hMg u
                    have hCw : ∀ u, Blk (wr.setCell ⟨gP, kc, none⟩ u) C 24 #[.slice (some ⟨gC, 0, none⟩) gs0.length cc] := fun u => hCq.far (p := ⟨gP, kc, none⟩) (Blk.ne_ hCq hcb (by decide)) u
                    have hFw : ∀ u, Blk (wr.setCell ⟨gP, kc, none⟩ u) F 45 _ := fun u => hFq.far (p := ⟨gP, kc, none⟩) (Blk.ne_ hFq hcb (by decide)) u
                    have Hbq := Lib.hid hbq
                    have HCq := Lib.hid hCq
                    have HFq := Lib.hid hFq
                    have HMq := Lib.hid hMq
                    have Hat := Lib.hid hat
                    have Hcb := Lib.hid hcb
                    have Hbw := Lib.hid hbw
                    have HCw := Lib.hid hCw
                    have HFw := Lib.hid hFw
                    clear hFw hCw hbw hcb hat hMq hFq hCq hbq
                    go_wp2_with fail
                    exact ⟨⟨kc + 1, by omega, by go_num, Hbw.out _, HCw.out _, HFw.out _, HMq.out.setK Hcb.out⟩, by simp [intOf]; omega⟩
                  · have hjI : ¬ (kc : Int) < kn := by omega
                    have kf6 := Blk.cell hFq 6
                    simp only [List.getElem?_toArray, List.getElem?_cons_zero, List.getElem?_cons_succ] at kf6
                    have Hbq := Lib.hid hbq
                    have HCq := Lib.hid hCq
                    have HFq := Lib.hid hFq
                    have HMq := Lib.hid hMq
                    clear hMq hFq hCq hbq
                    go_wp2_with fail
                    clear kf6
                    go_loopw [95] (fun i wq => ∃ k : Nat, k ≤ nn ∧ i = .int .i64 k ∧ Below M W5 wq ∧ Blk wq C 24 #[.slice (some ⟨gC, 0, none⟩) gs0.length cc] ∧ Blk wq F 45 #[.slice PA2 pn pc2, .slice KA2 kn kc2, .int .i64 g.cells, .slice IA2 il ic2, .bool g.result, .int .i64 g.keep, .slice NA2 nn nc2, .int .i64 g.entry] ∧ MInv wq M (.slice (some ⟨gC, 0, none⟩) gs0.length cc) css gs0 av) (fun i _ => nn - (intOf i).toNat)
                    case atStart => exact ⟨0, by omega, rfl, Hbq.out, HCq.out, HFq.out, HMq.out⟩
                    case round =>
                      obtain ⟨kd, hk, rfl, hbq, hCq, hFq, hMq⟩ := hrel
                      by_cases hltd : kd < nn
                      · as_aux_lemma =>
                        have hjI : (kd : Int) < nn := by omega
                        obtain ⟨x, hxk⟩ : ∃ x, g.nodes[kd]? = some x := ⟨_, List.getElem?_eq_getElem (by rw [Hnn.out]; exact hltd)⟩
                        have hat := hMq.at_ Hgj.out Hcsj.out
                        obtain ⟨gN, hgN, hMg, _, ⟨cb, hcb⟩, _, _, hc9, hIx⟩ := hat.2.2.2.row hxk
                        subst hgN
                        obtain ⟨XA, xc, hxav, hxb, hxb'⟩ := hIx.form
                        rw [hxav] at hc9
                        obtain ⟨xl, hxl⟩ : ∃ xl, x.args.length = xl := ⟨_, rfl⟩
                        rw [hxl] at hc9 hxav hxb
                        unfold maxLen at hxb'
                        have kf6 := Blk.cell hFq 6
                        simp only [List.getElem?_toArray, List.getElem?_cons_zero, List.getElem?_cons_succ] at kf6
                        have Hxk := Lib.hid hxk
                        have Hat := Lib.hid hat
                        have Hcb := Lib.hid hcb
                        have HIx := Lib.hid hIx
                        have Hxav := Lib.hid hxav
                        have Hxl := Lib.hid hxl
                        have Hbq := Lib.hid hbq
                        have HCq := Lib.hid hCq
                        have HFq := Lib.hid hFq
                        have HMq := Lib.hid hMq
                        clear hMq hFq hCq hbq hxl hxav hIx hcb hat hxk
                        go_wp2_with fail
                        clear kf6 hc9
                        go_loopw [105] (fun i wq => ∃ k : Nat, k ≤ xl ∧ i = .int .i64 k ∧ Below M W5 wq ∧ Blk wq C 24 #[.slice (some ⟨gC, 0, none⟩) gs0.length cc] ∧ Blk wq F 45 #[.slice PA2 pn pc2, .slice KA2 kn kc2, .int .i64 g.cells, .slice IA2 il ic2, .bool g.result, .int .i64 g.keep, .slice (some ⟨gN, 0, none⟩) nn nc2, .int .i64 g.entry] ∧ MInv wq M (.slice (some ⟨gC, 0, none⟩) gs0.length cc) css gs0 av) (fun i _ => xl - (intOf i).toNat)
                        case atStart => exact ⟨0, by omega, rfl, Hbq.out, HCq.out, HFq.out, HMq.out⟩
                        case round =>
                          obtain ⟨ke, hke, rfl, hbr, hCr, hFr, hMr⟩ := hrel
                          have hat2 := hMr.at_ Hgj.out Hcsj.out
                          obtain ⟨gN', hgN', hMg', _, ⟨cb', hcb'⟩, ⟨y, hy⟩, hfr, hc9, hIx⟩ := hat2.2.2.2.row Hxk.out
                          injection hgN' with hgN'
                          injection hgN' with hgN'
                          subst hgN'
                          rw [Hxav.out] at hc9 hIx
                          have kf6 := Blk.cell hFr 6
                          simp only [List.getElem?_toArray, List.getElem?_cons_zero, List.getElem?_cons_succ] at kf6
                          by_cases hlte : ke < xl
                          · have hjI2 : (ke : Int) < xl := by omega
                            obtain ⟨gP, hgP, hMp, ⟨cp, hcp⟩, ⟨z, hz⟩, hfz⟩ := hIx.row hlte
                            subst hgP
                            have hbw : ∀ u, Below M W5 (wr.setCell ⟨gP, ke, none⟩ u) := fun u => hbr.setCell (p := ⟨gP, ke, none⟩) hMp u
                            have hCw : ∀ u, Blk (wr.setCell ⟨gP, ke, none⟩ u) C 24 #[.slice (some ⟨gC, 0, none⟩) gs0.length cc] := fun u => hCr.far (p := ⟨gP, ke, none⟩) (Blk.ne_ hCr hcp (by decide)) u
                            have hFw : ∀ u, Blk (wr.setCell ⟨gP, ke, none⟩ u) F 45 _ := fun u => hFr.far (p := ⟨gP, ke, none⟩) (Blk.ne_ hFr hcp (by decide)) u
                            have Hbr := Lib.hid hbr
                            have HCr := Lib.hid hCr
                            have HFr := Lib.hid hFr
                            have HMr := Lib.hid hMr
                            have Hat2 := Lib.hid hat2
                            have Hcb' := Lib.hid hcb'
                            have HIx := Lib.hid hIx
                            have Hcp := Lib.hid hcp
                            have Hbw := Lib.hid hbw
                            have HCw := Lib.hid hCw
                            have HFw := Lib.hid hFw
                            clear hFw hCw hbw hcp hIx hcb' hat2 hMr hFr hCr hbr
                            clear hy hfr
                            go_wp2_with fail
                            exact ⟨⟨ke + 1, by omega, by go_num, Hbw.out _, HCw.out _, HFw.out _, HMr.out.setI Hcp.out⟩, by simp [intOf]; omega⟩
                          · have hjI2 : ¬ (ke : Int) < xl := by omega
                            have hbw : ∀ u, Below M W5 (wr.setCell ⟨gN, kd * 12 + 2, none⟩ u) := fun u => hbr.setCell (p := ⟨gN, kd * 12 + 2, none⟩) hMg' u
                            have hCw : ∀ u, Blk (wr.setCell ⟨gN, kd * 12 + 2, none⟩ u) C 24 #[.slice (some ⟨gC, 0, none⟩) gs0.length cc] := fun u => hCr.far (p := ⟨gN, kd * 12 + 2, none⟩) (Blk.ne_ hCr hcb' (by decide)) u
                            have hFw : ∀ u, Blk (wr.setCell ⟨gN, kd * 12 + 2, none⟩ u) F 45 _ := fun u => hFr.far (p := ⟨gN, kd * 12 + 2, none⟩) (Blk.ne_ hFr hcb' (by decide)) u
                            have Hbr := Lib.hid hbr
                            have HCr := Lib.hid hCr
                            have HFr := Lib.hid hFr
                            have HMr := Lib.hid hMr
                            have Hat2 := Lib.hid hat2
                            have Hcb' := Lib.hid hcb'
                            have HIx := Lib.hid hIx
                            have Hbw := Lib.hid hbw
                            have HCw := Lib.hid hCw
                            have HFw := Lib.hid hFw
                            clear hFw hCw hbw hIx hcb' hat2 hMr hFr hCr hbr
                            clear hc9
                            go_wp2_with fail
                            exact ⟨⟨kd + 1, by omega, by go_num, Hbw.out _, HCw.out _, HFw.out _, HMr.out.setN Hcb'.out (q := kd) rfl⟩, by simp [intOf]; omega⟩
                      · have hjI : ¬ (kd : Int) < nn := by omega
                        have Hbq := Lib.hid hbq
                        have HCq := Lib.hid hCq
                        have HFq := Lib.hid hFq
                        have HMq := Lib.hid hMq
                        clear hMq hFq hCq hbq
                        go_wp2_with fail
                        exact ⟨⟨j + 1, by omega, by go_num, Hbq.out, HCq.out, HMq.out⟩, by simp [intOf]; omega⟩
      · have hjI : ¬ (j : Int) < gs0.length := by omega
        have kA1 := HA5.out.below (hbo.mono hwM)
        have kW1 := HWas5.out.below hbo
        have hPo := HP5.out.below hbo (by omega)
        have hTo := HT5.out.below hbo (by omega)
        have hfin : Below w.heap.size w wr := Hbw5.out.trans (hbo.mono hwM)
        have hsm2 := refsame_any gv0 (.slice PA gs0.length pc) gs0 gs0 wr M (by omega) (kA1.more hwM) kW1
        rw [(eqGs_iff gs0 gs0).2 rfl] at hsm2
        have ka0 := Blk.cell hPo 0
        simp only [List.getElem?_toArray, List.getElem?_cons_zero, List.getElem?_cons_succ] at ka0
        have kt0 := Blk.cell hTo 0
        simp only [List.getElem?_toArray, List.getElem?_cons_zero, List.getElem?_cons_succ] at kt0
        have Hbo := Lib.hid hbo
        have HCo := Lib.hid hCo
        have HMo := Lib.hid hMo
        have KA1 := Lib.hid kA1
        have KW1 := Lib.hid kW1
        have HPo := Lib.hid hPo
        have HTo := Lib.hid hTo
        have Hfin := Lib.hid hfin
        have Hsm2 := Lib.hid hsm2
        clear hsm2 hfin hTo hPo kW1 kA1 hMo hCo hbo
        go_wp2_with fail
        refine Hsm2.out.mono ?_
        rintro e w6 ⟨rfl, hb6⟩
        have hbe := Hfin.out.trans (hb6.mono Hfin.out.size)
        have Hbe := Lib.hid hbe
        clear hbe
        clear hb6 ka0 kt0
        go_wp2_with fail
        go_ret
        exact ⟨rfl, Hbe.out⟩
end Go.Proofs.Ytfjalejlbegkeaa
