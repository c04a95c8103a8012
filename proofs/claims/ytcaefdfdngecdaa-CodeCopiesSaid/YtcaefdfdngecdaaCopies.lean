/- The law CodeCopies: a copy is the same program in memory of its own, and when two programs are the same. Conditions: both programs lie in memory, within the reach. -/
import Derived.Test.YtcaefdfdngecdaaFirstC
import Derived.Test.YtcaefdfdngecdaaOpenC
import Derived.Test.YtcaefdfdngecdaaCopy
import Derived.Test.YtcaefdfdngecdaaRefSame
import Derived.Test.YtcaefdfdngecdaaMut
set_option linter.unusedVariables false
set_option linter.unusedSimpArgs false
namespace Go.Proofs.Ytcaefdfdngecdaa
open Go.RowKit

theorem slice_of {w : World} {B : Nat} {v : Value} {fs : List FuncD} (h : FuncsAt w B v fs) : ∃ A n c, v = .slice A n c ∧ fs.length = n ∧ c ≤ maxLen ∧ n ≤ c := by
  obtain ⟨A, n, c, css, e, h1, h2, h3, _⟩ := h
  exact ⟨A, n, c, e, h3, h2, h1⟩
set_option maxRecDepth 100000 in
set_option maxHeartbeats 2000000 in
theorem walk_CodeCopies (w : World) (fv0 : Value) (fs0 : List FuncD) (hf0 : FuncsIn w fv0 fs0) (fv1 : Value) (fs1 : List FuncD) (hf1 : FuncsIn w fv1 fs1) :
    Calls Try.prog 8 #[.agg #[fv0], .agg #[fv1]] w fun e w' => e = .returned (.bool true) ∧ Below w.heap.size w w' := by
  obtain ⟨hfp, hwf, hsm⟩ := hf0
  obtain ⟨hfq, _, _⟩ := hf1
  have hsmall : FsSmall fs0 := ⟨fun f hf => (hwf f hf).2, hsm⟩
  obtain ⟨A, n, c, rfl, hn, hcm, hnc⟩ := slice_of hfp
  obtain ⟨A', n', c', rfl, hn', hcm', hnc'⟩ := slice_of hfq
  unfold maxLen at hcm hcm'
  have hP := (Blk.new w 26 #[.slice A n c]).alloc (.cells #[.slice A' n' c'] 26)
  have hQ := Blk.new2 w (.cells #[.slice A n c] 26) 26 #[.slice A' n' c']
  have hb0 : Below w.heap.size w ((w.alloc (.cells #[.slice A n c] 26)).alloc (.cells #[.slice A' n' c'] 26)) := ((Below.refl _ _).alloc (Nat.le_refl _) _).alloc (by simp) _
  have Hfp := Lib.hid hfp
  have Hfq := Lib.hid hfq
  have Hsmall := Lib.hid hsmall
  have Hn := Lib.hid hn
  have Hn' := Lib.hid hn'
  have HP := Lib.hid hP
  have HQ := Lib.hid hQ
  have Hb0 := Lib.hid hb0
  clear hb0 hQ hP hn' hn hsmall hfq hfp
  clear hwf hsm
  go_enter Try.func8, Try.ntmps8
  go_wp2_with fail
  refine (first_any _).mono ?_
  rintro e w1 ⟨rfl, hb1⟩
  have hP1 := HP.out.below hb1 (by simp; omega)
  have hQ1 := HQ.out.below hb1 (by simp)
  have hbw1 := Hb0.out.trans (hb1.mono (by simp; omega))
  have hs1 := hb1.size
  simp only [World.size_alloc] at hs1
  have hp1 := (Hfp.out.below hbw1).more (B' := w1.heap.size) (by omega)
  have kp0 := Blk.cell hP1 0
  simp only [List.getElem?_toArray, List.getElem?_cons_zero, List.getElem?_cons_succ] at kp0
  have HP1 := Lib.hid hP1
  have HQ1 := Lib.hid hQ1
  have Hbw1 := Lib.hid hbw1
  have Hp1 := Lib.hid hp1
  clear hp1 hbw1 hQ1 hP1
  clear hb1
  go_wp2_with fail
  refine (refcopy_any _ fs0 _ w1.heap.size Hp1.out (Nat.le_refl _) Hsmall.out).mono ?_
  rintro e w2 ⟨hb2, pv, css, rfl, hO2, hF2⟩
  have hwas2 := hF2.at_ hO2
  obtain ⟨PA, pc, rfl, _⟩ := own_any hO2
  have hP3 := (HP1.out.below hb2 (by omega)).alloc (.cells #[.slice PA fs0.length pc] 26)
  have hQ3 := (HQ1.out.below hb2 (by omega)).alloc (.cells #[.slice PA fs0.length pc] 26)
  have hU3 := Blk.new w2 26 #[.slice PA fs0.length pc]
  have hs2 := hb2.size
  have hbw3 := (Hbw1.out.trans (hb2.mono (by omega))).alloc (by omega) (.cells #[.slice PA fs0.length pc] 26)
  have hwas3 := (hwas2.below ((Below.refl w2.heap.size w2).alloc (Nat.le_refl _) (.cells #[.slice PA fs0.length pc] 26)))
  have hp3 := (Hfp.out.below hbw3).more (B' := (w2.alloc (.cells #[.slice PA fs0.length pc] 26)).heap.size) (by simp; omega)
  have kq0 := Blk.cell hP3 0
  simp only [List.getElem?_toArray, List.getElem?_cons_zero, List.getElem?_cons_succ] at kq0
  have HP3 := Lib.hid hP3
  have HQ3 := Lib.hid hQ3
  have HU3 := Lib.hid hU3
  have Hbw3 := Lib.hid hbw3
  have Hwas3 := Lib.hid hwas3
  have Hp3 := Lib.hid hp3
  clear hp3 hwas3 hbw3 hU3 hQ3 hP3
  clear hwas2 hO2 hF2 hb2 kp0
  go_wp2_with fail
  refine (copy_any _ fs0 _ _ Hp3.out (Nat.le_refl _) Hsmall.out).mono ?_
  rintro e w4 ⟨hb4, cv, css4, rfl, hO4, hF4⟩
  obtain ⟨M, hM⟩ : ∃ M, M = (w2.alloc (.cells #[.slice PA fs0.length pc] 26)).heap.size := ⟨_, rfl⟩
  rw [← hM] at hO4 hF4 hb4
  have hMs : M = w2.heap.size + 1 := by rw [hM]; simp
  have hc4 := hF4.at_ hO4
  obtain ⟨L, C, hI4⟩ := CInv.of_rows hF4 hO4
  obtain ⟨CA, cc, rfl, hccl, hccm, _⟩ := own_any hO4
  have hs4 := hb4.size
  rw [← hM] at hs4
  have hz1 : w.heap.size + 2 ≤ w2.heap.size := by omega
  have hz2 : w2.heap.size + 1 ≤ w4.heap.size := by omega
  have hz3 : M ≤ w4.heap.size := by omega
  have hz4 : w2.heap.size < M := by omega
  have hV5 := Blk.new w4 26 #[.slice CA fs0.length cc]
  have hP5 := (HP3.out.below hb4 (by omega)).alloc (.cells #[.slice CA fs0.length cc] 26)
  have hQ5 := (HQ3.out.below hb4 (by omega)).alloc (.cells #[.slice CA fs0.length cc] 26)
  have hU5 := (HU3.out.below hb4 (by omega)).alloc (.cells #[.slice CA fs0.length cc] 26)
  have hI5 := hI4.kept ((Below.refl w4.heap.size w4).alloc (Nat.le_refl _) (.cells #[.slice CA fs0.length cc] 26))
  have hbw5 := (Hbw3.out.trans (hb4.mono (by omega))).alloc (by omega) (.cells #[.slice CA fs0.length cc] 26)
  have hc5 := (hc4.below ((Below.refl w4.heap.size w4).alloc (Nat.le_refl _) (.cells #[.slice CA fs0.length cc] 26)))
  have hwas5 := Hwas3.out.below ((hb4.mono (by omega)).alloc (by omega) (.cells #[.slice CA fs0.length cc] 26))
  have hp5 := Hfp.out.below hbw5
  have hq5 := Hfq.out.below hbw5
  have HI5 := Lib.hid hI5
  have Hbw5 := Lib.hid hbw5
  have Hc5 := Lib.hid hc5
  have Hwas5 := Lib.hid hwas5
  have Hp5 := Lib.hid hp5
  have Hq5 := Lib.hid hq5
  have HMs := Lib.hid hMs
  have HP5 := Lib.hid hP5
  have HQ5 := Lib.hid hQ5
  have HU5 := Lib.hid hU5
  have HV5 := Lib.hid hV5
  clear hV5 hU5 hQ5 hP5 hMs hq5 hp5 hwas5 hc5 hbw5 hI5
  clear hO4 hF4 hb4 hc4 hI4 hM kq0
  go_upto_region 5 with fail
  generalize hW5 : w4.alloc (.cells #[.slice CA fs0.length cc] 26) = W5 at *
  have hX5 : W5.heap.size = w4.heap.size + 1 := by rw [← hW5]; simp
  have HW5 := Lib.hid hW5
  have HX5 := Lib.hid hX5
  clear hX5 hW5
  have hsP := HP5.out.lt
  have hsQ := HQ5.out.lt
  have hsU := HU5.out.lt
  have hsV := HV5.out.lt
  have hY5 : w4.heap.size ≤ W5.heap.size := by have := HX5.out; omega
  have kv0 := Blk.cell HV5.out 0
  simp only [List.getElem?_toArray, List.getElem?_cons_zero, List.getElem?_cons_succ] at kv0
  have kp0 := Blk.cell HP5.out 0
  simp only [List.getElem?_toArray, List.getElem?_cons_zero, List.getElem?_cons_succ] at kp0
  have ku0 := Blk.cell HU5.out 0
  simp only [List.getElem?_toArray, List.getElem?_cons_zero, List.getElem?_cons_succ] at ku0
  have kq0 := Blk.cell HQ5.out 0
  simp only [List.getElem?_toArray, List.getElem?_cons_zero, List.getElem?_cons_succ] at kq0
  have hp5' := Hp5.out.more (B' := w4.heap.size) (by omega)
  have hq5' := Hq5.out.more (B' := w4.heap.size) (by omega)
  have hw5' := Hwas5.out.more (B' := w4.heap.size) (by omega)
  have Hp5' := Lib.hid hp5'
  have Hq5' := Lib.hid hq5'
  have Hw5' := Lib.hid hw5'
  clear hw5' hq5' hp5'
  refine wp_region_noPanic ?_
  refine wp_region_held_drew (S := fun W => W.cell? ⟨w4.heap.size, 0, none⟩ = some (.slice CA fs0.length cc) ∧ W.cell? ⟨w.heap.size, 0, none⟩ = some (.slice A n c) ∧ W.cell? ⟨w2.heap.size, 0, none⟩ = some (.slice PA fs0.length pc) ∧ W.cell? ⟨w.heap.size + 1, 0, none⟩ = some (.slice A' n' c')) (by kernel_rfl) ⟨kv0, kp0, ku0, kq0⟩ (fun hHeld => ?_)
  refine wpAnyH_take (i := 0) (v := ?_) rfl (by kernel_rfl) (by kernel_rfl) (by kernel_rfl) (fun _ _ _ h => h) (Or.inl ⟨by rfl, ?_⟩) (by assumption) ?_
  rotate_left
  · intro w hSw; (try dsimp only at hSw); go_simp; try with_reducible rfl
  simp only [Act.put, List.getElem_toArray, List.getElem_cons_zero, List.getElem_cons_succ, List.setIfInBounds_toArray, List.set_cons_zero, List.set_cons_succ]
  refine wpAnyH_take (i := 1) (v := ?_) rfl (by kernel_rfl) (by kernel_rfl) (by kernel_rfl) (fun _ _ _ h => h) (Or.inl ⟨by rfl, ?_⟩) (by assumption) ?_
  rotate_left
  · intro w hSw; (try dsimp only at hSw); go_simp; try with_reducible rfl
  simp only [Act.put, List.getElem_toArray, List.getElem_cons_zero, List.getElem_cons_succ, List.setIfInBounds_toArray, List.set_cons_zero, List.set_cons_succ]
  refine wpAnyH_ready (rs := [2]) (by kernel_rfl) (by simp) ?_
  refine AllReadyH.cons rfl (fun K hK => ?_) AllReadyH.nil
  go_simp
  refine (same_any _ _ fs0 fs0 W5.drew w4.heap.size hY5 (show FuncsAt W5.drew _ _ _ from Hc5.out) (show FuncsAt W5.drew _ _ _ from Hp5'.out)).mono ?_
  rintro e w6 ⟨rfl, hb6⟩
  rw [(eqP_iff fs0 fs0).2 rfl]
  have hb6' : Below W5.heap.size W5 w6 := ⟨hb6.os, hb6.tape, hb6.output, hb6.size, hb6.block⟩
  have hs6 := hb6'.size
  refine hK.out _ _ ⟨(HV5.out.below hb6' hsV).cell 0, (HP5.out.below hb6' hsP).cell 0, (HU5.out.below hb6' hsU).cell 0, (HQ5.out.below hb6' hsQ).cell 0⟩ (fun hHeld2 => ?_)
  have Hb6' := Lib.hid hb6'
  clear hb6'
  clear hK K hHeld hb6
  try simp only [Act.put, List.getElem_toArray, List.getElem_cons_zero, List.getElem_cons_succ, List.setIfInBounds_toArray, List.set_cons_zero, List.set_cons_succ]
  refine wpAnyH_take (i := 3) (v := ?_) rfl (by kernel_rfl) (by kernel_rfl) (by kernel_rfl) (fun _ _ _ h => h) (Or.inl ⟨by rfl, ?_⟩) (by assumption) ?_
  rotate_left
  · intro w hSw; (try dsimp only at hSw); go_simp; try with_reducible rfl
  simp only [Act.put, List.getElem_toArray, List.getElem_cons_zero, List.getElem_cons_succ, List.setIfInBounds_toArray, List.set_cons_zero, List.set_cons_succ]
  refine wpAnyH_take (i := 4) (v := ?_) rfl (by kernel_rfl) (by kernel_rfl) (by kernel_rfl) (fun _ _ _ h => h) (Or.inl ⟨by rfl, ?_⟩) (by assumption) ?_
  rotate_left
  · intro w hSw; (try dsimp only at hSw); go_simp; try with_reducible rfl
  simp only [Act.put, List.getElem_toArray, List.getElem_cons_zero, List.getElem_cons_succ, List.setIfInBounds_toArray, List.set_cons_zero, List.set_cons_succ]
  refine wpAnyH_take (i := 5) (v := ?_) rfl (by kernel_rfl) (by kernel_rfl) (by kernel_rfl) (fun _ _ _ h => h) (Or.inl ⟨by rfl, ?_⟩) (by assumption) ?_
  rotate_left
  · intro w hSw; (try dsimp only at hSw); go_simp; try with_reducible rfl
  simp only [Act.put, List.getElem_toArray, List.getElem_cons_zero, List.getElem_cons_succ, List.setIfInBounds_toArray, List.set_cons_zero, List.set_cons_succ]
  refine wpAnyH_take (i := 6) (v := ?_) rfl (by kernel_rfl) (by kernel_rfl) (by kernel_rfl) (fun _ _ _ h => h) (Or.inl ⟨by rfl, ?_⟩) (by assumption) ?_
  rotate_left
  · intro w hSw; (try dsimp only at hSw); go_simp; try with_reducible rfl
  simp only [Act.put, List.getElem_toArray, List.getElem_cons_zero, List.getElem_cons_succ, List.setIfInBounds_toArray, List.set_cons_zero, List.set_cons_succ]
  refine wpAnyH_ready (rs := [7]) (by kernel_rfl) (by simp) ?_
  refine AllReadyH.cons rfl (fun K hK => ?_) AllReadyH.nil
  go_simp
  refine (refsame_any _ _ fs0 fs0 w6 w4.heap.size (by omega) (Hc5.out.below (Hb6'.out.mono hY5)) (Hw5'.out.below (Hb6'.out.mono hY5))).mono ?_
  rintro e w7 ⟨rfl, hb7⟩
  rw [(eqP_iff fs0 fs0).2 rfl]
  have hb7' : Below W5.heap.size W5 w7 := Hb6'.out.trans (hb7.mono hs6)
  have hs7 := hb7'.size
  refine hK.out _ _ ⟨(HV5.out.below hb7' hsV).cell 0, (HP5.out.below hb7' hsP).cell 0, (HU5.out.below hb7' hsU).cell 0, (HQ5.out.below hb7' hsQ).cell 0⟩ (fun hHeld3 => ?_)
  have Hb7' := Lib.hid hb7'
  clear hb7'
  clear hK K hHeld2 hb7 Hb6' hs6
  try simp only [Act.put, List.getElem_toArray, List.getElem_cons_zero, List.getElem_cons_succ, List.setIfInBounds_toArray, List.set_cons_zero, List.set_cons_succ]
  refine wpAnyH_take (i := 8) (v := ?_) rfl (by kernel_rfl) (by kernel_rfl) (by kernel_rfl) (fun _ _ _ h => h) (Or.inl ⟨by rfl, ?_⟩) (by assumption) ?_
  rotate_left
  · intro w hSw; (try dsimp only at hSw); go_simp; try with_reducible rfl
  simp only [Act.put, List.getElem_toArray, List.getElem_cons_zero, List.getElem_cons_succ, List.setIfInBounds_toArray, List.set_cons_zero, List.set_cons_succ]
  refine wpAnyH_take (i := 9) (v := ?_) rfl (by kernel_rfl) (by kernel_rfl) (by kernel_rfl) (fun _ _ _ h => h) (Or.inl ⟨by rfl, ?_⟩) (by assumption) ?_
  rotate_left
  · intro w hSw; (try dsimp only at hSw); go_simp; try with_reducible rfl
  simp only [Act.put, List.getElem_toArray, List.getElem_cons_zero, List.getElem_cons_succ, List.setIfInBounds_toArray, List.set_cons_zero, List.set_cons_succ]
  refine wpAnyH_take (i := 10) (v := ?_) rfl (by kernel_rfl) (by kernel_rfl) (by kernel_rfl) (fun _ _ _ h => h) (Or.inl ⟨by rfl, ?_⟩) (by assumption) ?_
  rotate_left
  · intro w hSw; (try dsimp only at hSw); go_simp; try with_reducible rfl
  simp only [Act.put, List.getElem_toArray, List.getElem_cons_zero, List.getElem_cons_succ, List.setIfInBounds_toArray, List.set_cons_zero, List.set_cons_succ]
  refine wpAnyH_take (i := 11) (v := ?_) rfl (by kernel_rfl) (by kernel_rfl) (by kernel_rfl) (fun _ _ _ h => h) (Or.inl ⟨by rfl, ?_⟩) (by assumption) ?_
  rotate_left
  · intro w hSw; (try dsimp only at hSw); go_simp; try with_reducible rfl
  simp only [Act.put, List.getElem_toArray, List.getElem_cons_zero, List.getElem_cons_succ, List.setIfInBounds_toArray, List.set_cons_zero, List.set_cons_succ]
  refine wpAnyH_take (i := 12) (v := ?_) rfl (by kernel_rfl) (by kernel_rfl) (by kernel_rfl) (fun _ _ _ h => h) (Or.inl ⟨by rfl, ?_⟩) (by assumption) ?_
  rotate_left
  · intro w hSw; (try dsimp only at hSw); go_simp; try with_reducible rfl
  simp only [Act.put, List.getElem_toArray, List.getElem_cons_zero, List.getElem_cons_succ, List.setIfInBounds_toArray, List.set_cons_zero, List.set_cons_succ]
  refine wpAnyH_take (i := 14) (v := ?_) rfl (by kernel_rfl) (by kernel_rfl) (by kernel_rfl) (fun _ _ _ h => h) (Or.inl ⟨by rfl, ?_⟩) (by assumption) ?_
  rotate_left
  · intro w hSw; (try dsimp only at hSw); go_simp; try with_reducible rfl
  simp only [Act.put, List.getElem_toArray, List.getElem_cons_zero, List.getElem_cons_succ, List.setIfInBounds_toArray, List.set_cons_zero, List.set_cons_succ]
  refine wpAnyH_take (i := 15) (v := ?_) rfl (by kernel_rfl) (by kernel_rfl) (by kernel_rfl) (fun _ _ _ h => h) (Or.inl ⟨by rfl, ?_⟩) (by assumption) ?_
  rotate_left
  · intro w hSw; (try dsimp only at hSw); go_simp; try with_reducible rfl
  simp only [Act.put, List.getElem_toArray, List.getElem_cons_zero, List.getElem_cons_succ, List.setIfInBounds_toArray, List.set_cons_zero, List.set_cons_succ]
  refine wpAnyH_ready (rs := [13]) (by kernel_rfl) (by simp) ?_
  refine AllReadyH.cons rfl (fun K hK => ?_) AllReadyH.nil
  go_simp
  refine (same_any _ _ fs0 fs1 w7 w4.heap.size (by omega) (Hp5'.out.below (Hb7'.out.mono hY5)) (Hq5'.out.below (Hb7'.out.mono hY5))).mono ?_
  rintro e w8 ⟨rfl, hb8⟩
  have hb8' : Below W5.heap.size W5 w8 := Hb7'.out.trans (hb8.mono hs7)
  have hs8 := hb8'.size
  refine hK.out _ _ ⟨(HV5.out.below hb8' hsV).cell 0, (HP5.out.below hb8' hsP).cell 0, (HU5.out.below hb8' hsU).cell 0, (HQ5.out.below hb8' hsQ).cell 0⟩ (fun hHeld4 => ?_)
  have Hb8' := Lib.hid hb8'
  clear hb8'
  clear hK K hHeld3 hb8 Hb7' hs7
  try simp only [Act.put, List.getElem_toArray, List.getElem_cons_zero, List.getElem_cons_succ, List.setIfInBounds_toArray, List.set_cons_zero, List.set_cons_succ]
  refine wpAnyH_ready (rs := [16]) (by kernel_rfl) (by simp) ?_
  refine AllReadyH.cons rfl (fun K hK => ?_) AllReadyH.nil
  go_simp
  refine (refsame_any _ _ fs0 fs1 w8 w4.heap.size (by omega) (Hp5'.out.below (Hb8'.out.mono hY5)) (Hq5'.out.below (Hb8'.out.mono hY5))).mono ?_
  rintro e w9 ⟨rfl, hb9⟩
  have hb9' : Below W5.heap.size W5 w9 := Hb8'.out.trans (hb9.mono hs8)
  have hs9 := hb9'.size
  refine hK.out _ _ ⟨(HV5.out.below hb9' hsV).cell 0, (HP5.out.below hb9' hsP).cell 0, (HU5.out.below hb9' hsU).cell 0, (HQ5.out.below hb9' hsQ).cell 0⟩ (fun hHeld5 => ?_)
  clear hK K hHeld4 hb9 Hb8' hs8
  try simp only [Act.put, List.getElem_toArray, List.getElem_cons_zero, List.getElem_cons_succ, List.setIfInBounds_toArray, List.set_cons_zero, List.set_cons_succ]
  refine wpAnyH_take (i := 17) (v := ?_) rfl (by kernel_rfl) (by kernel_rfl) (by kernel_rfl) (fun _ _ _ h => h) (Or.inl ⟨by rfl, ?_⟩) (by assumption) ?_
  rotate_left
  · intro w hSw; (try dsimp only at hSw); go_simp; try with_reducible rfl
  simp only [Act.put, List.getElem_toArray, List.getElem_cons_zero, List.getElem_cons_succ, List.setIfInBounds_toArray, List.set_cons_zero, List.set_cons_succ]
  refine wpAnyH_take (i := 18) (v := ?_) rfl (by kernel_rfl) (by kernel_rfl) (by kernel_rfl) (fun _ _ _ h => h) (Or.inl ⟨by rfl, ?_⟩) (by assumption) ?_
  rotate_left
  · intro w hSw; (try dsimp only at hSw); go_simp; try with_reducible rfl
  simp only [Act.put, List.getElem_toArray, List.getElem_cons_zero, List.getElem_cons_succ, List.setIfInBounds_toArray, List.set_cons_zero, List.set_cons_succ]
  refine wpAnyH_done (by kernel_rfl) ?_ _
  refine NoPanic.normal ?_
  have hV9 := HV5.out.below hb9' hsV
  have hP9 := HP5.out.below hb9' hsP
  have hU9 := HU5.out.below hb9' hsU
  have hI9 := HI5.out.kept hb9'
  have hbw9 := Hbw5.out.trans (hb9'.mono (by omega))
  have hwas9 := Hwas5.out.below (hb9'.mono (by omega))
  have hp9 := Hfp.out.below hbw9
  have hcc : fs0.length ≤ cc := hccl
  unfold maxLen at hccm
  have kx0 := Blk.cell hV9 0
  simp only [List.getElem?_toArray, List.getElem?_cons_zero, List.getElem?_cons_succ] at kx0
  have HV9 := Lib.hid hV9
  have HP9 := Lib.hid hP9
  have HU9 := Lib.hid hU9
  have HI9 := Lib.hid hI9
  have Hbw9 := Lib.hid hbw9
  have Hwas9 := Lib.hid hwas9
  have Hp9 := Lib.hid hp9
  clear hp9 hwas9 hbw9 hI9 hU9 hP9 hV9
  clear hb9' hHeld5 kv0 kp0 ku0 kq0
  go_wp2_with fail
  go_loopw [38] (fun i wr => ∃ j : Nat, j ≤ fs0.length ∧ i = .int .i64 j ∧ CInv wr M fs0.length (.slice CA fs0.length cc) L C ∧ Below M w9 wr ∧ Blk wr w4.heap.size 26 #[.slice CA fs0.length cc]) (fun i _ => fs0.length - (intOf i).toNat)
  case atStart => exact ⟨0, by omega, rfl, HI9.out, Below.refl _ _, HV9.out⟩
  case round =>
    obtain ⟨j, hj, rfl, hI, hbm, hV⟩ := hrel
    by_cases hlt : j < fs0.length
    · obtain ⟨R, ad, rfl, hadR, hMR, ⟨rc, hRc⟩, ⟨p0, q0⟩, f0, q1, q4, hKR, hIR⟩ := hI.row hlt
      obtain ⟨A1, n1, c1, hL1, hnc1, hcm1⟩ := hKR.form
      obtain ⟨A2, n2, c2, hC2, hnc2, hcm2⟩ := hIR.form
      rw [hL1] at q1
      rw [hC2] at q4
      unfold maxLen at hcm1 hcm2
      have ky0 := Blk.cell hV 0
      simp only [List.getElem?_toArray, List.getElem?_cons_zero, List.getElem?_cons_succ] at ky0
      have i0 : (0 : Int) ≤ (j : Int) := by omega
      have i1 : (j : Int) < (fs0.length : Int) := by omega
      have HI := Lib.hid hI
      have Hbm := Lib.hid hbm
      have HV := Lib.hid hV
      have HadR := Lib.hid hadR
      have HL1 := Lib.hid hL1
      have HC2 := Lib.hid hC2
      clear hC2 hL1 hadR hV hbm hI
      clear hRc hKR hIR
      go_wp2_with fail
      clear q0 f0 q1 q4 ky0
      go_loopw [48] (fun i wq => ∃ k : Nat, k ≤ n1 ∧ i = .int .i64 k ∧ CInv wq M fs0.length (.slice (some ad) fs0.length cc) L C ∧ Below M w9 wq ∧ Blk wq w4.heap.size 26 #[.slice (some ad) fs0.length cc]) (fun i _ => n1 - (intOf i).toNat)
      case atStart => exact ⟨0, by omega, rfl, HI.out, Hbm.out, HV.out⟩
      case round =>
        obtain ⟨k, hk, rfl, hI2, hbm2, hV2⟩ := hrel
        obtain ⟨R2, ad2, had2, hadR2, hMR2, ⟨rc2, hRc2⟩, ⟨p2, q0⟩, f0, q1, q4, hKR, hIR⟩ := hI2.row hlt
        injection had2 with had2
        subst had2
        rw [HL1.out] at q1 hKR
        rw [HC2.out] at q4
        have ky0 := Blk.cell hV2 0
        simp only [List.getElem?_toArray, List.getElem?_cons_zero, List.getElem?_cons_succ] at ky0
        by_cases hlt2 : k < n1
        · obtain ⟨g, ax, rfl, hax, hMg, ⟨cs0, hcs⟩, ⟨y, hy⟩, hfy⟩ := hKR.row hlt2
          have j0 : (0 : Int) ≤ (k : Int) := by omega
          have j1 : (k : Int) < (n1 : Int) := by omega
          have HI2 := Lib.hid hI2
          have Hbm2 := Lib.hid hbm2
          have HV2 := Lib.hid hV2
          have HadR2 := Lib.hid hadR2
          have Hax := Lib.hid hax
          have Hcs := Lib.hid hcs
          have HIR := Lib.hid hIR
          have HRc2 := Lib.hid hRc2
          clear hRc2 hIR hcs hax hadR2 hV2 hbm2 hI2
          clear hKR
          go_wp2_with fail
          refine ⟨⟨k + 1, by omega, by go_num, ?_, ?_, ?_⟩, by simp [intOf]; omega⟩
          · rw [Hax.out, addr_zero]; exact HI2.out.setK Hcs.out
          · rw [Hax.out, addr_zero]; exact Hbm2.out.setCell (p := ⟨g, k, none⟩) hMg _
          · rw [Hax.out, addr_zero]; exact HV2.out.far (p := ⟨g, k, none⟩) (Blk.ne_ HV2.out Hcs.out (by decide)) _
        · have HI2 := Lib.hid hI2
          have Hbm2 := Lib.hid hbm2
          have HV2 := Lib.hid hV2
          have HadR2 := Lib.hid hadR2
          clear hadR2 hV2 hbm2 hI2
          clear hKR hIR hRc2
          go_wp2_with fail
          clear q0 f0 q1 q4 ky0
          go_loopw [70] (fun i wq => ∃ k : Nat, k ≤ n2 ∧ i = .int .i64 k ∧ CInv wq M fs0.length (.slice (some ad) fs0.length cc) L C ∧ Below M w9 wq ∧ Blk wq w4.heap.size 26 #[.slice (some ad) fs0.length cc]) (fun i _ => n2 - (intOf i).toNat)
          case atStart => exact ⟨0, by omega, rfl, HI2.out, Hbm2.out, HV2.out⟩
          case round =>
            obtain ⟨k3, hk3, rfl, hI3, hbm3, hV3⟩ := hrel
            obtain ⟨R3, ad3, had3, hadR3, hMR3, ⟨rc3, hRc3⟩, ⟨p3, q0⟩, f0, q1, q4, hKR, hIR⟩ := hI3.row hlt
            injection had3 with had3
            subst had3
            rw [HL1.out] at q1
            rw [HC2.out] at q4 hIR
            have ky0 := Blk.cell hV3 0
            simp only [List.getElem?_toArray, List.getElem?_cons_zero, List.getElem?_cons_succ] at ky0
            by_cases hlt3 : k3 < n2
            · obtain ⟨g, ax, rfl, hax, hMg, ⟨cs0, hcs⟩, ⟨y, hy⟩, hfy⟩ := hIR.row hlt3
              have j0 : (0 : Int) ≤ (k3 : Int) := by omega
              have j1 : (k3 : Int) < (n2 : Int) := by omega
              have HI3 := Lib.hid hI3
              have Hbm3 := Lib.hid hbm3
              have HV3 := Lib.hid hV3
              have HadR3 := Lib.hid hadR3
              have Hax := Lib.hid hax
              have Hcs := Lib.hid hcs
              have HKR := Lib.hid hKR
              have HRc3 := Lib.hid hRc3
              clear hRc3 hKR hcs hax hadR3 hV3 hbm3 hI3
              clear hIR
              go_wp2_with fail
              have e : (⟨(ax.add (k3 * 3)).block, (ax.add (k3 * 3)).off + 1, none⟩ : Addr) = ⟨g, k3 * 3 + 1, none⟩ := by rw [addr_sub ax _ 1 (by omega), Hax.out, addr_zero]
              have HE := Lib.hid e
              clear e
              refine ⟨⟨k3 + 1, by omega, by go_num, ?_, ?_, ?_⟩, by simp [intOf]; omega⟩
              · rw [HE.out]; exact HI3.out.setI Hcs.out
              · rw [HE.out]; exact Hbm3.out.setCell (p := ⟨g, k3 * 3 + 1, none⟩) hMg _
              · rw [HE.out]; exact HV3.out.far (p := ⟨g, k3 * 3 + 1, none⟩) (Blk.ne_ HV3.out Hcs.out (by decide)) _
            · have HI3 := Lib.hid hI3
              have Hbm3 := Lib.hid hbm3
              have HV3 := Lib.hid hV3
              have HadR3 := Lib.hid hadR3
              have HRc3 := Lib.hid hRc3
              clear hRc3 hadR3 hV3 hbm3 hI3
              clear hKR hIR
              go_wp2_with fail
              refine ⟨⟨j + 1, by omega, by go_num, ?_, ?_, ?_⟩, by simp [intOf]; omega⟩
              · rw [HadR3.out, addr_zero]; rw [HadR3.out] at HI3; exact HI3.out.setF HRc3.out rfl
              · rw [HadR3.out, addr_zero]; exact Hbm3.out.setCell (p := ⟨R3, j * 5, none⟩) hMR3 _
              · rw [HadR3.out, addr_zero]; rw [HadR3.out] at HV3; exact HV3.out.far (p := ⟨R3, j * 5, none⟩) (Blk.ne_ HV3.out HRc3.out (by decide)) _
    · have hj' : j = fs0.length := by omega
      have hP10 := HP9.out.below hbm (by omega)
      have hU10 := HU9.out.below hbm (by omega)
      have hbw10 := Hbw9.out.trans (hbm.mono (by omega))
      have hwas10 := Hwas9.out.below (hbm.mono (by omega))
      have hp10 := (Hfp.out.below hbw10).more (B' := w2.heap.size) (by omega)
      have hsz := hbm.size
      have ky0 := Blk.cell hP10 0
      simp only [List.getElem?_toArray, List.getElem?_cons_zero, List.getElem?_cons_succ] at ky0
      have kz0 := Blk.cell hU10 0
      simp only [List.getElem?_toArray, List.getElem?_cons_zero, List.getElem?_cons_succ] at kz0
      have HP10 := Lib.hid hP10
      have HU10 := Lib.hid hU10
      have Hbw10 := Lib.hid hbw10
      have Hwas10 := Lib.hid hwas10
      have Hp10 := Lib.hid hp10
      have Hj' := Lib.hid hj'
      clear hj' hp10 hwas10 hbw10 hU10 hP10
      clear hI hbm hV
      go_wp2_with fail
      refine (refsame_any _ _ fs0 fs0 wr w2.heap.size (by omega) Hp10.out Hwas10.out).mono ?_
      rintro e w11 ⟨rfl, hb11⟩
      rw [(eqP_iff fs0 fs0).2 rfl]
      have hbx := Hbw10.out.trans (hb11.mono (by omega))
      have Hbx := Lib.hid hbx
      clear hbx
      clear hb11
      go_wp2_with fail
      go_ret
      exact ⟨rfl, Hbx.out⟩
end Go.Proofs.Ytcaefdfdngecdaa
