/- The law CodeWrites: which programs bytes say, and that these bytes are read as the program. Condition: the program lies in memory, its numbers fit their kinds, within the reach. -/
import Derived.Test.YtcaefdfdngecdaaFirstC
import Derived.Test.YtcaefdfdngecdaaOpenC
import Derived.Test.YtcaefdfdngecdaaRefEnc
import Derived.Test.YtcaefdfdngecdaaRefSame
import Derived.Test.YtcaefdfdngecdaaRefBnd
set_option linter.unusedVariables false
set_option linter.unusedSimpArgs false
namespace Go.Proofs.Ytcaefdfdngecdaa
open Go.RowKit

theorem slice_of' {w : World} {B : Nat} {v : Value} {fs : List FuncD} (h : FuncsAt w B v fs) : ∃ A n c, v = .slice A n c ∧ fs.length = n ∧ c ≤ maxLen ∧ n ≤ c := by
  obtain ⟨A, n, c, css, e, h1, h2, h3, _⟩ := h
  exact ⟨A, n, c, e, h3, h2, h1⟩
theorem conv_reads (w : World) {A : Option Addr} {n c : Nat} {xs : List Int} (h : Reads w w.heap.size 1 A n (byteVals xs)) : (convert 22 9 (.slice A n c)).run Try.prog w = .ok (.string (strOfNums xs)) w :=
  run_conv_reads w _ _ _ Try.underlying22 Try.underlying5 Try.underlying9 h
set_option maxRecDepth 100000 in
set_option maxHeartbeats 4000000 in
theorem walk_CodeWrites (w : World) (fv0 : Value) (fs0 : List FuncD) (hf0 : FuncsIn w fv0 fs0) :
    Calls Try.prog 4 #[.agg #[fv0]] w fun e w' => e = .returned (.bool true) ∧ Below w.heap.size w w' := by
  obtain ⟨hfp, hwf, hsm⟩ := hf0
  have hsmall : FsSmall fs0 := ⟨fun f hf => (hwf f hf).2, hsm⟩
  have hwf' : ∀ f ∈ fs0, f.Wf := fun f hf => (hwf f hf).1
  obtain ⟨A, n, c, rfl, hn, hcm, hnc⟩ := slice_of' hfp
  unfold maxLen at hcm
  have hP := Blk.new w 26 #[.slice A n c]
  have hb0 : Below w.heap.size w (w.alloc (.cells #[.slice A n c] 26)) := (Below.refl _ _).alloc (Nat.le_refl _) _
  have hput : okP fs0 = true → decP (encP fs0) = some fs0 := decP_put fs0 hwf'
  have hbyte : okP fs0 = true → ∀ x ∈ encP fs0, Byte x := encP_byte fs0 hwf'
  have hlen : okP fs0 = true → 0 < (encP fs0).length ∧ (encP fs0).length ≤ 160000000 := encP_len fs0
  have Hfp := Lib.hid hfp
  have Hsmall := Lib.hid hsmall
  have HWF := Lib.hid hwf'
  have Hn := Lib.hid hn
  have HP := Lib.hid hP
  have Hb0 := Lib.hid hb0
  have Hput := Lib.hid hput
  have Hbyte := Lib.hid hbyte
  have Hlen := Lib.hid hlen
  clear hlen hbyte hput hb0 hP hn hwf' hsmall hfp
  clear hwf hsm
  go_enter Try.func4, Try.ntmps4
  go_wp2_with fail
  refine (first_any _).mono ?_
  rintro e w1 ⟨rfl, hb1⟩
  have hP1 := HP.out.below hb1 (by simp)
  have hbw1 := Hb0.out.trans (hb1.mono (by simp))
  have hs1 := hb1.size
  simp only [World.size_alloc] at hs1
  have hp1 := (Hfp.out.below hbw1).more (B' := w1.heap.size) (by omega)
  have kp0 := Blk.cell hP1 0
  simp only [List.getElem?_toArray, List.getElem?_cons_zero, List.getElem?_cons_succ] at kp0
  have HP1 := Lib.hid hP1
  have Hbw1 := Lib.hid hbw1
  have Hp1 := Lib.hid hp1
  clear hp1 hbw1 hP1
  clear hb1
  go_wp2_with fail
  refine (refcopy_any _ fs0 _ w1.heap.size Hp1.out (Nat.le_refl _) Hsmall.out).mono ?_
  rintro e w2 ⟨hb2, pv, css, rfl, hO2, hF2⟩
  have hwas2 := hF2.at_ hO2
  obtain ⟨PA, pc, rfl, _⟩ := own_any hO2
  have hP3 := (HP1.out.below hb2 (by omega)).alloc (.cells #[.slice PA fs0.length pc] 26)
  have hU3 := Blk.new w2 26 #[.slice PA fs0.length pc]
  have hs2 := hb2.size
  have hbw3 := (Hbw1.out.trans (hb2.mono (by omega))).alloc (by omega) (.cells #[.slice PA fs0.length pc] 26)
  have hwas3 := (hwas2.below ((Below.refl w2.heap.size w2).alloc (Nat.le_refl _) (.cells #[.slice PA fs0.length pc] 26)))
  have hp3 := (Hfp.out.below hbw3).more (B' := (w2.alloc (.cells #[.slice PA fs0.length pc] 26)).heap.size) (by simp; omega)
  have kq0 := Blk.cell hP3 0
  simp only [List.getElem?_toArray, List.getElem?_cons_zero, List.getElem?_cons_succ] at kq0
  have HP3 := Lib.hid hP3
  have HU3 := Lib.hid hU3
  have Hbw3 := Lib.hid hbw3
  have Hwas3 := Lib.hid hwas3
  have Hp3 := Lib.hid hp3
  clear hp3 hwas3 hbw3 hU3 hP3
  clear hwas2 hO2 hF2 hb2 kp0
  go_wp2_with fail
  refine (encode_any _ fs0 _ Hp3.out HWF.out).mono ?_
  rintro e w4 ⟨hcase4, hb4⟩
  obtain ⟨M, hM⟩ : ∃ M, M = (w2.alloc (.cells #[.slice PA fs0.length pc] 26)).heap.size := ⟨_, rfl⟩
  rw [← hM] at hcase4 hb4
  have hMs : M = w2.heap.size + 1 := by rw [hM]; simp
  have hs4 := hb4.size
  rw [← hM] at hs4
  have hP4 := HP3.out.below hb4 (by omega)
  have hU4 := HU3.out.below hb4 (by omega)
  have hbw4 := Hbw3.out.trans (hb4.mono (by omega))
  have hwas4 := (Hwas3.out.below (hb4.mono (by omega))).more (B' := w4.heap.size) (by omega)
  have z1 : w.heap.size < w2.heap.size := by omega
  have z2 : w2.heap.size < w4.heap.size := by omega
  have ku0 := Blk.cell hU4 0
  simp only [List.getElem?_toArray, List.getElem?_cons_zero, List.getElem?_cons_succ] at ku0
  have HP4 := Lib.hid hP4
  have HU4 := Lib.hid hU4
  have Hbw4 := Lib.hid hbw4
  have Hwas4 := Lib.hid hwas4
  clear hwas4 hbw4 hU4 hP4
  clear hb4 kq0 hM hMs hs4 hs1 hs2
  rcases hcase4 with ⟨hok, sv, rfl, hown4⟩ | ⟨hok, rfl⟩
  · obtain ⟨SA, sc, rfl, hsc, hscm, _⟩ := own_any hown4
    have hl4 := Hlen.out hok
    have hput := Hput.out hok
    have hbyte := Hbyte.out hok
    obtain ⟨L, hL⟩ : ∃ L, L = (encP fs0).length := ⟨_, rfl⟩
    rw [← hL] at hown4 hsc hl4 ⊢
    unfold maxLen at hscm
    obtain ⟨hl0, hl1⟩ := hl4
    have Hown4 := Lib.hid hown4
    have Hok := Lib.hid hok
    have HL := Lib.hid hL
    have HPUT := Lib.hid hput
    have HBYTE := Lib.hid hbyte
    clear hbyte hput hL hok hown4
    go_wp2_with fail
    refine (refenc_any _ fs0 _ Hwas4.out HWF.out).mono ?_
    rintro e w5 ⟨hcase5, hb5⟩
    obtain ⟨tv, rfl, hown5⟩ : ∃ tv, e = .returned (.tuple #[tv, .bool true]) ∧ w5.ownsRow w4.heap.size 5 1 tv (encP fs0).length (byteVals (encP fs0)) := by
      rcases hcase5 with ⟨_, tv, h, hown5⟩ | ⟨h, _⟩
      · exact ⟨tv, h, hown5⟩
      · rw [Hok.out] at h; cases h
    obtain ⟨TA, tc, rfl, htc, htcm, _⟩ := own_any hown5
    have hO5 := own_kept' Hown4.out (below_grown hb5) (fun g h => by cases h)
    rw [← HL.out] at hown5 htc ⊢
    unfold maxLen at htcm
    have Hown5 := Lib.hid hown5
    have HO5 := Lib.hid hO5
    clear hO5 hown5
    clear hcase5
    go_wp2_with fail
    have hP5 := HP4.out.below hb5 (by omega)
    have hU5 := HU4.out.below hb5 (by omega)
    have hs5 := hb5.size
    have hbw5 := Hbw4.out.trans (hb5.mono (by omega))
    have hwas5 := (Hwas4.out.below hb5).more (B' := w5.heap.size) (by omega)
    have hp5 := (Hfp.out.below hbw5).more (B' := w5.heap.size) (by omega)
    have hsP := hP5.lt
    have hsU := hU5.lt
    have kp0 := Blk.cell hP5 0
    simp only [List.getElem?_toArray, List.getElem?_cons_zero, List.getElem?_cons_succ] at kp0
    have kr0 := Blk.cell hU5 0
    simp only [List.getElem?_toArray, List.getElem?_cons_zero, List.getElem?_cons_succ] at kr0
    have HP5 := Lib.hid hP5
    have HU5 := Lib.hid hU5
    have Hbw5 := Lib.hid hbw5
    have Hwas5 := Lib.hid hwas5
    have Hp5 := Lib.hid hp5
    clear hp5 hwas5 hbw5 hU5 hP5
    clear hb5 ku0
    obtain ⟨bb, hbb⟩ : ∃ bb, boundP fs0 = bb := ⟨_, rfl⟩
    have Hbb := Lib.hid hbb
    clear hbb
    cases bb
    · refine wp_region_noPanic ?_
      refine wp_region_held_drew (S := fun W => W.cell? ⟨w.heap.size, 0, none⟩ = some (.slice A n c) ∧ W.cell? ⟨w2.heap.size, 0, none⟩ = some (.slice PA fs0.length pc)) (by kernel_rfl) ⟨kp0, kr0⟩ (fun hHeld => ?_)
      refine wpAnyH_take (i := 0) (v := ?_) rfl (by kernel_rfl) (by kernel_rfl) (by kernel_rfl) (fun _ _ _ h => h) (Or.inl ⟨by rfl, ?_⟩) (by assumption) ?_
      rotate_left
      · intro w hSw; (try dsimp only at hSw); go_simp; try with_reducible rfl
      simp only [Act.put, List.getElem_toArray, List.getElem_cons_zero, List.getElem_cons_succ, List.setIfInBounds_toArray, List.set_cons_zero, List.set_cons_succ]
      refine wpAnyH_take (i := 1) (v := ?_) rfl (by kernel_rfl) (by kernel_rfl) (by kernel_rfl) (fun _ _ _ h => h) (Or.inl ⟨by rfl, ?_⟩) (by assumption) ?_
      rotate_left
      · intro w hSw; (try dsimp only at hSw); go_simp; try with_reducible rfl
      simp only [Act.put, List.getElem_toArray, List.getElem_cons_zero, List.getElem_cons_succ, List.setIfInBounds_toArray, List.set_cons_zero, List.set_cons_succ]
      refine wpAnyH_ready (rs := [2]) (by kernel_rfl) (by simp) ?_
      refine AllReadyH.cons rfl (fun K hK => ?_) AllReadyH.nil
      go_simp
      refine (refsame_any _ _ fs0 fs0 w5.drew w5.heap.size (Nat.le_refl _) (show FuncsAt w5.drew _ _ _ from Hp5.out) (show FuncsAt w5.drew _ _ _ from Hwas5.out)).mono ?_
      rintro e w6 ⟨rfl, hb6⟩
      rw [(eqP_iff fs0 fs0).2 rfl]
      have hb6' : Below w5.heap.size w5 w6 := ⟨hb6.os, hb6.tape, hb6.output, hb6.size, hb6.block⟩
      have hs6 := hb6'.size
      refine hK.out _ _ ⟨(HP5.out.below hb6' hsP).cell 0, (HU5.out.below hb6' hsU).cell 0⟩ (fun hHeld2 => ?_)
      have Hb6' := Lib.hid hb6'
      clear hb6'
      clear hK K hHeld hb6
      try simp only [Act.put, List.getElem_toArray, List.getElem_cons_zero, List.getElem_cons_succ, List.setIfInBounds_toArray, List.set_cons_zero, List.set_cons_succ]
      refine wpAnyH_take (i := 3) (v := ?_) rfl (by kernel_rfl) (by kernel_rfl) (by kernel_rfl) (fun _ _ _ h => h) (Or.inl ⟨by rfl, ?_⟩) (by assumption) ?_
      rotate_left
      · intro w hSw; (try dsimp only at hSw); go_simp; try with_reducible rfl
      simp only [Act.put, List.getElem_toArray, List.getElem_cons_zero, List.getElem_cons_succ, List.setIfInBounds_toArray, List.set_cons_zero, List.set_cons_succ]
      refine wpAnyH_take (i := 4) (v := ?_) rfl (by kernel_rfl) (by kernel_rfl) (by kernel_rfl) (fun _ _ _ h => h) (Or.inl ⟨by rfl, ?_⟩) (by assumption) ?_
      rotate_left
      · intro w hSw; (try dsimp only at hSw); go_simp; try with_reducible rfl
      simp only [Act.put, List.getElem_toArray, List.getElem_cons_zero, List.getElem_cons_succ, List.setIfInBounds_toArray, List.set_cons_zero, List.set_cons_succ]
      refine wpAnyH_take (i := 5) (v := ?_) rfl (by kernel_rfl) (by kernel_rfl) (by kernel_rfl) (fun _ _ _ h => h) (Or.inl ⟨by rfl, ?_⟩) (by assumption) ?_
      rotate_left
      · intro w hSw; (try dsimp only at hSw); go_simp; try with_reducible rfl
      simp only [Act.put, List.getElem_toArray, List.getElem_cons_zero, List.getElem_cons_succ, List.setIfInBounds_toArray, List.set_cons_zero, List.set_cons_succ]
      refine wpAnyH_take (i := 7) (v := ?_) rfl (by kernel_rfl) (by kernel_rfl) (by kernel_rfl) (fun _ _ _ h => h) (Or.inl ⟨by rfl, ?_⟩) (by assumption) ?_
      rotate_left
      · intro w hSw; (try dsimp only at hSw); go_simp; try with_reducible rfl
      simp only [Act.put, List.getElem_toArray, List.getElem_cons_zero, List.getElem_cons_succ, List.setIfInBounds_toArray, List.set_cons_zero, List.set_cons_succ]
      refine wpAnyH_ready (rs := [6]) (by kernel_rfl) (by simp) ?_
      refine AllReadyH.cons rfl (fun K hK => ?_) AllReadyH.nil
      go_simp
      refine (bounded_any _ fs0 w6 w5.heap.size (Hp5.out.below Hb6'.out) (by omega)).mono ?_
      rintro e w7 ⟨rfl, hb7⟩
      rw [Hbb.out]
      have hb7' : Below w5.heap.size w5 w7 := Hb6'.out.trans (hb7.mono hs6)
      have hs7 := hb7'.size
      refine hK.out _ _ ⟨(HP5.out.below hb7' hsP).cell 0, (HU5.out.below hb7' hsU).cell 0⟩ (fun hHeld3 => ?_)
      have Hb7' := Lib.hid hb7'
      clear hb7'
      clear hK K hHeld2 hb7 Hb6' hs6
      try simp only [Act.put, List.getElem_toArray, List.getElem_cons_zero, List.getElem_cons_succ, List.setIfInBounds_toArray, List.set_cons_zero, List.set_cons_succ]
      refine wpAnyH_ready (rs := [8]) (by kernel_rfl) (by simp) ?_
      refine AllReadyH.cons rfl (fun K hK => ?_) AllReadyH.nil
      go_simp
      refine (refbounded_any _ fs0 w7 w5.heap.size (Hwas5.out.below Hb7'.out) (by omega)).mono ?_
      rintro e w8 ⟨rfl, hb8⟩
      rw [Hbb.out]
      have hb8' : Below w5.heap.size w5 w8 := Hb7'.out.trans (hb8.mono hs7)
      have hs8 := hb8'.size
      refine hK.out _ _ ⟨(HP5.out.below hb8' hsP).cell 0, (HU5.out.below hb8' hsU).cell 0⟩ (fun hHeld4 => ?_)
      clear hK K hHeld3 hb8 Hb7' hs7
      try simp only [Act.put, List.getElem_toArray, List.getElem_cons_zero, List.getElem_cons_succ, List.setIfInBounds_toArray, List.set_cons_zero, List.set_cons_succ]
      refine wpAnyH_take (i := 9) (v := ?_) rfl (by kernel_rfl) (by kernel_rfl) (by kernel_rfl) (fun _ _ _ h => h) (Or.inl ⟨by rfl, ?_⟩) (by assumption) ?_
      rotate_left
      · intro w hSw; (try dsimp only at hSw); go_simp; try with_reducible rfl
      simp only [Act.put, List.getElem_toArray, List.getElem_cons_zero, List.getElem_cons_succ, List.setIfInBounds_toArray, List.set_cons_zero, List.set_cons_succ]
      refine wpAnyH_take (i := 10) (v := ?_) rfl (by kernel_rfl) (by kernel_rfl) (by kernel_rfl) (fun _ _ _ h => h) (Or.inl ⟨by rfl, ?_⟩) (by assumption) ?_
      rotate_left
      · intro w hSw; (try dsimp only at hSw); go_simp; try with_reducible rfl
      simp only [Act.put, List.getElem_toArray, List.getElem_cons_zero, List.getElem_cons_succ, List.setIfInBounds_toArray, List.set_cons_zero, List.set_cons_succ]
      refine wpAnyH_done (by kernel_rfl) ?_ _
      refine NoPanic.normal ?_
      have hU8 := HU5.out.below hb8' hsU
      have hbw8 := Hbw5.out.trans (hb8'.mono (by omega))
      have hwas8 := (Hwas5.out.below hb8').more (B' := w8.heap.size) hs8
      clear kp0 kr0 hHeld4
      have hO8 := own_kept' HO5.out (below_grown hb8') (fun g h => by cases h)
      have hT8 := own_kept' Hown5.out (below_grown hb8') (fun g h => by cases h)
      have hks8 : KindsAt w8 w8.heap.size (.slice SA L sc) (encP fs0) := by
        exact ⟨SA, L, sc, rfl, hsc, by unfold maxLen; omega, HL.out.symm, Reads.of_own hO8⟩
      have HU8 := Lib.hid hU8
      have Hbw8 := Lib.hid hbw8
      have Hwas8 := Lib.hid hwas8
      have HO8 := Lib.hid hO8
      have HT8 := Lib.hid hT8
      have Hks8 := Lib.hid hks8
      clear hks8 hT8 hO8 hwas8 hbw8 hU8
      clear hb8'
      go_wp2_with fail
      refine (decode_any _ (encP fs0) _ _ Hks8.out HBYTE.out (Nat.le_refl _)).mono ?_
      rintro e w9 ⟨hb9, hcase9⟩
      have hs9 := hb9.size
      have hU9 := HU8.out.below hb9 (by omega)
      have hbw9 := Hbw8.out.trans (hb9.mono (by omega))
      have hwas9 := (Hwas8.out.below hb9).more (B' := w9.heap.size) hs9
      have hO9 := own_kept' HO8.out (below_grown hb9) (fun g h => by cases h)
      have hT9 := own_kept' HT8.out (below_grown hb9) (fun g h => by cases h)
      clear hb9
      obtain rfl : e = .returned (.tuple #[.agg #[.slice none 0 0], .int .i64 31]) := by
        rcases hcase9 with ⟨h, _⟩ | ⟨fs, h, _, h2⟩ | ⟨fs, pv, h, h1, _⟩
        · rw [HPUT.out] at h; cases h
        · exact h2
        · rw [HPUT.out] at h; injection h with h; subst h; rw [Hbb.out] at h1; cases h1
      clear hcase9
      have hU10 := hU9.alloc (.cells #[.slice none 0 0] 26)
      have hQ10 := Blk.new w9 26 #[.slice none 0 0]
      have hbw10 := hbw9.alloc (by omega) (.cells #[.slice none 0 0] 26)
      have hwas10 := (hwas9.below ((Below.refl w9.heap.size w9).alloc (Nat.le_refl _) (.cells #[.slice none 0 0] 26)))
      have cO := conv_reads _ (c := sc) (Reads.of_own (hO9.alloc (.cells #[.slice none 0 0] 26)))
      have cT := conv_reads _ (c := tc) (Reads.of_own (hT9.alloc (.cells #[.slice none 0 0] 26)))
      have ku0 := Blk.cell hU10 0
      simp only [List.getElem?_toArray, List.getElem?_cons_zero, List.getElem?_cons_succ] at ku0
      have HU10 := Lib.hid hU10
      have HQ10 := Lib.hid hQ10
      have Hbw10 := Lib.hid hbw10
      have Hwas10 := Lib.hid hwas10
      clear hwas10 hbw10 hQ10 hU10
      clear hU9 hbw9 hwas9 hO9 hT9
      go_wp2_with fail
      refine (refbounded_any _ fs0 _ w9.heap.size Hwas10.out (by simp)).mono ?_
      rintro e w11 ⟨rfl, hb11⟩
      rw [Hbb.out]
      have hs11 := hb11.size
      rw [World.size_alloc] at hs11
      have hbw11 := Hbw10.out.trans (hb11.mono (by simp; omega))
      have Hbw11 := Lib.hid hbw11
      clear hbw11
      clear hb11 ku0 cO cT
      go_wp2_with fail
      go_ret
      exact ⟨rfl, Hbw11.out⟩
    · refine wp_region_noPanic ?_
      refine wp_region_held_drew (S := fun W => W.cell? ⟨w.heap.size, 0, none⟩ = some (.slice A n c) ∧ W.cell? ⟨w2.heap.size, 0, none⟩ = some (.slice PA fs0.length pc)) (by kernel_rfl) ⟨kp0, kr0⟩ (fun hHeld => ?_)
      refine wpAnyH_take (i := 0) (v := ?_) rfl (by kernel_rfl) (by kernel_rfl) (by kernel_rfl) (fun _ _ _ h => h) (Or.inl ⟨by rfl, ?_⟩) (by assumption) ?_
      rotate_left
      · intro w hSw; (try dsimp only at hSw); go_simp; try with_reducible rfl
      simp only [Act.put, List.getElem_toArray, List.getElem_cons_zero, List.getElem_cons_succ, List.setIfInBounds_toArray, List.set_cons_zero, List.set_cons_succ]
      refine wpAnyH_take (i := 1) (v := ?_) rfl (by kernel_rfl) (by kernel_rfl) (by kernel_rfl) (fun _ _ _ h => h) (Or.inl ⟨by rfl, ?_⟩) (by assumption) ?_
      rotate_left
      · intro w hSw; (try dsimp only at hSw); go_simp; try with_reducible rfl
      simp only [Act.put, List.getElem_toArray, List.getElem_cons_zero, List.getElem_cons_succ, List.setIfInBounds_toArray, List.set_cons_zero, List.set_cons_succ]
      refine wpAnyH_ready (rs := [2]) (by kernel_rfl) (by simp) ?_
      refine AllReadyH.cons rfl (fun K hK => ?_) AllReadyH.nil
      go_simp
      refine (refsame_any _ _ fs0 fs0 w5.drew w5.heap.size (Nat.le_refl _) (show FuncsAt w5.drew _ _ _ from Hp5.out) (show FuncsAt w5.drew _ _ _ from Hwas5.out)).mono ?_
      rintro e w6 ⟨rfl, hb6⟩
      rw [(eqP_iff fs0 fs0).2 rfl]
      have hb6' : Below w5.heap.size w5 w6 := ⟨hb6.os, hb6.tape, hb6.output, hb6.size, hb6.block⟩
      have hs6 := hb6'.size
      refine hK.out _ _ ⟨(HP5.out.below hb6' hsP).cell 0, (HU5.out.below hb6' hsU).cell 0⟩ (fun hHeld2 => ?_)
      have Hb6' := Lib.hid hb6'
      clear hb6'
      clear hK K hHeld hb6
      try simp only [Act.put, List.getElem_toArray, List.getElem_cons_zero, List.getElem_cons_succ, List.setIfInBounds_toArray, List.set_cons_zero, List.set_cons_succ]
      refine wpAnyH_take (i := 3) (v := ?_) rfl (by kernel_rfl) (by kernel_rfl) (by kernel_rfl) (fun _ _ _ h => h) (Or.inl ⟨by rfl, ?_⟩) (by assumption) ?_
      rotate_left
      · intro w hSw; (try dsimp only at hSw); go_simp; try with_reducible rfl
      simp only [Act.put, List.getElem_toArray, List.getElem_cons_zero, List.getElem_cons_succ, List.setIfInBounds_toArray, List.set_cons_zero, List.set_cons_succ]
      refine wpAnyH_take (i := 4) (v := ?_) rfl (by kernel_rfl) (by kernel_rfl) (by kernel_rfl) (fun _ _ _ h => h) (Or.inl ⟨by rfl, ?_⟩) (by assumption) ?_
      rotate_left
      · intro w hSw; (try dsimp only at hSw); go_simp; try with_reducible rfl
      simp only [Act.put, List.getElem_toArray, List.getElem_cons_zero, List.getElem_cons_succ, List.setIfInBounds_toArray, List.set_cons_zero, List.set_cons_succ]
      refine wpAnyH_take (i := 5) (v := ?_) rfl (by kernel_rfl) (by kernel_rfl) (by kernel_rfl) (fun _ _ _ h => h) (Or.inl ⟨by rfl, ?_⟩) (by assumption) ?_
      rotate_left
      · intro w hSw; (try dsimp only at hSw); go_simp; try with_reducible rfl
      simp only [Act.put, List.getElem_toArray, List.getElem_cons_zero, List.getElem_cons_succ, List.setIfInBounds_toArray, List.set_cons_zero, List.set_cons_succ]
      refine wpAnyH_take (i := 7) (v := ?_) rfl (by kernel_rfl) (by kernel_rfl) (by kernel_rfl) (fun _ _ _ h => h) (Or.inl ⟨by rfl, ?_⟩) (by assumption) ?_
      rotate_left
      · intro w hSw; (try dsimp only at hSw); go_simp; try with_reducible rfl
      simp only [Act.put, List.getElem_toArray, List.getElem_cons_zero, List.getElem_cons_succ, List.setIfInBounds_toArray, List.set_cons_zero, List.set_cons_succ]
      refine wpAnyH_ready (rs := [6]) (by kernel_rfl) (by simp) ?_
      refine AllReadyH.cons rfl (fun K hK => ?_) AllReadyH.nil
      go_simp
      refine (bounded_any _ fs0 w6 w5.heap.size (Hp5.out.below Hb6'.out) (by omega)).mono ?_
      rintro e w7 ⟨rfl, hb7⟩
      rw [Hbb.out]
      have hb7' : Below w5.heap.size w5 w7 := Hb6'.out.trans (hb7.mono hs6)
      have hs7 := hb7'.size
      refine hK.out _ _ ⟨(HP5.out.below hb7' hsP).cell 0, (HU5.out.below hb7' hsU).cell 0⟩ (fun hHeld3 => ?_)
      have Hb7' := Lib.hid hb7'
      clear hb7'
      clear hK K hHeld2 hb7 Hb6' hs6
      try simp only [Act.put, List.getElem_toArray, List.getElem_cons_zero, List.getElem_cons_succ, List.setIfInBounds_toArray, List.set_cons_zero, List.set_cons_succ]
      refine wpAnyH_ready (rs := [8]) (by kernel_rfl) (by simp) ?_
      refine AllReadyH.cons rfl (fun K hK => ?_) AllReadyH.nil
      go_simp
      refine (refbounded_any _ fs0 w7 w5.heap.size (Hwas5.out.below Hb7'.out) (by omega)).mono ?_
      rintro e w8 ⟨rfl, hb8⟩
      rw [Hbb.out]
      have hb8' : Below w5.heap.size w5 w8 := Hb7'.out.trans (hb8.mono hs7)
      have hs8 := hb8'.size
      refine hK.out _ _ ⟨(HP5.out.below hb8' hsP).cell 0, (HU5.out.below hb8' hsU).cell 0⟩ (fun hHeld4 => ?_)
      clear hK K hHeld3 hb8 Hb7' hs7
      try simp only [Act.put, List.getElem_toArray, List.getElem_cons_zero, List.getElem_cons_succ, List.setIfInBounds_toArray, List.set_cons_zero, List.set_cons_succ]
      refine wpAnyH_take (i := 9) (v := ?_) rfl (by kernel_rfl) (by kernel_rfl) (by kernel_rfl) (fun _ _ _ h => h) (Or.inl ⟨by rfl, ?_⟩) (by assumption) ?_
      rotate_left
      · intro w hSw; (try dsimp only at hSw); go_simp; try with_reducible rfl
      simp only [Act.put, List.getElem_toArray, List.getElem_cons_zero, List.getElem_cons_succ, List.setIfInBounds_toArray, List.set_cons_zero, List.set_cons_succ]
      refine wpAnyH_take (i := 10) (v := ?_) rfl (by kernel_rfl) (by kernel_rfl) (by kernel_rfl) (fun _ _ _ h => h) (Or.inl ⟨by rfl, ?_⟩) (by assumption) ?_
      rotate_left
      · intro w hSw; (try dsimp only at hSw); go_simp; try with_reducible rfl
      simp only [Act.put, List.getElem_toArray, List.getElem_cons_zero, List.getElem_cons_succ, List.setIfInBounds_toArray, List.set_cons_zero, List.set_cons_succ]
      refine wpAnyH_done (by kernel_rfl) ?_ _
      refine NoPanic.normal ?_
      have hU8 := HU5.out.below hb8' hsU
      have hbw8 := Hbw5.out.trans (hb8'.mono (by omega))
      have hwas8 := (Hwas5.out.below hb8').more (B' := w8.heap.size) hs8
      clear kp0 kr0 hHeld4
      have hO8 := own_kept' HO5.out (below_grown hb8') (fun g h => by cases h)
      have hT8 := own_kept' Hown5.out (below_grown hb8') (fun g h => by cases h)
      have hks8 : KindsAt w8 w8.heap.size (.slice SA L sc) (encP fs0) := by
        exact ⟨SA, L, sc, rfl, hsc, by unfold maxLen; omega, HL.out.symm, Reads.of_own hO8⟩
      have HU8 := Lib.hid hU8
      have Hbw8 := Lib.hid hbw8
      have Hwas8 := Lib.hid hwas8
      have HO8 := Lib.hid hO8
      have HT8 := Lib.hid hT8
      have Hks8 := Lib.hid hks8
      clear hks8 hT8 hO8 hwas8 hbw8 hU8
      clear hb8'
      go_wp2_with fail
      refine (decode_any _ (encP fs0) _ _ Hks8.out HBYTE.out (Nat.le_refl _)).mono ?_
      rintro e w9 ⟨hb9, hcase9⟩
      have hs9 := hb9.size
      have hU9 := HU8.out.below hb9 (by omega)
      have hbw9 := Hbw8.out.trans (hb9.mono (by omega))
      have hwas9 := (Hwas8.out.below hb9).more (B' := w9.heap.size) hs9
      have hO9 := own_kept' HO8.out (below_grown hb9) (fun g h => by cases h)
      have hT9 := own_kept' HT8.out (below_grown hb9) (fun g h => by cases h)
      clear hb9
      obtain ⟨QA, qn, qc, rfl, hq9⟩ : ∃ QA qn qc, e = .returned (.tuple #[.agg #[.slice QA qn qc], .int .i64 0]) ∧ FuncsAt w9 w9.heap.size (.slice QA qn qc) fs0 := by
        rcases hcase9 with ⟨h, _⟩ | ⟨fs, h, h1, _⟩ | ⟨fs, pv, h, _, h2, h3, _⟩
        · rw [HPUT.out] at h; cases h
        · rw [HPUT.out] at h; injection h with h; subst h; rw [Hbb.out] at h1; cases h1
        · rw [HPUT.out] at h; injection h with h; subst h
          obtain ⟨QA, qn, qc, h4, _⟩ := slice_of' h3
          subst h4
          exact ⟨QA, qn, qc, h2, h3⟩
      clear hcase9
      have hU10 := hU9.alloc (.cells #[.slice QA qn qc] 26)
      have hQ10 := Blk.new w9 26 #[.slice QA qn qc]
      have hbw10 := hbw9.alloc (by omega) (.cells #[.slice QA qn qc] 26)
      have hwas10 := (hwas9.below ((Below.refl w9.heap.size w9).alloc (Nat.le_refl _) (.cells #[.slice QA qn qc] 26)))
      have cO := conv_reads _ (c := sc) (Reads.of_own (hO9.alloc (.cells #[.slice QA qn qc] 26)))
      have cT := conv_reads _ (c := tc) (Reads.of_own (hT9.alloc (.cells #[.slice QA qn qc] 26)))
      have ku0 := Blk.cell hU10 0
      simp only [List.getElem?_toArray, List.getElem?_cons_zero, List.getElem?_cons_succ] at ku0
      have HU10 := Lib.hid hU10
      have HQ10 := Lib.hid hQ10
      have Hbw10 := Lib.hid hbw10
      have Hwas10 := Lib.hid hwas10
      clear hwas10 hbw10 hQ10 hU10
      have hq10 := (hq9.below ((Below.refl w9.heap.size w9).alloc (Nat.le_refl _) (.cells #[.slice QA qn qc] 26)))
      have Hq10 := Lib.hid hq10
      clear hq10
      clear hq9
      clear hU9 hbw9 hwas9 hO9 hT9
      go_wp2_with fail
      refine (refbounded_any _ fs0 _ w9.heap.size Hwas10.out (by simp)).mono ?_
      rintro e w11 ⟨rfl, hb11⟩
      rw [Hbb.out]
      have hs11 := hb11.size
      rw [World.size_alloc] at hs11
      have hbw11 := Hbw10.out.trans (hb11.mono (by simp; omega))
      have hU11 := HU10.out.below hb11 (by simp; omega)
      have hQ11 := HQ10.out.below hb11 (by simp)
      have hwas11 := Hwas10.out.below (hb11.mono (by simp))
      have hq11 := Hq10.out.below (hb11.mono (by simp))
      clear ku0 cO cT
      have ku0 := Blk.cell hU11 0
      simp only [List.getElem?_toArray, List.getElem?_cons_zero, List.getElem?_cons_succ] at ku0
      have kv0 := Blk.cell hQ11 0
      simp only [List.getElem?_toArray, List.getElem?_cons_zero, List.getElem?_cons_succ] at kv0
      have Hbw11 := Lib.hid hbw11
      have HU11 := Lib.hid hU11
      have HQ11 := Lib.hid hQ11
      have Hwas11 := Lib.hid hwas11
      have Hq11 := Lib.hid hq11
      clear hq11 hwas11 hQ11 hU11 hbw11
      clear hb11
      go_wp2_with fail
      refine (refsame_any _ _ fs0 fs0 w11 w9.heap.size (by omega) Hq11.out Hwas11.out).mono ?_
      rintro e w12 ⟨rfl, hb12⟩
      rw [(eqP_iff fs0 fs0).2 rfl]
      have hbw12 := Hbw11.out.trans (hb12.mono (by omega))
      have Hbw12 := Lib.hid hbw12
      clear hbw12
      clear hb12 ku0 kv0
      go_wp2_with fail
      go_ret
      exact ⟨rfl, Hbw12.out⟩
  · have Hok := Lib.hid hok
    clear hok
    go_wp2_with fail
    refine (refenc_any _ fs0 _ Hwas4.out HWF.out).mono ?_
    rintro e w5 ⟨hcase5, hb5⟩
    obtain rfl : e = .returned (.tuple #[.slice none 0 0, .bool false]) := by
      rcases hcase5 with ⟨h, _⟩ | ⟨_, h⟩
      · rw [Hok.out] at h; cases h
      · exact h
    clear hcase5
    go_wp2_with fail
    have hP5 := HP4.out.below hb5 (by omega)
    have hU5 := HU4.out.below hb5 (by omega)
    have hs5 := hb5.size
    have hbw5 := Hbw4.out.trans (hb5.mono (by omega))
    have hwas5 := (Hwas4.out.below hb5).more (B' := w5.heap.size) (by omega)
    have hp5 := (Hfp.out.below hbw5).more (B' := w5.heap.size) (by omega)
    have hsP := hP5.lt
    have hsU := hU5.lt
    have kp0 := Blk.cell hP5 0
    simp only [List.getElem?_toArray, List.getElem?_cons_zero, List.getElem?_cons_succ] at kp0
    have kr0 := Blk.cell hU5 0
    simp only [List.getElem?_toArray, List.getElem?_cons_zero, List.getElem?_cons_succ] at kr0
    have HP5 := Lib.hid hP5
    have HU5 := Lib.hid hU5
    have Hbw5 := Lib.hid hbw5
    have Hwas5 := Lib.hid hwas5
    have Hp5 := Lib.hid hp5
    clear hp5 hwas5 hbw5 hU5 hP5
    clear hb5 ku0
    obtain ⟨bb, hbb⟩ : ∃ bb, boundP fs0 = bb := ⟨_, rfl⟩
    have Hbb := Lib.hid hbb
    clear hbb
    cases bb
    · refine wp_region_noPanic ?_
      refine wp_region_held_drew (S := fun W => W.cell? ⟨w.heap.size, 0, none⟩ = some (.slice A n c) ∧ W.cell? ⟨w2.heap.size, 0, none⟩ = some (.slice PA fs0.length pc)) (by kernel_rfl) ⟨kp0, kr0⟩ (fun hHeld => ?_)
      refine wpAnyH_take (i := 0) (v := ?_) rfl (by kernel_rfl) (by kernel_rfl) (by kernel_rfl) (fun _ _ _ h => h) (Or.inl ⟨by rfl, ?_⟩) (by assumption) ?_
      rotate_left
      · intro w hSw; (try dsimp only at hSw); go_simp; try with_reducible rfl
      simp only [Act.put, List.getElem_toArray, List.getElem_cons_zero, List.getElem_cons_succ, List.setIfInBounds_toArray, List.set_cons_zero, List.set_cons_succ]
      refine wpAnyH_take (i := 1) (v := ?_) rfl (by kernel_rfl) (by kernel_rfl) (by kernel_rfl) (fun _ _ _ h => h) (Or.inl ⟨by rfl, ?_⟩) (by assumption) ?_
      rotate_left
      · intro w hSw; (try dsimp only at hSw); go_simp; try with_reducible rfl
      simp only [Act.put, List.getElem_toArray, List.getElem_cons_zero, List.getElem_cons_succ, List.setIfInBounds_toArray, List.set_cons_zero, List.set_cons_succ]
      refine wpAnyH_ready (rs := [2]) (by kernel_rfl) (by simp) ?_
      refine AllReadyH.cons rfl (fun K hK => ?_) AllReadyH.nil
      go_simp
      refine (refsame_any _ _ fs0 fs0 w5.drew w5.heap.size (Nat.le_refl _) (show FuncsAt w5.drew _ _ _ from Hp5.out) (show FuncsAt w5.drew _ _ _ from Hwas5.out)).mono ?_
      rintro e w6 ⟨rfl, hb6⟩
      rw [(eqP_iff fs0 fs0).2 rfl]
      have hb6' : Below w5.heap.size w5 w6 := ⟨hb6.os, hb6.tape, hb6.output, hb6.size, hb6.block⟩
      have hs6 := hb6'.size
      refine hK.out _ _ ⟨(HP5.out.below hb6' hsP).cell 0, (HU5.out.below hb6' hsU).cell 0⟩ (fun hHeld2 => ?_)
      have Hb6' := Lib.hid hb6'
      clear hb6'
      clear hK K hHeld hb6
      try simp only [Act.put, List.getElem_toArray, List.getElem_cons_zero, List.getElem_cons_succ, List.setIfInBounds_toArray, List.set_cons_zero, List.set_cons_succ]
      refine wpAnyH_take (i := 3) (v := ?_) rfl (by kernel_rfl) (by kernel_rfl) (by kernel_rfl) (fun _ _ _ h => h) (Or.inl ⟨by rfl, ?_⟩) (by assumption) ?_
      rotate_left
      · intro w hSw; (try dsimp only at hSw); go_simp; try with_reducible rfl
      simp only [Act.put, List.getElem_toArray, List.getElem_cons_zero, List.getElem_cons_succ, List.setIfInBounds_toArray, List.set_cons_zero, List.set_cons_succ]
      refine wpAnyH_take (i := 4) (v := ?_) rfl (by kernel_rfl) (by kernel_rfl) (by kernel_rfl) (fun _ _ _ h => h) (Or.inl ⟨by rfl, ?_⟩) (by assumption) ?_
      rotate_left
      · intro w hSw; (try dsimp only at hSw); go_simp; try with_reducible rfl
      simp only [Act.put, List.getElem_toArray, List.getElem_cons_zero, List.getElem_cons_succ, List.setIfInBounds_toArray, List.set_cons_zero, List.set_cons_succ]
      refine wpAnyH_take (i := 5) (v := ?_) rfl (by kernel_rfl) (by kernel_rfl) (by kernel_rfl) (fun _ _ _ h => h) (Or.inl ⟨by rfl, ?_⟩) (by assumption) ?_
      rotate_left
      · intro w hSw; (try dsimp only at hSw); go_simp; try with_reducible rfl
      simp only [Act.put, List.getElem_toArray, List.getElem_cons_zero, List.getElem_cons_succ, List.setIfInBounds_toArray, List.set_cons_zero, List.set_cons_succ]
      refine wpAnyH_take (i := 7) (v := ?_) rfl (by kernel_rfl) (by kernel_rfl) (by kernel_rfl) (fun _ _ _ h => h) (Or.inl ⟨by rfl, ?_⟩) (by assumption) ?_
      rotate_left
      · intro w hSw; (try dsimp only at hSw); go_simp; try with_reducible rfl
      simp only [Act.put, List.getElem_toArray, List.getElem_cons_zero, List.getElem_cons_succ, List.setIfInBounds_toArray, List.set_cons_zero, List.set_cons_succ]
      refine wpAnyH_ready (rs := [6]) (by kernel_rfl) (by simp) ?_
      refine AllReadyH.cons rfl (fun K hK => ?_) AllReadyH.nil
      go_simp
      refine (bounded_any _ fs0 w6 w5.heap.size (Hp5.out.below Hb6'.out) (by omega)).mono ?_
      rintro e w7 ⟨rfl, hb7⟩
      rw [Hbb.out]
      have hb7' : Below w5.heap.size w5 w7 := Hb6'.out.trans (hb7.mono hs6)
      have hs7 := hb7'.size
      refine hK.out _ _ ⟨(HP5.out.below hb7' hsP).cell 0, (HU5.out.below hb7' hsU).cell 0⟩ (fun hHeld3 => ?_)
      have Hb7' := Lib.hid hb7'
      clear hb7'
      clear hK K hHeld2 hb7 Hb6' hs6
      try simp only [Act.put, List.getElem_toArray, List.getElem_cons_zero, List.getElem_cons_succ, List.setIfInBounds_toArray, List.set_cons_zero, List.set_cons_succ]
      refine wpAnyH_ready (rs := [8]) (by kernel_rfl) (by simp) ?_
      refine AllReadyH.cons rfl (fun K hK => ?_) AllReadyH.nil
      go_simp
      refine (refbounded_any _ fs0 w7 w5.heap.size (Hwas5.out.below Hb7'.out) (by omega)).mono ?_
      rintro e w8 ⟨rfl, hb8⟩
      rw [Hbb.out]
      have hb8' : Below w5.heap.size w5 w8 := Hb7'.out.trans (hb8.mono hs7)
      have hs8 := hb8'.size
      refine hK.out _ _ ⟨(HP5.out.below hb8' hsP).cell 0, (HU5.out.below hb8' hsU).cell 0⟩ (fun hHeld4 => ?_)
      clear hK K hHeld3 hb8 Hb7' hs7
      try simp only [Act.put, List.getElem_toArray, List.getElem_cons_zero, List.getElem_cons_succ, List.setIfInBounds_toArray, List.set_cons_zero, List.set_cons_succ]
      refine wpAnyH_take (i := 9) (v := ?_) rfl (by kernel_rfl) (by kernel_rfl) (by kernel_rfl) (fun _ _ _ h => h) (Or.inl ⟨by rfl, ?_⟩) (by assumption) ?_
      rotate_left
      · intro w hSw; (try dsimp only at hSw); go_simp; try with_reducible rfl
      simp only [Act.put, List.getElem_toArray, List.getElem_cons_zero, List.getElem_cons_succ, List.setIfInBounds_toArray, List.set_cons_zero, List.set_cons_succ]
      refine wpAnyH_take (i := 10) (v := ?_) rfl (by kernel_rfl) (by kernel_rfl) (by kernel_rfl) (fun _ _ _ h => h) (Or.inl ⟨by rfl, ?_⟩) (by assumption) ?_
      rotate_left
      · intro w hSw; (try dsimp only at hSw); go_simp; try with_reducible rfl
      simp only [Act.put, List.getElem_toArray, List.getElem_cons_zero, List.getElem_cons_succ, List.setIfInBounds_toArray, List.set_cons_zero, List.set_cons_succ]
      refine wpAnyH_done (by kernel_rfl) ?_ _
      refine NoPanic.normal ?_
      have hU8 := HU5.out.below hb8' hsU
      have hbw8 := Hbw5.out.trans (hb8'.mono (by omega))
      have hwas8 := (Hwas5.out.below hb8').more (B' := w8.heap.size) hs8
      clear kp0 kr0 hHeld4
      have Hbw8 := Lib.hid hbw8
      clear hbw8
      clear hb8' hU8 hwas8
      go_wp2_with fail
      go_ret
      exact ⟨rfl, Hbw8.out⟩
    · refine wp_region_noPanic ?_
      refine wp_region_held_drew (S := fun W => W.cell? ⟨w.heap.size, 0, none⟩ = some (.slice A n c) ∧ W.cell? ⟨w2.heap.size, 0, none⟩ = some (.slice PA fs0.length pc)) (by kernel_rfl) ⟨kp0, kr0⟩ (fun hHeld => ?_)
      refine wpAnyH_take (i := 0) (v := ?_) rfl (by kernel_rfl) (by kernel_rfl) (by kernel_rfl) (fun _ _ _ h => h) (Or.inl ⟨by rfl, ?_⟩) (by assumption) ?_
      rotate_left
      · intro w hSw; (try dsimp only at hSw); go_simp; try with_reducible rfl
      simp only [Act.put, List.getElem_toArray, List.getElem_cons_zero, List.getElem_cons_succ, List.setIfInBounds_toArray, List.set_cons_zero, List.set_cons_succ]
      refine wpAnyH_take (i := 1) (v := ?_) rfl (by kernel_rfl) (by kernel_rfl) (by kernel_rfl) (fun _ _ _ h => h) (Or.inl ⟨by rfl, ?_⟩) (by assumption) ?_
      rotate_left
      · intro w hSw; (try dsimp only at hSw); go_simp; try with_reducible rfl
      simp only [Act.put, List.getElem_toArray, List.getElem_cons_zero, List.getElem_cons_succ, List.setIfInBounds_toArray, List.set_cons_zero, List.set_cons_succ]
      refine wpAnyH_ready (rs := [2]) (by kernel_rfl) (by simp) ?_
      refine AllReadyH.cons rfl (fun K hK => ?_) AllReadyH.nil
      go_simp
      refine (refsame_any _ _ fs0 fs0 w5.drew w5.heap.size (Nat.le_refl _) (show FuncsAt w5.drew _ _ _ from Hp5.out) (show FuncsAt w5.drew _ _ _ from Hwas5.out)).mono ?_
      rintro e w6 ⟨rfl, hb6⟩
      rw [(eqP_iff fs0 fs0).2 rfl]
      have hb6' : Below w5.heap.size w5 w6 := ⟨hb6.os, hb6.tape, hb6.output, hb6.size, hb6.block⟩
      have hs6 := hb6'.size
      refine hK.out _ _ ⟨(HP5.out.below hb6' hsP).cell 0, (HU5.out.below hb6' hsU).cell 0⟩ (fun hHeld2 => ?_)
      have Hb6' := Lib.hid hb6'
      clear hb6'
      clear hK K hHeld hb6
      try simp only [Act.put, List.getElem_toArray, List.getElem_cons_zero, List.getElem_cons_succ, List.setIfInBounds_toArray, List.set_cons_zero, List.set_cons_succ]
      refine wpAnyH_take (i := 3) (v := ?_) rfl (by kernel_rfl) (by kernel_rfl) (by kernel_rfl) (fun _ _ _ h => h) (Or.inl ⟨by rfl, ?_⟩) (by assumption) ?_
      rotate_left
      · intro w hSw; (try dsimp only at hSw); go_simp; try with_reducible rfl
      simp only [Act.put, List.getElem_toArray, List.getElem_cons_zero, List.getElem_cons_succ, List.setIfInBounds_toArray, List.set_cons_zero, List.set_cons_succ]
      refine wpAnyH_take (i := 4) (v := ?_) rfl (by kernel_rfl) (by kernel_rfl) (by kernel_rfl) (fun _ _ _ h => h) (Or.inl ⟨by rfl, ?_⟩) (by assumption) ?_
      rotate_left
      · intro w hSw; (try dsimp only at hSw); go_simp; try with_reducible rfl
      simp only [Act.put, List.getElem_toArray, List.getElem_cons_zero, List.getElem_cons_succ, List.setIfInBounds_toArray, List.set_cons_zero, List.set_cons_succ]
      refine wpAnyH_take (i := 5) (v := ?_) rfl (by kernel_rfl) (by kernel_rfl) (by kernel_rfl) (fun _ _ _ h => h) (Or.inl ⟨by rfl, ?_⟩) (by assumption) ?_
      rotate_left
      · intro w hSw; (try dsimp only at hSw); go_simp; try with_reducible rfl
      simp only [Act.put, List.getElem_toArray, List.getElem_cons_zero, List.getElem_cons_succ, List.setIfInBounds_toArray, List.set_cons_zero, List.set_cons_succ]
      refine wpAnyH_take (i := 7) (v := ?_) rfl (by kernel_rfl) (by kernel_rfl) (by kernel_rfl) (fun _ _ _ h => h) (Or.inl ⟨by rfl, ?_⟩) (by assumption) ?_
      rotate_left
      · intro w hSw; (try dsimp only at hSw); go_simp; try with_reducible rfl
      simp only [Act.put, List.getElem_toArray, List.getElem_cons_zero, List.getElem_cons_succ, List.setIfInBounds_toArray, List.set_cons_zero, List.set_cons_succ]
      refine wpAnyH_ready (rs := [6]) (by kernel_rfl) (by simp) ?_
      refine AllReadyH.cons rfl (fun K hK => ?_) AllReadyH.nil
      go_simp
      refine (bounded_any _ fs0 w6 w5.heap.size (Hp5.out.below Hb6'.out) (by omega)).mono ?_
      rintro e w7 ⟨rfl, hb7⟩
      rw [Hbb.out]
      have hb7' : Below w5.heap.size w5 w7 := Hb6'.out.trans (hb7.mono hs6)
      have hs7 := hb7'.size
      refine hK.out _ _ ⟨(HP5.out.below hb7' hsP).cell 0, (HU5.out.below hb7' hsU).cell 0⟩ (fun hHeld3 => ?_)
      have Hb7' := Lib.hid hb7'
      clear hb7'
      clear hK K hHeld2 hb7 Hb6' hs6
      try simp only [Act.put, List.getElem_toArray, List.getElem_cons_zero, List.getElem_cons_succ, List.setIfInBounds_toArray, List.set_cons_zero, List.set_cons_succ]
      refine wpAnyH_ready (rs := [8]) (by kernel_rfl) (by simp) ?_
      refine AllReadyH.cons rfl (fun K hK => ?_) AllReadyH.nil
      go_simp
      refine (refbounded_any _ fs0 w7 w5.heap.size (Hwas5.out.below Hb7'.out) (by omega)).mono ?_
      rintro e w8 ⟨rfl, hb8⟩
      rw [Hbb.out]
      have hb8' : Below w5.heap.size w5 w8 := Hb7'.out.trans (hb8.mono hs7)
      have hs8 := hb8'.size
      refine hK.out _ _ ⟨(HP5.out.below hb8' hsP).cell 0, (HU5.out.below hb8' hsU).cell 0⟩ (fun hHeld4 => ?_)
      clear hK K hHeld3 hb8 Hb7' hs7
      try simp only [Act.put, List.getElem_toArray, List.getElem_cons_zero, List.getElem_cons_succ, List.setIfInBounds_toArray, List.set_cons_zero, List.set_cons_succ]
      refine wpAnyH_take (i := 9) (v := ?_) rfl (by kernel_rfl) (by kernel_rfl) (by kernel_rfl) (fun _ _ _ h => h) (Or.inl ⟨by rfl, ?_⟩) (by assumption) ?_
      rotate_left
      · intro w hSw; (try dsimp only at hSw); go_simp; try with_reducible rfl
      simp only [Act.put, List.getElem_toArray, List.getElem_cons_zero, List.getElem_cons_succ, List.setIfInBounds_toArray, List.set_cons_zero, List.set_cons_succ]
      refine wpAnyH_take (i := 10) (v := ?_) rfl (by kernel_rfl) (by kernel_rfl) (by kernel_rfl) (fun _ _ _ h => h) (Or.inl ⟨by rfl, ?_⟩) (by assumption) ?_
      rotate_left
      · intro w hSw; (try dsimp only at hSw); go_simp; try with_reducible rfl
      simp only [Act.put, List.getElem_toArray, List.getElem_cons_zero, List.getElem_cons_succ, List.setIfInBounds_toArray, List.set_cons_zero, List.set_cons_succ]
      refine wpAnyH_done (by kernel_rfl) ?_ _
      refine NoPanic.normal ?_
      have hU8 := HU5.out.below hb8' hsU
      have hbw8 := Hbw5.out.trans (hb8'.mono (by omega))
      have hwas8 := (Hwas5.out.below hb8').more (B' := w8.heap.size) hs8
      clear kp0 kr0 hHeld4
      have Hbw8 := Lib.hid hbw8
      clear hbw8
      clear hb8' hU8 hwas8
      go_wp2_with fail
      go_ret
      exact ⟨rfl, Hbw8.out⟩
end Go.Proofs.Ytcaefdfdngecdaa
