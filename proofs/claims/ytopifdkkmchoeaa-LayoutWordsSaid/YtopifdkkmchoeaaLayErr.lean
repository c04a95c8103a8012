/- Walk of layout.Layout where it says no. Conditions: the graphs lie in memory. -/
import Derived.Test.YtopifdkkmchoeaaLayMain
set_option linter.unusedVariables false
set_option linter.unusedSimpArgs false
namespace Go.Proofs.Ytopifdkkmchoeaa
open Go.RowKit

def noLay : Value := .agg #[.int .i64 0, .slice none 0 0, .slice none 0 0, .slice none 0 0, .int .i64 0]
set_option maxRecDepth 100000 in
set_option maxHeartbeats 2000000 in
theorem layout_no (w : World) (B : Nat) (gv : Value) (gs : List GraphD) (f z : Int) (hg : GraphsAt w B gv gs) (hB : B ≤ w.heap.size) (hok : GraphsOk gs) (hz : checkB gs true = false ∧ z = 70 ∨ checkB gs true = true ∧ (f < 0 ∨ (gs.length : Int) ≤ f) ∧ z = 2) :
    Calls Try.prog 9 #[.agg #[gv], .int .i64 f] w fun e w' => e = .returned (.tuple #[noLay, .int .i64 z]) ∧ Below w.heap.size w w' := by
  obtain ⟨GA, gc, rfl, hgc1, hgc2⟩ := hg.slice
  obtain ⟨gn, hgn⟩ : ∃ gn, gs.length = gn := ⟨_, rfl⟩
  rw [hgn] at hg hgc1 hz ⊢
  unfold maxLen at hgc2
  obtain ⟨Gs, hGs⟩ : ∃ Gs, Gs = w.heap.size := ⟨_, rfl⟩
  obtain ⟨R, hR⟩ : ∃ R, R = w.heap.size + 1 := ⟨_, rfl⟩
  have hP := (Blk.new w 33 #[.slice GA gn gc]).alloc (.cells #[.int .i64 0, .slice none 0 0, .slice none 0 0, .slice none 0 0, .int .i64 0] 36)
  have hQ := Blk.new2 w (.cells #[.slice GA gn gc] 33) 36 #[.int .i64 0, .slice none 0 0, .slice none 0 0, .slice none 0 0, .int .i64 0]
  have hb := ((Below.refl w.heap.size w).alloc (Nat.le_refl _) (.cells #[.slice GA gn gc] 33)).alloc (by simp) (.cells #[.int .i64 0, .slice none 0 0, .slice none 0 0, .slice none 0 0, .int .i64 0] 36)
  obtain ⟨V, hV⟩ : ∃ V, V = (w.alloc (.cells #[.slice GA gn gc] 33)).alloc (.cells #[.int .i64 0, .slice none 0 0, .slice none 0 0, .slice none 0 0, .int .i64 0] 36) := ⟨_, rfl⟩
  rw [← hV] at hb hP hQ
  rw [← hGs] at hP
  rw [← hR] at hQ
  have hA := hg.below (hb.mono hB)
  obtain ⟨r, hr⟩ : ∃ r, checkB gs true = r := ⟨_, rfl⟩
  have hchk := check_any hA (Nat.le_trans hB hb.size) hok true
  rw [hr] at hchk hz
  have hPl := hP.lt
  have hQl := hQ.lt
  have hzV := hb.size
  have hRw : w.heap.size ≤ R := by omega
  have Hb := Lib.hid hb
  have HP := Lib.hid hP
  have HQ := Lib.hid hQ
  have HV := Lib.hid hV
  have HGGs := Lib.hid hGs
  have HHR := Lib.hid hR
  have HA := Lib.hid hA
  have Hg := Lib.hid hg
  have Hchk := Lib.hid hchk
  have Hok := Lib.hid hok
  have Hgn := Lib.hid hgn
  have HB := Lib.hid hB
  have Hr := Lib.hid hr
  clear hr hB hgn hok hchk hg hA hR hGs hV hQ hP hb
  rcases hz with ⟨rfl, rfl⟩ | ⟨rfl, hf, rfl⟩
  · go_enter Try.func9, Try.ntmps9
    go_upto_region 1 with fail
    rw [← HV.out, ← HHR.out, ← HGGs.out]
    have kp0 := Blk.cell HP.out 0
    simp only [List.getElem?_toArray, List.getElem?_cons_zero, List.getElem?_cons_succ] at kp0
    go_wp2_with fail
    refine Hchk.out.mono ?_
    rintro e w2 ⟨rfl, hb2⟩
    have hbw2 := Hb.out.trans (hb2.mono hzV)
    have hQ2 := HQ.out.below hb2 hQl
    have hR9 := five_blk hQ2 (.int .i64 0) (.slice none 0 0) (.slice none 0 0) (.slice none 0 0) (.int .i64 0)
    have hb9 := five_below hbw2 hRw (.int .i64 0) (.slice none 0 0) (.slice none 0 0) (.slice none 0 0) (.int .i64 0)
    have kr0 := Blk.cell hQ2 0
    have kr1 := Blk.cell hQ2 1
    have kr2 := Blk.cell hQ2 2
    have kr3 := Blk.cell hQ2 3
    have kr4 := Blk.cell hQ2 4
    simp only [List.getElem?_toArray, List.getElem?_cons_zero, List.getElem?_cons_succ] at kr0 kr1 kr2 kr3 kr4
    have fr0 := Blk.frozen hQ2 0
    have fr1 := Blk.frozen hQ2 1
    have fr2 := Blk.frozen hQ2 2
    have fr3 := Blk.frozen hQ2 3
    have fr4 := Blk.frozen hQ2 4
    have Hb2 := Lib.hid hb2
    have Hbw2 := Lib.hid hbw2
    have HQ2 := Lib.hid hQ2
    have HR9 := Lib.hid hR9
    have Hb9 := Lib.hid hb9
    clear hb9 hR9 hQ2 hbw2 hb2
    clear kp0
    go_wp2_with fail
    refine bodyPost_ret (results_row_tmpL rfl _ _ R 36 _ (0, 0) _ rfl HR9.out Try.underlying36 (by kernel_rfl)) rfl ?_
    exact ⟨rfl, Hb9.out⟩
  · have hcase : f < 0 ∨ ¬ f < 0 ∧ (gn : Int) ≤ f := by omega
    clear hf
    go_enter Try.func9, Try.ntmps9
    go_upto_region 1 with fail
    rw [← HV.out, ← HHR.out, ← HGGs.out]
    have kp0 := Blk.cell HP.out 0
    simp only [List.getElem?_toArray, List.getElem?_cons_zero, List.getElem?_cons_succ] at kp0
    go_wp2_with fail
    refine Hchk.out.mono ?_
    rintro e w2 ⟨rfl, hb2⟩
    have hbw2 := Hb.out.trans (hb2.mono hzV)
    have hQ2 := HQ.out.below hb2 hQl
    have hP2 := HP.out.below hb2 hPl
    have hR9 := five_blk hQ2 (.int .i64 0) (.slice none 0 0) (.slice none 0 0) (.slice none 0 0) (.int .i64 0)
    have hb9 := five_below hbw2 hRw (.int .i64 0) (.slice none 0 0) (.slice none 0 0) (.slice none 0 0) (.int .i64 0)
    clear kp0
    have kp0 := Blk.cell hP2 0
    simp only [List.getElem?_toArray, List.getElem?_cons_zero, List.getElem?_cons_succ] at kp0
    have kr0 := Blk.cell hQ2 0
    have kr1 := Blk.cell hQ2 1
    have kr2 := Blk.cell hQ2 2
    have kr3 := Blk.cell hQ2 3
    have kr4 := Blk.cell hQ2 4
    simp only [List.getElem?_toArray, List.getElem?_cons_zero, List.getElem?_cons_succ] at kr0 kr1 kr2 kr3 kr4
    have fr0 := Blk.frozen hQ2 0
    have fr1 := Blk.frozen hQ2 1
    have fr2 := Blk.frozen hQ2 2
    have fr3 := Blk.frozen hQ2 3
    have fr4 := Blk.frozen hQ2 4
    have Hb2 := Lib.hid hb2
    have Hbw2 := Lib.hid hbw2
    have HQ2 := Lib.hid hQ2
    have HR9 := Lib.hid hR9
    have Hb9 := Lib.hid hb9
    have HP2 := Lib.hid hP2
    clear hP2 hb9 hR9 hQ2 hbw2 hb2
    rcases hcase with x1 | ⟨x1, x2⟩
    all_goals
      go_wp2_with fail
      refine bodyPost_ret (results_row_tmpL rfl _ _ R 36 _ (0, 0) _ rfl HR9.out Try.underlying36 (by kernel_rfl)) rfl ?_
      exact ⟨rfl, Hb9.out⟩
end Go.Proofs.Ytopifdkkmchoeaa
