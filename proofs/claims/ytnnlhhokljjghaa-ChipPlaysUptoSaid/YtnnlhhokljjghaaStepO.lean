/- A step of a nil machine, or of one whose place is outside the code; Enter. Conditions: machine and code lie in memory. -/
import Derived.Test.YtnnlhhokljjghaaChip5
set_option linter.unusedVariables false
set_option linter.unusedSimpArgs false
namespace Go.Proofs.Ytnnlhhokljjghaa
open Go.RowKit

theorem below_five {w w' : World} {B g : Nat} (h : Below B w w') (hg : B ≤ g) (v0 v1 v2 v3 v4 : Value) :
    Below B w (((((w'.setCell ⟨g, 0, none⟩ v0).setCell ⟨g, 1, none⟩ v1).setCell ⟨g, 2, none⟩ v2).setCell ⟨g, 3, none⟩ v3).setCell ⟨g, 4, none⟩ v4) :=
  ((((h.setCell (p := ⟨g, 0, none⟩) hg v0).setCell (p := ⟨g, 1, none⟩) hg v1).setCell (p := ⟨g, 2, none⟩) hg v2).setCell (p := ⟨g, 3, none⟩) hg v3).setCell (p := ⟨g, 4, none⟩) hg v4

set_option maxRecDepth 100000 in
set_option maxHeartbeats 4000000 in
theorem step_nil (w : World) :
    Calls Try.prog 16 #[.pointer none] w fun e w' => e = .returned (.agg #[.int .i64 3, .int .i64 0, .int .i64 0, .int .i64 0, .int .i64 0]) ∧ Below w.heap.size w w' := by
  go_enter Try.func16, Try.ntmps16
  go_upto_region 2 with fail
  have hR1 := Blk.new w 47 #[.int .i64 0, .int .i64 0, .int .i64 0, .int .i64 0, .int .i64 0]
  have hR := hR1.alloc (.cells #[.int .i64 3, .int .i64 0, .int .i64 0, .int .i64 0, .int .i64 0] 47)
  have hS := Blk.new (w.alloc (.cells #[.int .i64 0, .int .i64 0, .int .i64 0, .int .i64 0, .int .i64 0] 47)) 47 #[.int .i64 3, .int .i64 0, .int .i64 0, .int .i64 0, .int .i64 0]
  have hW := ((Below.refl w.heap.size w).alloc (Nat.le_refl _) (.cells #[.int .i64 0, .int .i64 0, .int .i64 0, .int .i64 0, .int .i64 0] 47)).alloc (by simp) (.cells #[.int .i64 3, .int .i64 0, .int .i64 0, .int .i64 0, .int .i64 0] 47)
  rw [World.size_alloc] at hS
  obtain ⟨W, hWe⟩ : ∃ W, W = (w.alloc (.cells #[.int .i64 0, .int .i64 0, .int .i64 0, .int .i64 0, .int .i64 0] 47)).alloc (.cells #[.int .i64 3, .int .i64 0, .int .i64 0, .int .i64 0, .int .i64 0] 47) := ⟨_, rfl⟩
  obtain ⟨R, hRe⟩ : ∃ R, R = w.heap.size := ⟨_, rfl⟩
  rw [← hWe] at hR hS hW ⊢
  rw [← hRe] at hR hS ⊢
  have HWe := Lib.hid hWe
  have HRe := Lib.hid hRe
  have HR := Lib.hid hR
  have HS := Lib.hid hS
  have HW := Lib.hid hW
  have HR1 := Lib.hid hR1
  clear hR1 hW hS hR hRe hWe
  go_quiet (fail)
  have hR := HR.out.drewN nq
  have hS := HS.out.drewN nq
  have hWX := below_drewN HW.out nq
  obtain ⟨X, hX⟩ : ∃ X, X = W.drewN nq := ⟨_, rfl⟩
  rw [← hX] at hR hS hWX ⊢
  have ks0 := Blk.cell hS 0
  have ks1 := Blk.cell hS 1
  have ks2 := Blk.cell hS 2
  have ks3 := Blk.cell hS 3
  have ks4 := Blk.cell hS 4
  simp only [List.getElem?_toArray, List.getElem?_cons_zero, List.getElem?_cons_succ] at ks0 ks1 ks2 ks3 ks4
  have kr0 := Blk.cell hR 0
  have kr1 := Blk.cell hR 1
  have kr2 := Blk.cell hR 2
  have kr3 := Blk.cell hR 3
  have kr4 := Blk.cell hR 4
  simp only [List.getElem?_toArray, List.getElem?_cons_zero, List.getElem?_cons_succ] at kr0 kr1 kr2 kr3 kr4
  have gr0 := Blk.frozen hR 0
  have gr1 := Blk.frozen hR 1
  have gr2 := Blk.frozen hR 2
  have gr3 := Blk.frozen hR 3
  have gr4 := Blk.frozen hR 4
  have HX := Lib.hid hX
  have HR := Lib.hid hR
  have HS := Lib.hid hS
  have HWX := Lib.hid hWX
  clear hWX hS hR hX
  go_wp2_with fail
  refine bodyPost_ret (results_cell_row rfl _ _ R 47 _ (0, 0) _ rfl (five_set HR.out _ _ _ _ _) Try.underlying47 rfl (by kernel_rfl)) rfl ?_
  exact ⟨rfl, below_five HWX.out (Nat.le_of_eq HRe.out.symm) _ _ _ _ _⟩
set_option maxRecDepth 100000 in
set_option maxHeartbeats 4000000 in
theorem step_neg {w : World} {lo p c : Nat} {A : Option Addr} {sv : Value} {regs : List Int} {pc base : Int} {ws : List Int} {l : List MInstD} (h : ChipAt w lo p (.slice A l.length c) sv regs pc base ws) (hpc : pc < 0) :
    Calls Try.prog 16 #[.pointer (some ⟨p, 0, none⟩)] w fun e w' => StepTo w lo p (.slice A l.length c) sv base 3 0 0 0 0 regs pc ws e w' := by
  obtain ⟨n, hn⟩ : ∃ n, l.length = n := ⟨_, rfl⟩
  rw [hn] at h ⊢
  have H := Lib.hid h
  have Hn := Lib.hid hn
  clear hn h
  go_enter Try.func16, Try.ntmps16
  go_upto_region 2 with fail
  have hR1 := Blk.new w 47 #[.int .i64 0, .int .i64 0, .int .i64 0, .int .i64 0, .int .i64 0]
  have hR := hR1.alloc (.cells #[.int .i64 3, .int .i64 0, .int .i64 0, .int .i64 0, .int .i64 0] 47)
  have hS := Blk.new (w.alloc (.cells #[.int .i64 0, .int .i64 0, .int .i64 0, .int .i64 0, .int .i64 0] 47)) 47 #[.int .i64 3, .int .i64 0, .int .i64 0, .int .i64 0, .int .i64 0]
  have hW := ((Below.refl w.heap.size w).alloc (Nat.le_refl _) (.cells #[.int .i64 0, .int .i64 0, .int .i64 0, .int .i64 0, .int .i64 0] 47)).alloc (by simp) (.cells #[.int .i64 3, .int .i64 0, .int .i64 0, .int .i64 0, .int .i64 0] 47)
  rw [World.size_alloc] at hS
  obtain ⟨W, hWe⟩ : ∃ W, W = (w.alloc (.cells #[.int .i64 0, .int .i64 0, .int .i64 0, .int .i64 0, .int .i64 0] 47)).alloc (.cells #[.int .i64 3, .int .i64 0, .int .i64 0, .int .i64 0, .int .i64 0] 47) := ⟨_, rfl⟩
  obtain ⟨R, hRe⟩ : ∃ R, R = w.heap.size := ⟨_, rfl⟩
  rw [← hWe] at hR hS hW ⊢
  rw [← hRe] at hR hS ⊢
  have hC := H.out.below (hW)
  have hpR : p < R := by rw [hRe]; exact H.out.lt
  have kc := hC.code
  have kp := hC.pc_
  have HWe := Lib.hid hWe
  have HRe := Lib.hid hRe
  have HC := Lib.hid hC
  have HR := Lib.hid hR
  have HS := Lib.hid hS
  have HW := Lib.hid hW
  have HR1 := Lib.hid hR1
  clear hR1 hW hS hR hC hRe hWe
  go_quiet (fail)
  have hR := HR.out.drewN nq
  have hS := HS.out.drewN nq
  have hWX := below_drewN HW.out nq
  have hC := HC.out.drewN nq
  obtain ⟨X, hX⟩ : ∃ X, X = W.drewN nq := ⟨_, rfl⟩
  rw [← hX] at hR hS hWX hC ⊢
  clear kc kp
  have hKV : Keeps (fun i => i = p ∨ sv.ownBlock = some i) w X := Keeps.of_below hWX (Nat.le_refl _)
  have ks0 := Blk.cell hS 0
  have ks1 := Blk.cell hS 1
  have ks2 := Blk.cell hS 2
  have ks3 := Blk.cell hS 3
  have ks4 := Blk.cell hS 4
  simp only [List.getElem?_toArray, List.getElem?_cons_zero, List.getElem?_cons_succ] at ks0 ks1 ks2 ks3 ks4
  have kr0 := Blk.cell hR 0
  have kr1 := Blk.cell hR 1
  have kr2 := Blk.cell hR 2
  have kr3 := Blk.cell hR 3
  have kr4 := Blk.cell hR 4
  simp only [List.getElem?_toArray, List.getElem?_cons_zero, List.getElem?_cons_succ] at kr0 kr1 kr2 kr3 kr4
  have gr0 := Blk.frozen hR 0
  have gr1 := Blk.frozen hR 1
  have gr2 := Blk.frozen hR 2
  have gr3 := Blk.frozen hR 3
  have gr4 := Blk.frozen hR 4
  have HX := Lib.hid hX
  have HR := Lib.hid hR
  have HS := Lib.hid hS
  have HWX := Lib.hid hWX
  have HCX := Lib.hid hC
  have HKV := Lib.hid hKV
  clear hKV hC hWX hS hR hX
  go_wp2_with fail
  obtain ⟨r1, r2, r3⟩ := end_laid HCX.out HR.out hpR HKV.out (Nat.le_of_eq HRe.out.symm) (.int .i64 3) (.int .i64 0) (.int .i64 0) (.int .i64 0) (.int .i64 0)
  refine bodyPost_ret (results_cell_row rfl _ _ R 47 _ (0, 0) _ rfl r1 Try.underlying47 rfl (by kernel_rfl)) rfl ?_
  exact ⟨rfl, r2, r3⟩
set_option maxRecDepth 100000 in
set_option maxHeartbeats 4000000 in
theorem step_end {w : World} {lo p c : Nat} {A : Option Addr} {sv : Value} {regs : List Int} {pc base : Int} {ws : List Int} {l : List MInstD} (h : ChipAt w lo p (.slice A l.length c) sv regs pc base ws) (hpn : ¬ pc < 0) (hpc : (l.length : Int) ≤ pc) :
    Calls Try.prog 16 #[.pointer (some ⟨p, 0, none⟩)] w fun e w' => StepTo w lo p (.slice A l.length c) sv base 3 0 0 0 0 regs pc ws e w' := by
  obtain ⟨n, hn⟩ : ∃ n, l.length = n := ⟨_, rfl⟩
  rw [hn] at h hpc ⊢
  have H := Lib.hid h
  have Hn := Lib.hid hn
  clear hn h
  go_enter Try.func16, Try.ntmps16
  go_upto_region 2 with fail
  have hR1 := Blk.new w 47 #[.int .i64 0, .int .i64 0, .int .i64 0, .int .i64 0, .int .i64 0]
  have hR := hR1.alloc (.cells #[.int .i64 3, .int .i64 0, .int .i64 0, .int .i64 0, .int .i64 0] 47)
  have hS := Blk.new (w.alloc (.cells #[.int .i64 0, .int .i64 0, .int .i64 0, .int .i64 0, .int .i64 0] 47)) 47 #[.int .i64 3, .int .i64 0, .int .i64 0, .int .i64 0, .int .i64 0]
  have hW := ((Below.refl w.heap.size w).alloc (Nat.le_refl _) (.cells #[.int .i64 0, .int .i64 0, .int .i64 0, .int .i64 0, .int .i64 0] 47)).alloc (by simp) (.cells #[.int .i64 3, .int .i64 0, .int .i64 0, .int .i64 0, .int .i64 0] 47)
  rw [World.size_alloc] at hS
  obtain ⟨W, hWe⟩ : ∃ W, W = (w.alloc (.cells #[.int .i64 0, .int .i64 0, .int .i64 0, .int .i64 0, .int .i64 0] 47)).alloc (.cells #[.int .i64 3, .int .i64 0, .int .i64 0, .int .i64 0, .int .i64 0] 47) := ⟨_, rfl⟩
  obtain ⟨R, hRe⟩ : ∃ R, R = w.heap.size := ⟨_, rfl⟩
  rw [← hWe] at hR hS hW ⊢
  rw [← hRe] at hR hS ⊢
  have hC := H.out.below (hW)
  have hpR : p < R := by rw [hRe]; exact H.out.lt
  have kc := hC.code
  have kp := hC.pc_
  have HWe := Lib.hid hWe
  have HRe := Lib.hid hRe
  have HC := Lib.hid hC
  have HR := Lib.hid hR
  have HS := Lib.hid hS
  have HW := Lib.hid hW
  have HR1 := Lib.hid hR1
  clear hR1 hW hS hR hC hRe hWe
  go_quiet (fail)
  have hR := HR.out.drewN nq
  have hS := HS.out.drewN nq
  have hWX := below_drewN HW.out nq
  have hC := HC.out.drewN nq
  obtain ⟨X, hX⟩ : ∃ X, X = W.drewN nq := ⟨_, rfl⟩
  rw [← hX] at hR hS hWX hC ⊢
  clear kc kp
  have hKV : Keeps (fun i => i = p ∨ sv.ownBlock = some i) w X := Keeps.of_below hWX (Nat.le_refl _)
  have ks0 := Blk.cell hS 0
  have ks1 := Blk.cell hS 1
  have ks2 := Blk.cell hS 2
  have ks3 := Blk.cell hS 3
  have ks4 := Blk.cell hS 4
  simp only [List.getElem?_toArray, List.getElem?_cons_zero, List.getElem?_cons_succ] at ks0 ks1 ks2 ks3 ks4
  have kr0 := Blk.cell hR 0
  have kr1 := Blk.cell hR 1
  have kr2 := Blk.cell hR 2
  have kr3 := Blk.cell hR 3
  have kr4 := Blk.cell hR 4
  simp only [List.getElem?_toArray, List.getElem?_cons_zero, List.getElem?_cons_succ] at kr0 kr1 kr2 kr3 kr4
  have gr0 := Blk.frozen hR 0
  have gr1 := Blk.frozen hR 1
  have gr2 := Blk.frozen hR 2
  have gr3 := Blk.frozen hR 3
  have gr4 := Blk.frozen hR 4
  have HX := Lib.hid hX
  have HR := Lib.hid hR
  have HS := Lib.hid hS
  have HWX := Lib.hid hWX
  have HCX := Lib.hid hC
  have HKV := Lib.hid hKV
  clear hKV hC hWX hS hR hX
  go_wp2_with fail
  obtain ⟨r1, r2, r3⟩ := end_laid HCX.out HR.out hpR HKV.out (Nat.le_of_eq HRe.out.symm) (.int .i64 3) (.int .i64 0) (.int .i64 0) (.int .i64 0) (.int .i64 0)
  refine bodyPost_ret (results_cell_row rfl _ _ R 47 _ (0, 0) _ rfl r1 Try.underlying47 rfl (by kernel_rfl)) rfl ?_
  exact ⟨rfl, r2, r3⟩
theorem step_out {w : World} {lo p c : Nat} {A : Option Addr} {sv : Value} {regs : List Int} {pc base : Int} {ws : List Int} {l : List MInstD} (h : ChipAt w lo p (.slice A l.length c) sv regs pc base ws) (hpc : pc < 0 ∨ (l.length : Int) ≤ pc) :
    Calls Try.prog 16 #[.pointer (some ⟨p, 0, none⟩)] w fun e w' => StepTo w lo p (.slice A l.length c) sv base 3 0 0 0 0 regs pc ws e w' := by
  by_cases hn : pc < 0
  · exact step_neg h hn
  · exact step_end h hn (by omega)
end Go.Proofs.Ytnnlhhokljjghaa
