/- The document's Step, operation by operation (printed by gen_rstep.py). Conditions: machine and code lie in memory. -/
import Derived.Test.YtnnlhhokljjghaaRefC2
set_option linter.unusedVariables false
set_option linter.unusedSimpArgs false
namespace Go.Proofs.Ytnnlhhokljjghaa
open Go.RowKit

/-- what a step of the document's machine answers and changes -/
def RStepTo (w : World) (lo q rg wg : Nat) (cv : Value) (base : Int) (kind d a b imm : Int) (regs : List Int) (pc : Int) (ws : List Int) (e : Ending) (w' : World) : Prop :=
  e = .returned (.agg #[.int .i64 kind, .int .i64 d, .int .i64 a, .int .i64 b, .int .i64 imm]) ∧ RefAt w' lo q rg wg cv regs pc base ws ∧ Keeps (RefS q rg wg) w w'
theorem rend_laid {w V : World} {lo q rg wg R : Nat} {cv : Value} {regs : List Int} {pc base : Int} {ws : List Int} {a b c d e : Value} (hC : RefAt V lo q rg wg cv regs pc base ws) (hR : Blk V R 47 #[a, b, c, d, e]) (hp : q < R ∧ rg < R ∧ wg < R)
    (hK : Keeps (RefS q rg wg) w V) (hw : w.heap.size ≤ R) (v0 v1 v2 v3 v4 : Value) :
    Blk (((((V.setCell ⟨R, 0, none⟩ v0).setCell ⟨R, 1, none⟩ v1).setCell ⟨R, 2, none⟩ v2).setCell ⟨R, 3, none⟩ v3).setCell ⟨R, 4, none⟩ v4) R 47 #[v0, v1, v2, v3, v4] ∧
    RefAt (((((V.setCell ⟨R, 0, none⟩ v0).setCell ⟨R, 1, none⟩ v1).setCell ⟨R, 2, none⟩ v2).setCell ⟨R, 3, none⟩ v3).setCell ⟨R, 4, none⟩ v4) lo q rg wg cv regs pc base ws ∧
    Keeps (RefS q rg wg) w (((((V.setCell ⟨R, 0, none⟩ v0).setCell ⟨R, 1, none⟩ v1).setCell ⟨R, 2, none⟩ v2).setCell ⟨R, 3, none⟩ v3).setCell ⟨R, 4, none⟩ v4) :=
  ⟨five_set hR .., hC.keep (S := fun i => i = R) (keeps_five (S := fun i => i = R) (Keeps.refl (fun i => i = R) V) (Or.inl (Eq.refl R)) ..) (fun e => by omega) (fun e => by omega) (fun e => by omega), keeps_five hK (.inr hw) ..⟩
theorem rend_pc {w V : World} {lo q rg wg R : Nat} {cv : Value} {regs : List Int} {pc pc' base : Int} {ws : List Int} {cs : Array Value} (hC : RefAt V lo q rg wg cv regs pc base ws) (hR : Blk V R 47 cs) (hp : q < R ∧ rg < R ∧ wg < R)
    (hK : Keeps (RefS q rg wg) w V) (hpc : -9223372036854775808 ≤ pc' ∧ pc' ≤ 9223372036854775807) :
    Blk (V.setCell ⟨q, 2, none⟩ (.int .i64 pc')) R 47 cs ∧ RefAt (V.setCell ⟨q, 2, none⟩ (.int .i64 pc')) lo q rg wg cv regs pc' base ws ∧ Keeps (RefS q rg wg) w (V.setCell ⟨q, 2, none⟩ (.int .i64 pc')) :=
  ⟨hR.far (p := ⟨q, 2, none⟩) (by show R ≠ q; omega) _, hC.setPc hpc, hK.setCell (p := ⟨q, 2, none⟩) (.inl (.inl rfl)) _⟩
set_option maxRecDepth 100000 in
set_option maxHeartbeats 4000000 in
theorem rstep_neg {w : World} {lo q rg wg c : Nat} {A : Option Addr} {regs : List Int} {pc base : Int} {ws : List Int} {l : List MInstD} (h : RefAt w lo q rg wg (.slice A l.length c) regs pc base ws) (hpc : pc < 0) :
    Calls Try.prog 38 #[.pointer (some ⟨q, 0, none⟩)] w fun e w' => RStepTo w lo q rg wg (.slice A l.length c) base 3 0 0 0 0 regs pc ws e w' := by
  obtain ⟨n, hn⟩ : ∃ n, l.length = n := ⟨_, rfl⟩
  rw [hn] at h ⊢
  have H := Lib.hid h
  have Hn := Lib.hid hn
  clear hn h
  go_enter Try.func38, Try.ntmps38
  go_upto_region 2 with fail
  have hR1 := Blk.new w 47 #[.int .i64 0, .int .i64 0, .int .i64 0, .int .i64 0, .int .i64 0]
  have hR := hR1.alloc (.cells #[.int .i64 3, .int .i64 0, .int .i64 0, .int .i64 0, .int .i64 0] 47)
  have hS := Blk.new (w.alloc (.cells #[.int .i64 0, .int .i64 0, .int .i64 0, .int .i64 0, .int .i64 0] 47)) 47 #[.int .i64 3, .int .i64 0, .int .i64 0, .int .i64 0, .int .i64 0]
  have hW := ((Below.refl w.heap.size w).alloc (Nat.le_refl _) (.cells #[.int .i64 0, .int .i64 0, .int .i64 0, .int .i64 0, .int .i64 0] 47)).alloc (by simp) (.cells #[.int .i64 3, .int .i64 0, .int .i64 0, .int .i64 0, .int .i64 0] 47)
  rw [World.size_alloc] at hS
  obtain ⟨W, hWe⟩ : ∃ W, W = (w.alloc (.cells #[.int .i64 0, .int .i64 0, .int .i64 0, .int .i64 0, .int .i64 0] 47)).alloc (.cells #[.int .i64 3, .int .i64 0, .int .i64 0, .int .i64 0, .int .i64 0] 47) := ⟨_, rfl⟩
  obtain ⟨R, hRe⟩ : ∃ R, R = w.heap.size := ⟨_, rfl⟩
  rw [← hWe] at hR hS hW ⊢
  rw [← hRe] at hR hS ⊢
  have hC := H.out.below (hW)
  have hqR : q < R ∧ rg < R ∧ wg < R := by have h2 := H.out.blk.lt; have h3 := H.out.rblk.lt; have h4 := H.out.wblk.lt; omega
  have kc := hC.code
  have kp := hC.pc_
  have HWe := Lib.hid hWe
  have HRe := Lib.hid hRe
  have HC := Lib.hid hC
  have HR := Lib.hid hR
  have HS := Lib.hid hS
  have HW := Lib.hid hW
  have HR1 := Lib.hid hR1
  clear hR1 hW hS hR hC hRe hWe
  go_quiet (fail)
  have hR := HR.out.drewN nq
  have hS := HS.out.drewN nq
  have hWX := below_drewN HW.out nq
  have hC := HC.out.drewN nq
  obtain ⟨X, hX⟩ : ∃ X, X = W.drewN nq := ⟨_, rfl⟩
  rw [← hX] at hR hS hWX hC ⊢
  clear kc kp
  have hKV : Keeps (RefS q rg wg) w X := Keeps.of_below hWX (Nat.le_refl _)
  have ks0 := Blk.cell hS 0
  have ks1 := Blk.cell hS 1
  have ks2 := Blk.cell hS 2
  have ks3 := Blk.cell hS 3
  have ks4 := Blk.cell hS 4
  simp only [List.getElem?_toArray, List.getElem?_cons_zero, List.getElem?_cons_succ] at ks0 ks1 ks2 ks3 ks4
  have kt0 := Blk.cell hR 0
  have kt1 := Blk.cell hR 1
  have kt2 := Blk.cell hR 2
  have kt3 := Blk.cell hR 3
  have kt4 := Blk.cell hR 4
  simp only [List.getElem?_toArray, List.getElem?_cons_zero, List.getElem?_cons_succ] at kt0 kt1 kt2 kt3 kt4
  have gr0 := Blk.frozen hR 0
  have gr1 := Blk.frozen hR 1
  have gr2 := Blk.frozen hR 2
  have gr3 := Blk.frozen hR 3
  have gr4 := Blk.frozen hR 4
  have HX := Lib.hid hX
  have HR := Lib.hid hR
  have HS := Lib.hid hS
  have HWX := Lib.hid hWX
  have HCX := Lib.hid hC
  have HKV := Lib.hid hKV
  clear hKV hC hWX hS hR hX
  go_wp2_with fail
  obtain ⟨r1, r2, r3⟩ := rend_laid HCX.out HR.out hqR HKV.out (Nat.le_of_eq HRe.out.symm) (.int .i64 3) (.int .i64 0) (.int .i64 0) (.int .i64 0) (.int .i64 0)
  refine bodyPost_ret (results_cell_row rfl _ _ R 47 _ (0, 0) _ rfl r1 Try.underlying47 rfl (by kernel_rfl)) rfl ?_
  exact ⟨rfl, r2, r3⟩
set_option maxRecDepth 100000 in
set_option maxHeartbeats 4000000 in
theorem rstep_end {w : World} {lo q rg wg c : Nat} {A : Option Addr} {regs : List Int} {pc base : Int} {ws : List Int} {l : List MInstD} (h : RefAt w lo q rg wg (.slice A l.length c) regs pc base ws) (hpn : ¬ pc < 0) (hpc : (l.length : Int) ≤ pc) :
    Calls Try.prog 38 #[.pointer (some ⟨q, 0, none⟩)] w fun e w' => RStepTo w lo q rg wg (.slice A l.length c) base 3 0 0 0 0 regs pc ws e w' := by
  obtain ⟨n, hn⟩ : ∃ n, l.length = n := ⟨_, rfl⟩
  rw [hn] at h hpc ⊢
  have H := Lib.hid h
  have Hn := Lib.hid hn
  clear hn h
  go_enter Try.func38, Try.ntmps38
  go_upto_region 2 with fail
  have hR1 := Blk.new w 47 #[.int .i64 0, .int .i64 0, .int .i64 0, .int .i64 0, .int .i64 0]
  have hR := hR1.alloc (.cells #[.int .i64 3, .int .i64 0, .int .i64 0, .int .i64 0, .int .i64 0] 47)
  have hS := Blk.new (w.alloc (.cells #[.int .i64 0, .int .i64 0, .int .i64 0, .int .i64 0, .int .i64 0] 47)) 47 #[.int .i64 3, .int .i64 0, .int .i64 0, .int .i64 0, .int .i64 0]
  have hW := ((Below.refl w.heap.size w).alloc (Nat.le_refl _) (.cells #[.int .i64 0, .int .i64 0, .int .i64 0, .int .i64 0, .int .i64 0] 47)).alloc (by simp) (.cells #[.int .i64 3, .int .i64 0, .int .i64 0, .int .i64 0, .int .i64 0] 47)
  rw [World.size_alloc] at hS
  obtain ⟨W, hWe⟩ : ∃ W, W = (w.alloc (.cells #[.int .i64 0, .int .i64 0, .int .i64 0, .int .i64 0, .int .i64 0] 47)).alloc (.cells #[.int .i64 3, .int .i64 0, .int .i64 0, .int .i64 0, .int .i64 0] 47) := ⟨_, rfl⟩
  obtain ⟨R, hRe⟩ : ∃ R, R = w.heap.size := ⟨_, rfl⟩
  rw [← hWe] at hR hS hW ⊢
  rw [← hRe] at hR hS ⊢
  have hC := H.out.below (hW)
  have hqR : q < R ∧ rg < R ∧ wg < R := by have h2 := H.out.blk.lt; have h3 := H.out.rblk.lt; have h4 := H.out.wblk.lt; omega
  have kc := hC.code
  have kp := hC.pc_
  have HWe := Lib.hid hWe
  have HRe := Lib.hid hRe
  have HC := Lib.hid hC
  have HR := Lib.hid hR
  have HS := Lib.hid hS
  have HW := Lib.hid hW
  have HR1 := Lib.hid hR1
  clear hR1 hW hS hR hC hRe hWe
  go_quiet (fail)
  have hR := HR.out.drewN nq
  have hS := HS.out.drewN nq
  have hWX := below_drewN HW.out nq
  have hC := HC.out.drewN nq
  obtain ⟨X, hX⟩ : ∃ X, X = W.drewN nq := ⟨_, rfl⟩
  rw [← hX] at hR hS hWX hC ⊢
  clear kc kp
  have hKV : Keeps (RefS q rg wg) w X := Keeps.of_below hWX (Nat.le_refl _)
  have ks0 := Blk.cell hS 0
  have ks1 := Blk.cell hS 1
  have ks2 := Blk.cell hS 2
  have ks3 := Blk.cell hS 3
  have ks4 := Blk.cell hS 4
  simp only [List.getElem?_toArray, List.getElem?_cons_zero, List.getElem?_cons_succ] at ks0 ks1 ks2 ks3 ks4
  have kt0 := Blk.cell hR 0
  have kt1 := Blk.cell hR 1
  have kt2 := Blk.cell hR 2
  have kt3 := Blk.cell hR 3
  have kt4 := Blk.cell hR 4
  simp only [List.getElem?_toArray, List.getElem?_cons_zero, List.getElem?_cons_succ] at kt0 kt1 kt2 kt3 kt4
  have gr0 := Blk.frozen hR 0
  have gr1 := Blk.frozen hR 1
  have gr2 := Blk.frozen hR 2
  have gr3 := Blk.frozen hR 3
  have gr4 := Blk.frozen hR 4
  have HX := Lib.hid hX
  have HR := Lib.hid hR
  have HS := Lib.hid hS
  have HWX := Lib.hid hWX
  have HCX := Lib.hid hC
  have HKV := Lib.hid hKV
  clear hKV hC hWX hS hR hX
  go_wp2_with fail
  obtain ⟨r1, r2, r3⟩ := rend_laid HCX.out HR.out hqR HKV.out (Nat.le_of_eq HRe.out.symm) (.int .i64 3) (.int .i64 0) (.int .i64 0) (.int .i64 0) (.int .i64 0)
  refine bodyPost_ret (results_cell_row rfl _ _ R 47 _ (0, 0) _ rfl r1 Try.underlying47 rfl (by kernel_rfl)) rfl ?_
  exact ⟨rfl, r2, r3⟩
theorem rstep_out {w : World} {lo q rg wg c : Nat} {A : Option Addr} {regs : List Int} {pc base : Int} {ws : List Int} {l : List MInstD} (h : RefAt w lo q rg wg (.slice A l.length c) regs pc base ws) (hpc : pc < 0 ∨ (l.length : Int) ≤ pc) :
    Calls Try.prog 38 #[.pointer (some ⟨q, 0, none⟩)] w fun e w' => RStepTo w lo q rg wg (.slice A l.length c) base 3 0 0 0 0 regs pc ws e w' := by
  by_cases hn : pc < 0
  · exact rstep_neg h hn
  · exact rstep_end h hn (by omega)
end Go.Proofs.Ytnnlhhokljjghaa
