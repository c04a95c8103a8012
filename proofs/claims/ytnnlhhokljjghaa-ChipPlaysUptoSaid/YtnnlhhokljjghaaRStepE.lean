/- The document's Step, operation by operation (printed by gen_rstep.py). Conditions: machine and code lie in memory. -/
import Derived.Test.YtnnlhhokljjghaaRStepP
set_option linter.unusedVariables false
set_option linter.unusedSimpArgs false
namespace Go.Proofs.Ytnnlhhokljjghaa
open Go.RowKit

set_option maxRecDepth 100000 in
set_option maxHeartbeats 4000000 in
theorem rstep_ld_ok {w : World} {lo q rg wg B c : Nat} {A : Option Addr} {regs : List Int} {pc base : Int} {ws : List Int} {l : List MInstD} {k : Nat} {i : MInstD} (h : RefAt w lo q rg wg (.slice A l.length c) regs pc base ws) (hc : CodeM w B A c l) (hB : B ≤ lo) (hpc : pc = k) (hk : l[k]? = some i) (kk : Nat) (v : Int) (hv : ws[kk]? = some v) (hm : (regs.getD i.a.toNat 0 + i.imm) % 18446744073709551616 = base + 8 * kk) (ho : i.op = 4) :
    Calls Try.prog 38 #[.pointer (some ⟨q, 0, none⟩)] w fun e w' => RStepTo w lo q rg wg (.slice A l.length c) base 0 0 0 0 0 (regs.set i.d.toNat v) (k + 1) ws e w' := by
  have hkl : k < l.length := (List.getElem?_eq_some_iff.1 hk).1
  have hfit := hc.fit
  obtain ⟨ad, hA, hadB, _⟩ := hc.rd.2 (by omega)
  subst hA
  have hwf := hc.wf i (List.mem_of_getElem? hk)
  obtain ⟨⟨d0, d1⟩, ⟨a0, a1⟩, ⟨b0, b1⟩⟩ := good_regs (hc.good i (List.mem_of_getElem? hk))
  obtain ⟨op, d, a, b, imm⟩ := i
  simp only at d0 d1 a0 a1 b0 b1 ho ⊢
  subst ho
  obtain ⟨im0, im1⟩ := hwf.imm
  simp only at im0 im1
  obtain ⟨dn, rfl⟩ := Int.eq_ofNat_of_zero_le d0
  obtain ⟨an, rfl⟩ := Int.eq_ofNat_of_zero_le a0
  obtain ⟨bn, rfl⟩ := Int.eq_ofNat_of_zero_le b0
  obtain ⟨av, hav⟩ : ∃ av, regs[an]? = some av := ⟨_, List.getElem?_eq_getElem (by rw [h.len]; omega)⟩
  obtain ⟨dv, hdv⟩ : ∃ dv, regs[dn]? = some dv := ⟨_, List.getElem?_eq_getElem (by rw [h.len]; omega)⟩
  obtain ⟨sp, hsp⟩ : ∃ sp, regs[14]? = some sp := ⟨_, List.getElem?_eq_getElem (by rw [h.len]; omega)⟩
  obtain ⟨bv, hbv⟩ : ∃ bv, regs[bn]? = some bv := ⟨_, List.getElem?_eq_getElem (by rw [h.len]; omega)⟩
  obtain ⟨hga, hgd, hgb, hgs⟩ : regs.getD an 0 = av ∧ regs.getD dn 0 = dv ∧ regs.getD bn 0 = bv ∧ regs.getD 14 0 = sp := by
    refine ⟨?_, ?_, ?_, ?_⟩ <;> rw [List.getD_eq_getElem?_getD] <;> simp only [hav, hdv, hbv, hsp, Option.getD_some]
  have uav := h.u64 _ (List.mem_of_getElem? hav)
  have udv := h.u64 _ (List.mem_of_getElem? hdv)
  have ubv := h.u64 _ (List.mem_of_getElem? hbv)
  have usp := h.u64 _ (List.mem_of_getElem? hsp)
  subst hpc
  try simp only [Int.toNat_natCast, hga, hgd, hgb, hgs]
  have hml := h.fit
  simp only [Int.toNat_natCast, hga] at hm
  have hkl2 : kk < ws.length := (List.getElem?_eq_some_iff.1 hv).1
  have Hm := Lib.hid hm
  have Hv := Lib.hid hv
  clear hv hm
  have n0 : ¬ ((k : Int) < 0) := by omega
  obtain ⟨n, hn⟩ : ∃ n, l.length = n := ⟨_, rfl⟩
  have hkn : k < n := by omega
  have hfn : n ≤ 10000000000 := by omega
  have n1 : ¬ ((n : Int) ≤ k) := by omega
  rw [hn] at h ⊢
  obtain ⟨regsX, hrx⟩ : ∃ regsX, regsX = regs.set dn v := ⟨_, rfl⟩
  rw [← hrx]
  have hdb : (dn : Int) < 16 := by omega
  have hab : (an : Int) < 16 := by omega
  have hbb : (bn : Int) < 16 := by omega
  have H := Lib.hid h
  have Hc := Lib.hid hc
  have Hk := Lib.hid hk
  have Hwf := Lib.hid hwf
  have Hml := Lib.hid hml
  have Hga := Lib.hid hga
  have Hgd := Lib.hid hgd
  have Hgb := Lib.hid hgb
  have Hgs := Lib.hid hgs
  have Hav := Lib.hid hav
  have Hdv := Lib.hid hdv
  have Hbv := Lib.hid hbv
  have Hsp := Lib.hid hsp
  have Hn := Lib.hid hn
  have HB := Lib.hid hB
  have Hkl := Lib.hid hkl
  have Hfit := Lib.hid hfit
  have Hrx := Lib.hid hrx
  clear hrx hfit hkl hB hn hsp hbv hdv hav hgs hgb hgd hga hml hwf hk hc h
  go_enter Try.func38, Try.ntmps38
  go_upto_region 2 with fail
  have hR1 := Blk.new w 47 #[.int .i64 0, .int .i64 0, .int .i64 0, .int .i64 0, .int .i64 0]
  have hR := hR1.alloc (.cells #[.int .i64 3, .int .i64 0, .int .i64 0, .int .i64 0, .int .i64 0] 47)
  have hS := Blk.new (w.alloc (.cells #[.int .i64 0, .int .i64 0, .int .i64 0, .int .i64 0, .int .i64 0] 47)) 47 #[.int .i64 3, .int .i64 0, .int .i64 0, .int .i64 0, .int .i64 0]
  have hW := ((Below.refl w.heap.size w).alloc (Nat.le_refl _) (.cells #[.int .i64 0, .int .i64 0, .int .i64 0, .int .i64 0, .int .i64 0] 47)).alloc (by simp) (.cells #[.int .i64 3, .int .i64 0, .int .i64 0, .int .i64 0, .int .i64 0] 47)
  rw [World.size_alloc] at hS
  obtain ⟨W, hWe⟩ : ∃ W, W = (w.alloc (.cells #[.int .i64 0, .int .i64 0, .int .i64 0, .int .i64 0, .int .i64 0] 47)).alloc (.cells #[.int .i64 3, .int .i64 0, .int .i64 0, .int .i64 0, .int .i64 0] 47) := ⟨_, rfl⟩
  obtain ⟨R, hRe⟩ : ∃ R, R = w.heap.size := ⟨_, rfl⟩
  rw [← hWe] at hR hS hW ⊢
  rw [← hRe] at hR hS ⊢
  have hC := H.out.below (hW)
  have hM := Hc.out.keep (Keeps.of_below (S := fun _ => False) hW (Nat.le_refl _)) (by have := H.out.loLt; have := HB.out; omega) (fun _ h => h.elim)
  have kc := hC.code
  have kp := hC.pc_
  have kr := hC.regs_
  obtain ⟨m0, m1, m2, m3, m4⟩ := mi_cells hM.rd Hk.out (by rw [Hn.out]; omega)
  simp only at m0 m1 m2 m3 m4
  have hWs : R + 2 ≤ W.heap.size := by have := hS.lt; omega
  have HWe := Lib.hid hWe
  have HRe := Lib.hid hRe
  have HC := Lib.hid hC
  have HM := Lib.hid hM
  have HR := Lib.hid hR
  have HS := Lib.hid hS
  have HW := Lib.hid hW
  clear hW hS hR hM hC hRe hWe
  go_quiet (fail)
  go_upto_region 4 with fail
  obtain ⟨X, hX⟩ : ∃ X, X = W.drewN nq := ⟨_, rfl⟩
  have hWX : Below W.heap.size W X := by rw [hX]; exact below_drewN (Below.refl _ W) nq
  rw [← hX]
  have hC := HC.out.below hWX
  have hM := HM.out.keep (Keeps.of_below (S := fun _ => False) hWX (Nat.le_refl _)) (by have := HC.out.loLt; have := HB.out; omega) (fun _ h => h.elim)
  have hR := HR.out.below hWX HR.out.lt
  have hS := HS.out.below hWX HS.out.lt
  clear kc kp kr m0 m1 m2 m3 m4
  have kc := hC.code
  have kp := hC.pc_
  obtain ⟨m0, m1, m2, m3, m4⟩ := mi_cells hM.rd Hk.out (by rw [Hn.out]; omega)
  simp only at m0 m1 m2 m3 m4
  have hXs := hWX.size
  have hqX : q < X.heap.size := hC.blk.lt
  have hadX : (ad.add (k * 5)).block < X.heap.size := by have h2 := hC.loLt; have h3 := HB.out; rw [block_of_add]; omega
  have HX := Lib.hid hX
  have HCX := Lib.hid hC
  have HMX := Lib.hid hM
  have HRX := Lib.hid hR
  have HSX := Lib.hid hS
  have HWX := Lib.hid hWX
  clear hWX hS hR hM hC hX
  refine wp_region_noPanic ?_
  refine wp_region_held_drew (S := fun W => W.cell? ⟨q, 0, none⟩ = some (.slice (some ad) n c) ∧ W.cell? ⟨q, 2, none⟩ = some (.int .i64 k) ∧ W.cell? (ad.add (k * 5)) = some (.int .u8 4) ∧ W.cell? ⟨(ad.add (k * 5)).block, (ad.add (k * 5)).off + 1, none⟩ = some (.int .i64 dn) ∧ W.cell? ⟨(ad.add (k * 5)).block, (ad.add (k * 5)).off + 2, none⟩ = some (.int .i64 an) ∧ W.cell? ⟨(ad.add (k * 5)).block, (ad.add (k * 5)).off + 3, none⟩ = some (.int .i64 bn) ∧ W.cell? ⟨(ad.add (k * 5)).block, (ad.add (k * 5)).off + 4, none⟩ = some (.int .i32 imm)) (by kernel_rfl) ⟨kc, kp, m0, m1, m2, m3, m4⟩ (fun hHeld => ?_)
  refine wpAnyH_take (i := 0) (v := ?_) rfl (by kernel_rfl) (by kernel_rfl) (by kernel_rfl) (fun _ _ _ h => h) (Or.inl ⟨by rfl, ?_⟩) (by assumption) ?_
  rotate_left
  · intro w hSw; (try dsimp only at hSw); go_simp; try with_reducible rfl
  simp only [Act.put, List.getElem_toArray, List.getElem_cons_zero, List.getElem_cons_succ, List.setIfInBounds_toArray, List.set_cons_zero, List.set_cons_succ]
  refine wpAnyH_take (i := 1) (v := ?_) rfl (by kernel_rfl) (by kernel_rfl) (by kernel_rfl) (fun _ _ _ h => h) (Or.inl ⟨by rfl, ?_⟩) (by assumption) ?_
  rotate_left
  · intro w hSw; (try dsimp only at hSw); go_simp; try with_reducible rfl
  simp only [Act.put, List.getElem_toArray, List.getElem_cons_zero, List.getElem_cons_succ, List.setIfInBounds_toArray, List.set_cons_zero, List.set_cons_succ]
  refine wpAnyH_take (i := 2) (v := ?_) rfl (by kernel_rfl) (by kernel_rfl) (by kernel_rfl) (fun _ _ _ h => h) (Or.inl ⟨by rfl, ?_⟩) (by assumption) ?_
  rotate_left
  · intro w hSw; (try dsimp only at hSw); go_simp; try with_reducible rfl
  simp only [Act.put, List.getElem_toArray, List.getElem_cons_zero, List.getElem_cons_succ, List.setIfInBounds_toArray, List.set_cons_zero, List.set_cons_succ]
  refine wpAnyH_take (i := 3) (v := ?_) rfl (by kernel_rfl) (by kernel_rfl) (by kernel_rfl) (fun _ _ _ h => h) (Or.inl ⟨by rfl, ?_⟩) (by assumption) ?_
  rotate_left
  · intro w hSw; (try dsimp only at hSw); go_simp; try with_reducible rfl
  simp only [Act.put, List.getElem_toArray, List.getElem_cons_zero, List.getElem_cons_succ, List.setIfInBounds_toArray, List.set_cons_zero, List.set_cons_succ]
  refine wpAnyH_take (i := 4) (v := ?_) rfl (by kernel_rfl) (by kernel_rfl) (by kernel_rfl) (fun _ _ _ h => h) (Or.inl ⟨by rfl, ?_⟩) (by assumption) ?_
  rotate_left
  · intro w hSw; (try dsimp only at hSw); go_simp; try with_reducible rfl
  simp only [Act.put, List.getElem_toArray, List.getElem_cons_zero, List.getElem_cons_succ, List.setIfInBounds_toArray, List.set_cons_zero, List.set_cons_succ]
  refine wpAnyH_take (i := 5) (v := ?_) rfl (by kernel_rfl) (by kernel_rfl) (by kernel_rfl) (fun _ _ _ h => h) (Or.inl ⟨by rfl, ?_⟩) (by assumption) ?_
  rotate_left
  · intro w hSw; (try dsimp only at hSw); go_simp; try with_reducible rfl
  simp only [Act.put, List.getElem_toArray, List.getElem_cons_zero, List.getElem_cons_succ, List.setIfInBounds_toArray, List.set_cons_zero, List.set_cons_succ]
  refine wpAnyH_take (i := 6) (v := ?_) rfl (by kernel_rfl) (by kernel_rfl) (by kernel_rfl) (fun _ _ _ h => h) (Or.inl ⟨by rfl, ?_⟩) (by assumption) ?_
  rotate_left
  · intro w hSw; (try dsimp only at hSw); go_simp; try with_reducible rfl
  simp only [Act.put, List.getElem_toArray, List.getElem_cons_zero, List.getElem_cons_succ, List.setIfInBounds_toArray, List.set_cons_zero, List.set_cons_succ]
  refine wpAnyH_take (i := 7) (v := ?_) rfl (by kernel_rfl) (by kernel_rfl) (by kernel_rfl) (fun _ _ _ h => h) (Or.inl ⟨by rfl, ?_⟩) (by assumption) ?_
  rotate_left
  · intro w hSw; (try dsimp only at hSw); go_simp; try with_reducible rfl
  simp only [Act.put, List.getElem_toArray, List.getElem_cons_zero, List.getElem_cons_succ, List.setIfInBounds_toArray, List.set_cons_zero, List.set_cons_succ]
  refine wpAnyH_take (i := 8) (v := ?_) rfl (by kernel_rfl) (by kernel_rfl) (by kernel_rfl) (fun _ _ _ h => h) (Or.inl ⟨by rfl, ?_⟩) (by assumption) ?_
  rotate_left
  · intro w hSw; (try dsimp only at hSw); go_simp; try with_reducible rfl
  simp only [Act.put, List.getElem_toArray, List.getElem_cons_zero, List.getElem_cons_succ, List.setIfInBounds_toArray, List.set_cons_zero, List.set_cons_succ]
  refine wpAnyH_take (i := 9) (v := ?_) rfl (by kernel_rfl) (by kernel_rfl) (by kernel_rfl) (fun _ _ _ h => h) (Or.inl ⟨by rfl, ?_⟩) (by assumption) ?_
  rotate_left
  · intro w hSw; (try dsimp only at hSw); go_simp; try with_reducible rfl
  simp only [Act.put, List.getElem_toArray, List.getElem_cons_zero, List.getElem_cons_succ, List.setIfInBounds_toArray, List.set_cons_zero, List.set_cons_succ]
  refine wpAnyH_ready (rs := [10]) (by kernel_rfl) (by simp) ?_
  refine AllReadyH.cons rfl (fun K hK => ?_) AllReadyH.nil
  go_simp
  refine hK.out _ _ ⟨(World.cell?_alloc_lt X _ ⟨q, 0, none⟩ hqX).trans kc, (World.cell?_alloc_lt X _ ⟨q, 2, none⟩ hqX).trans kp, (World.cell?_alloc_lt X _ (ad.add (k * 5)) hadX).trans m0, (World.cell?_alloc_lt X _ ⟨(ad.add (k * 5)).block, (ad.add (k * 5)).off + 1, none⟩ hadX).trans m1, (World.cell?_alloc_lt X _ ⟨(ad.add (k * 5)).block, (ad.add (k * 5)).off + 2, none⟩ hadX).trans m2, (World.cell?_alloc_lt X _ ⟨(ad.add (k * 5)).block, (ad.add (k * 5)).off + 3, none⟩ hadX).trans m3, (World.cell?_alloc_lt X _ ⟨(ad.add (k * 5)).block, (ad.add (k * 5)).off + 4, none⟩ hadX).trans m4⟩ (fun hHeld2 => ?_)
  refine wpAnyH_ready (rs := [11]) (by kernel_rfl) (by simp) ?_
  refine AllReadyH.cons rfl (fun K hK => ?_) AllReadyH.nil
  go_simp
  refine hK.out _ _ ⟨(World.cell?_alloc_lt X _ ⟨q, 0, none⟩ hqX).trans kc, (World.cell?_alloc_lt X _ ⟨q, 2, none⟩ hqX).trans kp, (World.cell?_alloc_lt X _ (ad.add (k * 5)) hadX).trans m0, (World.cell?_alloc_lt X _ ⟨(ad.add (k * 5)).block, (ad.add (k * 5)).off + 1, none⟩ hadX).trans m1, (World.cell?_alloc_lt X _ ⟨(ad.add (k * 5)).block, (ad.add (k * 5)).off + 2, none⟩ hadX).trans m2, (World.cell?_alloc_lt X _ ⟨(ad.add (k * 5)).block, (ad.add (k * 5)).off + 3, none⟩ hadX).trans m3, (World.cell?_alloc_lt X _ ⟨(ad.add (k * 5)).block, (ad.add (k * 5)).off + 4, none⟩ hadX).trans m4⟩ (fun hHeld3 => ?_)
  clear hK K hHeld hHeld2 hHeld3
  refine wpAnyH_done (by kernel_rfl) ?_ _
  refine NoPanic.normal ?_
  obtain ⟨I, hI⟩ : ∃ I, I = X.heap.size := ⟨_, rfl⟩
  have hIB := (Blk.new X 30 #[.int .u8 4, .int .i64 dn, .int .i64 an, .int .i64 bn, .int .i32 imm]).drew
  obtain ⟨Y, hY⟩ : ∃ Y, Y = (X.alloc (.cells #[.int .u8 4, .int .i64 dn, .int .i64 an, .int .i64 bn, .int .i32 imm] 30)).drew := ⟨_, rfl⟩
  have hXY : Below X.heap.size X Y := by rw [hY]; exact ((Below.refl _ X).alloc (Nat.le_refl _) _).drew
  rw [← hY] at hIB ⊢
  rw [← hI] at hIB ⊢
  have hC := HCX.out.below hXY
  have hR := HRX.out.below hXY HRX.out.lt
  have hS := HSX.out.below hXY HSX.out.lt
  clear kc kp m0 m1 m2 m3 m4
  have kp := hC.pc_
  have kr := hC.regs_
  have ka := hC.reg Hav.out
  have ki0 := Blk.cell hIB 0
  have ki1 := Blk.cell hIB 1
  have ki2 := Blk.cell hIB 2
  have ki3 := Blk.cell hIB 3
  have ki4 := Blk.cell hIB 4
  simp only [List.getElem?_toArray, List.getElem?_cons_zero, List.getElem?_cons_succ] at ki0 ki1 ki2 ki3 ki4
  have hXYs := hXY.size
  have hIl := hIB.lt
  obtain ⟨iv, hiv⟩ : ∃ iv, IntKind.u64.wrap imm = iv := ⟨_, rfl⟩
  have HI := Lib.hid hI
  have HY := Lib.hid hY
  have HCY := Lib.hid hC
  have HRY := Lib.hid hR
  have HSY := Lib.hid hS
  have HIB := Lib.hid hIB
  have HXY := Lib.hid hXY
  clear hXY hIB hS hR hC hY hI
  go_upto_region 5 with fail
  go_quiet (fail)
  obtain ⟨Q, hQ⟩ : ∃ Q, Q = Y.drewN nq := ⟨_, rfl⟩
  have hYQ : Below Y.heap.size Y Q := by rw [hQ]; exact below_drewN (Below.refl _ Y) nq
  rw [← hQ]
  have hC := HCY.out.below hYQ
  have hR := HRY.out.below hYQ HRY.out.lt
  have hS := HSY.out.below hYQ HSY.out.lt
  have hIB := HIB.out.below hYQ HIB.out.lt
  clear kp ka kr ki0 ki1 ki2 ki3 ki4
  have kp := hC.pc_
  have kr := hC.regs_
  have kw := hC.words_
  have kb := hC.reg Hbv.out
  have kd := hC.reg Hdv.out
  have fd := hC.rblk.frozen dn
  have fp := hC.blk.frozen 2
  have f14 : Q.frozen? ⟨rg, 14, none⟩ = false := hC.rblk.frozen 14
  have k14 : Q.cell? ⟨rg, 14, none⟩ = some (.int .u64 sp) := hC.reg Hsp.out
  have ki0 := Blk.cell hIB 0
  have ki1 := Blk.cell hIB 1
  have ki2 := Blk.cell hIB 2
  have ki3 := Blk.cell hIB 3
  have ki4 := Blk.cell hIB 4
  simp only [List.getElem?_toArray, List.getElem?_cons_zero, List.getElem?_cons_succ] at ki0 ki1 ki2 ki3 ki4
  have kt0 := Blk.cell hR 0
  have kt1 := Blk.cell hR 1
  have kt2 := Blk.cell hR 2
  have kt3 := Blk.cell hR 3
  have kt4 := Blk.cell hR 4
  simp only [List.getElem?_toArray, List.getElem?_cons_zero, List.getElem?_cons_succ] at kt0 kt1 kt2 kt3 kt4
  have ks0 := Blk.cell hS 0
  have ks1 := Blk.cell hS 1
  have ks2 := Blk.cell hS 2
  have ks3 := Blk.cell hS 3
  have ks4 := Blk.cell hS 4
  simp only [List.getElem?_toArray, List.getElem?_cons_zero, List.getElem?_cons_succ] at ks0 ks1 ks2 ks3 ks4
  have gr0 := Blk.frozen hR 0
  have gr1 := Blk.frozen hR 1
  have gr2 := Blk.frozen hR 2
  have gr3 := Blk.frozen hR 3
  have gr4 := Blk.frozen hR 4
  have hwQ : Below w.heap.size w Q := (HW.out.trans (HWX.out.mono HW.out.size)).trans ((HXY.out.mono (Nat.le_trans HW.out.size HWX.out.size)).trans (hYQ.mono (by have h1 := HW.out.size; have h2 := HWX.out.size; have h3 := HXY.out.size; omega)))
  have hRI : R + 2 ≤ I := by have h1 := HI.out; have h2 := HWX.out.size; omega
  have hqR : q < R ∧ rg < R ∧ wg < R := by have h1 := HRe.out; have h2 := H.out.blk.lt; have h3 := H.out.rblk.lt; have h4 := H.out.wblk.lt; omega
  have hne := hC.ne
  clear HCY HRY HSY HXY HCX HMX HRX HSX HWX HC HM HR HS HW HIB
  have HQ := Lib.hid hQ
  have HYQ := Lib.hid hYQ
  have HC := Lib.hid hC
  have HR := Lib.hid hR
  have HS := Lib.hid hS
  have HIB := Lib.hid hIB
  have HwQ := Lib.hid hwQ
  have Hne := Lib.hid hne
  clear hne hwQ hIB hS hR hC hYQ hQ
  obtain ⟨su, hsu⟩ : ∃ su, IntKind.u64.wrap (av + iv) = su := ⟨_, rfl⟩
  have hsu2 : (av + imm) % 18446744073709551616 = su := by rw [← hsu, ← hiv, IntKind.wrap_u64, IntKind.wrap_u64]; omega
  have Hsu2 := Lib.hid hsu2
  clear hsu2
  have hsb : su = base + 8 * kk := by rw [← Hsu2.out, Hm.out]
  have Hsb := Lib.hid hsb
  clear hsb
  obtain ⟨wn, hwn⟩ : ∃ wn, ws.length = wn := ⟨_, rfl⟩
  have hkw : kk < wn := by omega
  have hwn65 : 8 * wn ≤ 65536 := by have := Hml.out.2.2.2; omega
  rw [hwn] at kw
  have Hwn := Lib.hid hwn
  clear hwn
  have huv := HC.out.wok _ (List.mem_of_getElem? Hv.out)
  have Huv := Lib.hid huv
  clear huv
  go_wp2_with fail
  refine (where_in HC.out su kk hkl2 Hsb.out).mono ?_
  rintro e w1 ⟨rfl, dq, rfl⟩
  obtain ⟨Q2, hQ2⟩ : ∃ Q2, Q2 = Q.drewN dq := ⟨_, rfl⟩
  rw [← hQ2]
  have hC := HC.out.drewN dq
  have hR := HR.out.drewN dq
  have hS := HS.out.drewN dq
  have hIB := HIB.out.drewN dq
  have hwQ := below_drewN HwQ.out dq
  rw [← hQ2] at hC hR hS hIB hwQ
  clear kp kr kw kb kd fd fp f14 k14 ki0 ki1 ki2 ki3 ki4 kt0 kt1 kt2 kt3 kt4 ks0 ks1 ks2 ks3 ks4 gr0 gr1 gr2 gr3 gr4
  clear HC HR HS HIB HwQ
  have kp := hC.pc_
  have kr := hC.regs_
  have kw := hC.words_
  have kb := hC.reg Hbv.out
  have kd := hC.reg Hdv.out
  have fd := hC.rblk.frozen dn
  have fp := hC.blk.frozen 2
  have f14 : Q2.frozen? ⟨rg, 14, none⟩ = false := hC.rblk.frozen 14
  have k14 : Q2.cell? ⟨rg, 14, none⟩ = some (.int .u64 sp) := hC.reg Hsp.out
  have ki0 := Blk.cell hIB 0
  have ki1 := Blk.cell hIB 1
  have ki2 := Blk.cell hIB 2
  have ki3 := Blk.cell hIB 3
  have ki4 := Blk.cell hIB 4
  simp only [List.getElem?_toArray, List.getElem?_cons_zero, List.getElem?_cons_succ] at ki0 ki1 ki2 ki3 ki4
  have kt0 := Blk.cell hR 0
  have kt1 := Blk.cell hR 1
  have kt2 := Blk.cell hR 2
  have kt3 := Blk.cell hR 3
  have kt4 := Blk.cell hR 4
  simp only [List.getElem?_toArray, List.getElem?_cons_zero, List.getElem?_cons_succ] at kt0 kt1 kt2 kt3 kt4
  have ks0 := Blk.cell hS 0
  have ks1 := Blk.cell hS 1
  have ks2 := Blk.cell hS 2
  have ks3 := Blk.cell hS 3
  have ks4 := Blk.cell hS 4
  simp only [List.getElem?_toArray, List.getElem?_cons_zero, List.getElem?_cons_succ] at ks0 ks1 ks2 ks3 ks4
  have gr0 := Blk.frozen hR 0
  have gr1 := Blk.frozen hR 1
  have gr2 := Blk.frozen hR 2
  have gr3 := Blk.frozen hR 3
  have gr4 := Blk.frozen hR 4
  have HQ2 := Lib.hid hQ2
  have HC := Lib.hid hC
  have HR := Lib.hid hR
  have HS := Lib.hid hS
  have HIB := Lib.hid hIB
  have HwQ := Lib.hid hwQ
  clear hwQ hIB hS hR hC hQ2
  rw [Hwn.out] at kw
  have hkI : (kk : Int) < wn := by omega
  have kv : Q2.cell? ⟨wg, kk, none⟩ = some (.int .u64 v) := HC.out.word Hv.out
  have hU : U64 v := Huv.out
  go_upto_region 23 with fail
  go_region
  obtain ⟨V, hV⟩ : ∃ V, V = (Q2.setCell ⟨rg, dn, none⟩ (.int .u64 v)).drew := ⟨_, rfl⟩
  rw [← hV]
  have hCV : RefAt V lo q rg wg (.slice (some ad) n c) regsX k base ws := by
    rw [hV, Hrx.out]
    skip
    exact (HC.out.setReg (r := dn) hU).drewN 1
  have hKQ : Keeps (RefS q rg wg) Q2 V := by
    rw [hV]
    exact ((Keeps.refl (RefS q rg wg) Q2).setCell (p := ⟨rg, dn, none⟩) (.inl (by first | exact Or.inr (Or.inl rfl) | exact Or.inr (Or.inr rfl))) _).drew
  have hRV : Blk V R 47 #[.int .i64 0, .int .i64 0, .int .i64 0, .int .i64 0, .int .i64 0] := hKQ.blk HR.out (by rintro (e | e | e) <;> omega)
  have hKV : Keeps (RefS q rg wg) w V := (Keeps.of_below HwQ.out (Nat.le_refl _)).trans hKQ (fun _ h => .inl h)
  clear kv kp kr kw kb kd fd fp f14 k14 ki0 ki1 ki2 ki3 ki4 kt0 kt1 kt2 kt3 kt4 ks0 ks1 ks2 ks3 ks4 gr0 gr1 gr2 gr3 gr4
  have kp := hCV.pc_
  have fp := hCV.blk.frozen 2
  have kt0 := Blk.cell hRV 0
  have kt1 := Blk.cell hRV 1
  have kt2 := Blk.cell hRV 2
  have kt3 := Blk.cell hRV 3
  have kt4 := Blk.cell hRV 4
  simp only [List.getElem?_toArray, List.getElem?_cons_zero, List.getElem?_cons_succ] at kt0 kt1 kt2 kt3 kt4
  have gr0 := Blk.frozen hRV 0
  have gr1 := Blk.frozen hRV 1
  have gr2 := Blk.frozen hRV 2
  have gr3 := Blk.frozen hRV 3
  have gr4 := Blk.frozen hRV 4
  have HV := Lib.hid hV
  have HCV := Lib.hid hCV
  have HKQ := Lib.hid hKQ
  have HKV := Lib.hid hKV
  have HRV := Lib.hid hRV
  clear hRV hKV hKQ hCV hV
  go_wp2_with fail
  obtain ⟨g1, g2, g3⟩ := rend_pc HCV.out HRV.out hqR HKV.out (pc' := k + 1) (by omega)
  obtain ⟨r1, r2, r3⟩ := rend_laid g2 g1 hqR g3 (Nat.le_of_eq HRe.out.symm) (.int .i64 0) (.int .i64 0) (.int .i64 0) (.int .i64 0) (.int .i64 0)
  refine bodyPost_ret (results_cell_row rfl _ _ R 47 _ (0, 0) _ rfl r1 Try.underlying47 rfl (by kernel_rfl)) rfl ?_
  exact ⟨rfl, r2, r3⟩
set_option maxRecDepth 100000 in
set_option maxHeartbeats 4000000 in
theorem rstep_ld_bad {w : World} {lo q rg wg B c : Nat} {A : Option Addr} {regs : List Int} {pc base : Int} {ws : List Int} {l : List MInstD} {k : Nat} {i : MInstD} (h : RefAt w lo q rg wg (.slice A l.length c) regs pc base ws) (hc : CodeM w B A c l) (hB : B ≤ lo) (hpc : pc = k) (hk : l[k]? = some i) (hm : ∀ kk : Nat, kk < ws.length → (regs.getD i.a.toNat 0 + i.imm) % 18446744073709551616 ≠ base + 8 * kk) (ho : i.op = 4) :
    Calls Try.prog 38 #[.pointer (some ⟨q, 0, none⟩)] w fun e w' => RStepTo w lo q rg wg (.slice A l.length c) base 3 0 0 0 0 regs k ws e w' := by
  have hkl : k < l.length := (List.getElem?_eq_some_iff.1 hk).1
  have hfit := hc.fit
  obtain ⟨ad, hA, hadB, _⟩ := hc.rd.2 (by omega)
  subst hA
  have hwf := hc.wf i (List.mem_of_getElem? hk)
  obtain ⟨⟨d0, d1⟩, ⟨a0, a1⟩, ⟨b0, b1⟩⟩ := good_regs (hc.good i (List.mem_of_getElem? hk))
  obtain ⟨op, d, a, b, imm⟩ := i
  simp only at d0 d1 a0 a1 b0 b1 ho ⊢
  subst ho
  obtain ⟨im0, im1⟩ := hwf.imm
  simp only at im0 im1
  obtain ⟨dn, rfl⟩ := Int.eq_ofNat_of_zero_le d0
  obtain ⟨an, rfl⟩ := Int.eq_ofNat_of_zero_le a0
  obtain ⟨bn, rfl⟩ := Int.eq_ofNat_of_zero_le b0
  obtain ⟨av, hav⟩ : ∃ av, regs[an]? = some av := ⟨_, List.getElem?_eq_getElem (by rw [h.len]; omega)⟩
  obtain ⟨dv, hdv⟩ : ∃ dv, regs[dn]? = some dv := ⟨_, List.getElem?_eq_getElem (by rw [h.len]; omega)⟩
  obtain ⟨sp, hsp⟩ : ∃ sp, regs[14]? = some sp := ⟨_, List.getElem?_eq_getElem (by rw [h.len]; omega)⟩
  obtain ⟨bv, hbv⟩ : ∃ bv, regs[bn]? = some bv := ⟨_, List.getElem?_eq_getElem (by rw [h.len]; omega)⟩
  obtain ⟨hga, hgd, hgb, hgs⟩ : regs.getD an 0 = av ∧ regs.getD dn 0 = dv ∧ regs.getD bn 0 = bv ∧ regs.getD 14 0 = sp := by
    refine ⟨?_, ?_, ?_, ?_⟩ <;> rw [List.getD_eq_getElem?_getD] <;> simp only [hav, hdv, hbv, hsp, Option.getD_some]
  have uav := h.u64 _ (List.mem_of_getElem? hav)
  have udv := h.u64 _ (List.mem_of_getElem? hdv)
  have ubv := h.u64 _ (List.mem_of_getElem? hbv)
  have usp := h.u64 _ (List.mem_of_getElem? hsp)
  subst hpc
  try simp only [Int.toNat_natCast, hga, hgd, hgb, hgs]
  have hml := h.fit
  simp only [Int.toNat_natCast, hga] at hm
  have Hm := Lib.hid hm
  clear hm
  have n0 : ¬ ((k : Int) < 0) := by omega
  obtain ⟨n, hn⟩ : ∃ n, l.length = n := ⟨_, rfl⟩
  have hkn : k < n := by omega
  have hfn : n ≤ 10000000000 := by omega
  have n1 : ¬ ((n : Int) ≤ k) := by omega
  rw [hn] at h ⊢
  obtain ⟨regsX, hrx⟩ : ∃ regsX, regsX = regs := ⟨_, rfl⟩
  rw [← hrx]
  have hdb : (dn : Int) < 16 := by omega
  have hab : (an : Int) < 16 := by omega
  have hbb : (bn : Int) < 16 := by omega
  have H := Lib.hid h
  have Hc := Lib.hid hc
  have Hk := Lib.hid hk
  have Hwf := Lib.hid hwf
  have Hml := Lib.hid hml
  have Hga := Lib.hid hga
  have Hgd := Lib.hid hgd
  have Hgb := Lib.hid hgb
  have Hgs := Lib.hid hgs
  have Hav := Lib.hid hav
  have Hdv := Lib.hid hdv
  have Hbv := Lib.hid hbv
  have Hsp := Lib.hid hsp
  have Hn := Lib.hid hn
  have HB := Lib.hid hB
  have Hkl := Lib.hid hkl
  have Hfit := Lib.hid hfit
  have Hrx := Lib.hid hrx
  clear hrx hfit hkl hB hn hsp hbv hdv hav hgs hgb hgd hga hml hwf hk hc h
  go_enter Try.func38, Try.ntmps38
  go_upto_region 2 with fail
  have hR1 := Blk.new w 47 #[.int .i64 0, .int .i64 0, .int .i64 0, .int .i64 0, .int .i64 0]
  have hR := hR1.alloc (.cells #[.int .i64 3, .int .i64 0, .int .i64 0, .int .i64 0, .int .i64 0] 47)
  have hS := Blk.new (w.alloc (.cells #[.int .i64 0, .int .i64 0, .int .i64 0, .int .i64 0, .int .i64 0] 47)) 47 #[.int .i64 3, .int .i64 0, .int .i64 0, .int .i64 0, .int .i64 0]
  have hW := ((Below.refl w.heap.size w).alloc (Nat.le_refl _) (.cells #[.int .i64 0, .int .i64 0, .int .i64 0, .int .i64 0, .int .i64 0] 47)).alloc (by simp) (.cells #[.int .i64 3, .int .i64 0, .int .i64 0, .int .i64 0, .int .i64 0] 47)
  rw [World.size_alloc] at hS
  obtain ⟨W, hWe⟩ : ∃ W, W = (w.alloc (.cells #[.int .i64 0, .int .i64 0, .int .i64 0, .int .i64 0, .int .i64 0] 47)).alloc (.cells #[.int .i64 3, .int .i64 0, .int .i64 0, .int .i64 0, .int .i64 0] 47) := ⟨_, rfl⟩
  obtain ⟨R, hRe⟩ : ∃ R, R = w.heap.size := ⟨_, rfl⟩
  rw [← hWe] at hR hS hW ⊢
  rw [← hRe] at hR hS ⊢
  have hC := H.out.below (hW)
  have hM := Hc.out.keep (Keeps.of_below (S := fun _ => False) hW (Nat.le_refl _)) (by have := H.out.loLt; have := HB.out; omega) (fun _ h => h.elim)
  have kc := hC.code
  have kp := hC.pc_
  have kr := hC.regs_
  obtain ⟨m0, m1, m2, m3, m4⟩ := mi_cells hM.rd Hk.out (by rw [Hn.out]; omega)
  simp only at m0 m1 m2 m3 m4
  have hWs : R + 2 ≤ W.heap.size := by have := hS.lt; omega
  have HWe := Lib.hid hWe
  have HRe := Lib.hid hRe
  have HC := Lib.hid hC
  have HM := Lib.hid hM
  have HR := Lib.hid hR
  have HS := Lib.hid hS
  have HW := Lib.hid hW
  clear hW hS hR hM hC hRe hWe
  go_quiet (fail)
  go_upto_region 4 with fail
  obtain ⟨X, hX⟩ : ∃ X, X = W.drewN nq := ⟨_, rfl⟩
  have hWX : Below W.heap.size W X := by rw [hX]; exact below_drewN (Below.refl _ W) nq
  rw [← hX]
  have hC := HC.out.below hWX
  have hM := HM.out.keep (Keeps.of_below (S := fun _ => False) hWX (Nat.le_refl _)) (by have := HC.out.loLt; have := HB.out; omega) (fun _ h => h.elim)
  have hR := HR.out.below hWX HR.out.lt
  have hS := HS.out.below hWX HS.out.lt
  clear kc kp kr m0 m1 m2 m3 m4
  have kc := hC.code
  have kp := hC.pc_
  obtain ⟨m0, m1, m2, m3, m4⟩ := mi_cells hM.rd Hk.out (by rw [Hn.out]; omega)
  simp only at m0 m1 m2 m3 m4
  have hXs := hWX.size
  have hqX : q < X.heap.size := hC.blk.lt
  have hadX : (ad.add (k * 5)).block < X.heap.size := by have h2 := hC.loLt; have h3 := HB.out; rw [block_of_add]; omega
  have HX := Lib.hid hX
  have HCX := Lib.hid hC
  have HMX := Lib.hid hM
  have HRX := Lib.hid hR
  have HSX := Lib.hid hS
  have HWX := Lib.hid hWX
  clear hWX hS hR hM hC hX
  refine wp_region_noPanic ?_
  refine wp_region_held_drew (S := fun W => W.cell? ⟨q, 0, none⟩ = some (.slice (some ad) n c) ∧ W.cell? ⟨q, 2, none⟩ = some (.int .i64 k) ∧ W.cell? (ad.add (k * 5)) = some (.int .u8 4) ∧ W.cell? ⟨(ad.add (k * 5)).block, (ad.add (k * 5)).off + 1, none⟩ = some (.int .i64 dn) ∧ W.cell? ⟨(ad.add (k * 5)).block, (ad.add (k * 5)).off + 2, none⟩ = some (.int .i64 an) ∧ W.cell? ⟨(ad.add (k * 5)).block, (ad.add (k * 5)).off + 3, none⟩ = some (.int .i64 bn) ∧ W.cell? ⟨(ad.add (k * 5)).block, (ad.add (k * 5)).off + 4, none⟩ = some (.int .i32 imm)) (by kernel_rfl) ⟨kc, kp, m0, m1, m2, m3, m4⟩ (fun hHeld => ?_)
  refine wpAnyH_take (i := 0) (v := ?_) rfl (by kernel_rfl) (by kernel_rfl) (by kernel_rfl) (fun _ _ _ h => h) (Or.inl ⟨by rfl, ?_⟩) (by assumption) ?_
  rotate_left
  · intro w hSw; (try dsimp only at hSw); go_simp; try with_reducible rfl
  simp only [Act.put, List.getElem_toArray, List.getElem_cons_zero, List.getElem_cons_succ, List.setIfInBounds_toArray, List.set_cons_zero, List.set_cons_succ]
  refine wpAnyH_take (i := 1) (v := ?_) rfl (by kernel_rfl) (by kernel_rfl) (by kernel_rfl) (fun _ _ _ h => h) (Or.inl ⟨by rfl, ?_⟩) (by assumption) ?_
  rotate_left
  · intro w hSw; (try dsimp only at hSw); go_simp; try with_reducible rfl
  simp only [Act.put, List.getElem_toArray, List.getElem_cons_zero, List.getElem_cons_succ, List.setIfInBounds_toArray, List.set_cons_zero, List.set_cons_succ]
  refine wpAnyH_take (i := 2) (v := ?_) rfl (by kernel_rfl) (by kernel_rfl) (by kernel_rfl) (fun _ _ _ h => h) (Or.inl ⟨by rfl, ?_⟩) (by assumption) ?_
  rotate_left
  · intro w hSw; (try dsimp only at hSw); go_simp; try with_reducible rfl
  simp only [Act.put, List.getElem_toArray, List.getElem_cons_zero, List.getElem_cons_succ, List.setIfInBounds_toArray, List.set_cons_zero, List.set_cons_succ]
  refine wpAnyH_take (i := 3) (v := ?_) rfl (by kernel_rfl) (by kernel_rfl) (by kernel_rfl) (fun _ _ _ h => h) (Or.inl ⟨by rfl, ?_⟩) (by assumption) ?_
  rotate_left
  · intro w hSw; (try dsimp only at hSw); go_simp; try with_reducible rfl
  simp only [Act.put, List.getElem_toArray, List.getElem_cons_zero, List.getElem_cons_succ, List.setIfInBounds_toArray, List.set_cons_zero, List.set_cons_succ]
  refine wpAnyH_take (i := 4) (v := ?_) rfl (by kernel_rfl) (by kernel_rfl) (by kernel_rfl) (fun _ _ _ h => h) (Or.inl ⟨by rfl, ?_⟩) (by assumption) ?_
  rotate_left
  · intro w hSw; (try dsimp only at hSw); go_simp; try with_reducible rfl
  simp only [Act.put, List.getElem_toArray, List.getElem_cons_zero, List.getElem_cons_succ, List.setIfInBounds_toArray, List.set_cons_zero, List.set_cons_succ]
  refine wpAnyH_take (i := 5) (v := ?_) rfl (by kernel_rfl) (by kernel_rfl) (by kernel_rfl) (fun _ _ _ h => h) (Or.inl ⟨by rfl, ?_⟩) (by assumption) ?_
  rotate_left
  · intro w hSw; (try dsimp only at hSw); go_simp; try with_reducible rfl
  simp only [Act.put, List.getElem_toArray, List.getElem_cons_zero, List.getElem_cons_succ, List.setIfInBounds_toArray, List.set_cons_zero, List.set_cons_succ]
  refine wpAnyH_take (i := 6) (v := ?_) rfl (by kernel_rfl) (by kernel_rfl) (by kernel_rfl) (fun _ _ _ h => h) (Or.inl ⟨by rfl, ?_⟩) (by assumption) ?_
  rotate_left
  · intro w hSw; (try dsimp only at hSw); go_simp; try with_reducible rfl
  simp only [Act.put, List.getElem_toArray, List.getElem_cons_zero, List.getElem_cons_succ, List.setIfInBounds_toArray, List.set_cons_zero, List.set_cons_succ]
  refine wpAnyH_take (i := 7) (v := ?_) rfl (by kernel_rfl) (by kernel_rfl) (by kernel_rfl) (fun _ _ _ h => h) (Or.inl ⟨by rfl, ?_⟩) (by assumption) ?_
  rotate_left
  · intro w hSw; (try dsimp only at hSw); go_simp; try with_reducible rfl
  simp only [Act.put, List.getElem_toArray, List.getElem_cons_zero, List.getElem_cons_succ, List.setIfInBounds_toArray, List.set_cons_zero, List.set_cons_succ]
  refine wpAnyH_take (i := 8) (v := ?_) rfl (by kernel_rfl) (by kernel_rfl) (by kernel_rfl) (fun _ _ _ h => h) (Or.inl ⟨by rfl, ?_⟩) (by assumption) ?_
  rotate_left
  · intro w hSw; (try dsimp only at hSw); go_simp; try with_reducible rfl
  simp only [Act.put, List.getElem_toArray, List.getElem_cons_zero, List.getElem_cons_succ, List.setIfInBounds_toArray, List.set_cons_zero, List.set_cons_succ]
  refine wpAnyH_take (i := 9) (v := ?_) rfl (by kernel_rfl) (by kernel_rfl) (by kernel_rfl) (fun _ _ _ h => h) (Or.inl ⟨by rfl, ?_⟩) (by assumption) ?_
  rotate_left
  · intro w hSw; (try dsimp only at hSw); go_simp; try with_reducible rfl
  simp only [Act.put, List.getElem_toArray, List.getElem_cons_zero, List.getElem_cons_succ, List.setIfInBounds_toArray, List.set_cons_zero, List.set_cons_succ]
  refine wpAnyH_ready (rs := [10]) (by kernel_rfl) (by simp) ?_
  refine AllReadyH.cons rfl (fun K hK => ?_) AllReadyH.nil
  go_simp
  refine hK.out _ _ ⟨(World.cell?_alloc_lt X _ ⟨q, 0, none⟩ hqX).trans kc, (World.cell?_alloc_lt X _ ⟨q, 2, none⟩ hqX).trans kp, (World.cell?_alloc_lt X _ (ad.add (k * 5)) hadX).trans m0, (World.cell?_alloc_lt X _ ⟨(ad.add (k * 5)).block, (ad.add (k * 5)).off + 1, none⟩ hadX).trans m1, (World.cell?_alloc_lt X _ ⟨(ad.add (k * 5)).block, (ad.add (k * 5)).off + 2, none⟩ hadX).trans m2, (World.cell?_alloc_lt X _ ⟨(ad.add (k * 5)).block, (ad.add (k * 5)).off + 3, none⟩ hadX).trans m3, (World.cell?_alloc_lt X _ ⟨(ad.add (k * 5)).block, (ad.add (k * 5)).off + 4, none⟩ hadX).trans m4⟩ (fun hHeld2 => ?_)
  refine wpAnyH_ready (rs := [11]) (by kernel_rfl) (by simp) ?_
  refine AllReadyH.cons rfl (fun K hK => ?_) AllReadyH.nil
  go_simp
  refine hK.out _ _ ⟨(World.cell?_alloc_lt X _ ⟨q, 0, none⟩ hqX).trans kc, (World.cell?_alloc_lt X _ ⟨q, 2, none⟩ hqX).trans kp, (World.cell?_alloc_lt X _ (ad.add (k * 5)) hadX).trans m0, (World.cell?_alloc_lt X _ ⟨(ad.add (k * 5)).block, (ad.add (k * 5)).off + 1, none⟩ hadX).trans m1, (World.cell?_alloc_lt X _ ⟨(ad.add (k * 5)).block, (ad.add (k * 5)).off + 2, none⟩ hadX).trans m2, (World.cell?_alloc_lt X _ ⟨(ad.add (k * 5)).block, (ad.add (k * 5)).off + 3, none⟩ hadX).trans m3, (World.cell?_alloc_lt X _ ⟨(ad.add (k * 5)).block, (ad.add (k * 5)).off + 4, none⟩ hadX).trans m4⟩ (fun hHeld3 => ?_)
  clear hK K hHeld hHeld2 hHeld3
  refine wpAnyH_done (by kernel_rfl) ?_ _
  refine NoPanic.normal ?_
  obtain ⟨I, hI⟩ : ∃ I, I = X.heap.size := ⟨_, rfl⟩
  have hIB := (Blk.new X 30 #[.int .u8 4, .int .i64 dn, .int .i64 an, .int .i64 bn, .int .i32 imm]).drew
  obtain ⟨Y, hY⟩ : ∃ Y, Y = (X.alloc (.cells #[.int .u8 4, .int .i64 dn, .int .i64 an, .int .i64 bn, .int .i32 imm] 30)).drew := ⟨_, rfl⟩
  have hXY : Below X.heap.size X Y := by rw [hY]; exact ((Below.refl _ X).alloc (Nat.le_refl _) _).drew
  rw [← hY] at hIB ⊢
  rw [← hI] at hIB ⊢
  have hC := HCX.out.below hXY
  have hR := HRX.out.below hXY HRX.out.lt
  have hS := HSX.out.below hXY HSX.out.lt
  clear kc kp m0 m1 m2 m3 m4
  have kp := hC.pc_
  have kr := hC.regs_
  have ka := hC.reg Hav.out
  have ki0 := Blk.cell hIB 0
  have ki1 := Blk.cell hIB 1
  have ki2 := Blk.cell hIB 2
  have ki3 := Blk.cell hIB 3
  have ki4 := Blk.cell hIB 4
  simp only [List.getElem?_toArray, List.getElem?_cons_zero, List.getElem?_cons_succ] at ki0 ki1 ki2 ki3 ki4
  have hXYs := hXY.size
  have hIl := hIB.lt
  obtain ⟨iv, hiv⟩ : ∃ iv, IntKind.u64.wrap imm = iv := ⟨_, rfl⟩
  have HI := Lib.hid hI
  have HY := Lib.hid hY
  have HCY := Lib.hid hC
  have HRY := Lib.hid hR
  have HSY := Lib.hid hS
  have HIB := Lib.hid hIB
  have HXY := Lib.hid hXY
  clear hXY hIB hS hR hC hY hI
  go_upto_region 5 with fail
  go_quiet (fail)
  obtain ⟨Q, hQ⟩ : ∃ Q, Q = Y.drewN nq := ⟨_, rfl⟩
  have hYQ : Below Y.heap.size Y Q := by rw [hQ]; exact below_drewN (Below.refl _ Y) nq
  rw [← hQ]
  have hC := HCY.out.below hYQ
  have hR := HRY.out.below hYQ HRY.out.lt
  have hS := HSY.out.below hYQ HSY.out.lt
  have hIB := HIB.out.below hYQ HIB.out.lt
  clear kp ka kr ki0 ki1 ki2 ki3 ki4
  have kp := hC.pc_
  have kr := hC.regs_
  have kw := hC.words_
  have kb := hC.reg Hbv.out
  have kd := hC.reg Hdv.out
  have fd := hC.rblk.frozen dn
  have fp := hC.blk.frozen 2
  have f14 : Q.frozen? ⟨rg, 14, none⟩ = false := hC.rblk.frozen 14
  have k14 : Q.cell? ⟨rg, 14, none⟩ = some (.int .u64 sp) := hC.reg Hsp.out
  have ki0 := Blk.cell hIB 0
  have ki1 := Blk.cell hIB 1
  have ki2 := Blk.cell hIB 2
  have ki3 := Blk.cell hIB 3
  have ki4 := Blk.cell hIB 4
  simp only [List.getElem?_toArray, List.getElem?_cons_zero, List.getElem?_cons_succ] at ki0 ki1 ki2 ki3 ki4
  have kt0 := Blk.cell hR 0
  have kt1 := Blk.cell hR 1
  have kt2 := Blk.cell hR 2
  have kt3 := Blk.cell hR 3
  have kt4 := Blk.cell hR 4
  simp only [List.getElem?_toArray, List.getElem?_cons_zero, List.getElem?_cons_succ] at kt0 kt1 kt2 kt3 kt4
  have ks0 := Blk.cell hS 0
  have ks1 := Blk.cell hS 1
  have ks2 := Blk.cell hS 2
  have ks3 := Blk.cell hS 3
  have ks4 := Blk.cell hS 4
  simp only [List.getElem?_toArray, List.getElem?_cons_zero, List.getElem?_cons_succ] at ks0 ks1 ks2 ks3 ks4
  have gr0 := Blk.frozen hR 0
  have gr1 := Blk.frozen hR 1
  have gr2 := Blk.frozen hR 2
  have gr3 := Blk.frozen hR 3
  have gr4 := Blk.frozen hR 4
  have hwQ : Below w.heap.size w Q := (HW.out.trans (HWX.out.mono HW.out.size)).trans ((HXY.out.mono (Nat.le_trans HW.out.size HWX.out.size)).trans (hYQ.mono (by have h1 := HW.out.size; have h2 := HWX.out.size; have h3 := HXY.out.size; omega)))
  have hRI : R + 2 ≤ I := by have h1 := HI.out; have h2 := HWX.out.size; omega
  have hqR : q < R ∧ rg < R ∧ wg < R := by have h1 := HRe.out; have h2 := H.out.blk.lt; have h3 := H.out.rblk.lt; have h4 := H.out.wblk.lt; omega
  have hne := hC.ne
  clear HCY HRY HSY HXY HCX HMX HRX HSX HWX HC HM HR HS HW HIB
  have HQ := Lib.hid hQ
  have HYQ := Lib.hid hYQ
  have HC := Lib.hid hC
  have HR := Lib.hid hR
  have HS := Lib.hid hS
  have HIB := Lib.hid hIB
  have HwQ := Lib.hid hwQ
  have Hne := Lib.hid hne
  clear hne hwQ hIB hS hR hC hYQ hQ
  obtain ⟨su, hsu⟩ : ∃ su, IntKind.u64.wrap (av + iv) = su := ⟨_, rfl⟩
  have hsu2 : (av + imm) % 18446744073709551616 = su := by rw [← hsu, ← hiv, IntKind.wrap_u64, IntKind.wrap_u64]; omega
  have Hsu2 := Lib.hid hsu2
  clear hsu2
  have hsb : ∀ kk : Nat, kk < ws.length → su ≠ base + 8 * kk := by rw [← Hsu2.out]; exact Hm.out
  have hsu : U64 su := by rw [← Hsu2.out]; unfold U64; omega
  have Hsb := Lib.hid hsb
  have Hsu := Lib.hid hsu
  clear hsu hsb
  go_wp2_with fail
  refine (where_out HC.out su Hsu.out Hsb.out).mono ?_
  rintro e w1 ⟨rfl, dq, rfl⟩
  obtain ⟨Q2, hQ2⟩ : ∃ Q2, Q2 = Q.drewN dq := ⟨_, rfl⟩
  rw [← hQ2]
  have hC := HC.out.drewN dq
  have hR := HR.out.drewN dq
  have hS := HS.out.drewN dq
  have hIB := HIB.out.drewN dq
  have hwQ := below_drewN HwQ.out dq
  rw [← hQ2] at hC hR hS hIB hwQ
  clear kp kr kw kb kd fd fp f14 k14 ki0 ki1 ki2 ki3 ki4 kt0 kt1 kt2 kt3 kt4 ks0 ks1 ks2 ks3 ks4 gr0 gr1 gr2 gr3 gr4
  clear HC HR HS HIB HwQ
  have kp := hC.pc_
  have kr := hC.regs_
  have kw := hC.words_
  have kb := hC.reg Hbv.out
  have kd := hC.reg Hdv.out
  have fd := hC.rblk.frozen dn
  have fp := hC.blk.frozen 2
  have f14 : Q2.frozen? ⟨rg, 14, none⟩ = false := hC.rblk.frozen 14
  have k14 : Q2.cell? ⟨rg, 14, none⟩ = some (.int .u64 sp) := hC.reg Hsp.out
  have ki0 := Blk.cell hIB 0
  have ki1 := Blk.cell hIB 1
  have ki2 := Blk.cell hIB 2
  have ki3 := Blk.cell hIB 3
  have ki4 := Blk.cell hIB 4
  simp only [List.getElem?_toArray, List.getElem?_cons_zero, List.getElem?_cons_succ] at ki0 ki1 ki2 ki3 ki4
  have kt0 := Blk.cell hR 0
  have kt1 := Blk.cell hR 1
  have kt2 := Blk.cell hR 2
  have kt3 := Blk.cell hR 3
  have kt4 := Blk.cell hR 4
  simp only [List.getElem?_toArray, List.getElem?_cons_zero, List.getElem?_cons_succ] at kt0 kt1 kt2 kt3 kt4
  have ks0 := Blk.cell hS 0
  have ks1 := Blk.cell hS 1
  have ks2 := Blk.cell hS 2
  have ks3 := Blk.cell hS 3
  have ks4 := Blk.cell hS 4
  simp only [List.getElem?_toArray, List.getElem?_cons_zero, List.getElem?_cons_succ] at ks0 ks1 ks2 ks3 ks4
  have gr0 := Blk.frozen hR 0
  have gr1 := Blk.frozen hR 1
  have gr2 := Blk.frozen hR 2
  have gr3 := Blk.frozen hR 3
  have gr4 := Blk.frozen hR 4
  have HQ2 := Lib.hid hQ2
  have HC := Lib.hid hC
  have HR := Lib.hid hR
  have HS := Lib.hid hS
  have HIB := Lib.hid hIB
  have HwQ := Lib.hid hwQ
  clear hwQ hIB hS hR hC hQ2
  go_wp2_with fail
  have hCV := HC.out
  have hRV := HR.out
  have hKV : Keeps (RefS q rg wg) w Q2 := Keeps.of_below HwQ.out (Nat.le_refl _)
  rw [← Hrx.out] at hCV
  have HCV := Lib.hid hCV
  have HKV := Lib.hid hKV
  have HRV := Lib.hid hRV
  clear hRV hKV hCV
  obtain ⟨r1, r2, r3⟩ := rend_laid HCV.out HRV.out hqR HKV.out (Nat.le_of_eq HRe.out.symm) (.int .i64 3) (.int .i64 0) (.int .i64 0) (.int .i64 0) (.int .i64 0)
  refine bodyPost_ret (results_cell_row rfl _ _ R 47 _ (0, 0) _ rfl r1 Try.underlying47 rfl (by kernel_rfl)) rfl ?_
  exact ⟨rfl, r2, r3⟩
set_option maxRecDepth 100000 in
set_option maxHeartbeats 4000000 in
theorem rstep_st_ok {w : World} {lo q rg wg B c : Nat} {A : Option Addr} {regs : List Int} {pc base : Int} {ws : List Int} {l : List MInstD} {k : Nat} {i : MInstD} (h : RefAt w lo q rg wg (.slice A l.length c) regs pc base ws) (hc : CodeM w B A c l) (hB : B ≤ lo) (hpc : pc = k) (hk : l[k]? = some i) (kk : Nat) (hv : kk < ws.length) (hm : (regs.getD i.a.toNat 0 + i.imm) % 18446744073709551616 = base + 8 * kk) (ho : i.op = 5) :
    Calls Try.prog 38 #[.pointer (some ⟨q, 0, none⟩)] w fun e w' => RStepTo w lo q rg wg (.slice A l.length c) base 0 0 0 0 0 regs (k + 1) (ws.set kk (regs.getD i.b.toNat 0)) e w' := by
  have hkl : k < l.length := (List.getElem?_eq_some_iff.1 hk).1
  have hfit := hc.fit
  obtain ⟨ad, hA, hadB, _⟩ := hc.rd.2 (by omega)
  subst hA
  have hwf := hc.wf i (List.mem_of_getElem? hk)
  obtain ⟨⟨d0, d1⟩, ⟨a0, a1⟩, ⟨b0, b1⟩⟩ := good_regs (hc.good i (List.mem_of_getElem? hk))
  obtain ⟨op, d, a, b, imm⟩ := i
  simp only at d0 d1 a0 a1 b0 b1 ho ⊢
  subst ho
  obtain ⟨im0, im1⟩ := hwf.imm
  simp only at im0 im1
  obtain ⟨dn, rfl⟩ := Int.eq_ofNat_of_zero_le d0
  obtain ⟨an, rfl⟩ := Int.eq_ofNat_of_zero_le a0
  obtain ⟨bn, rfl⟩ := Int.eq_ofNat_of_zero_le b0
  obtain ⟨av, hav⟩ : ∃ av, regs[an]? = some av := ⟨_, List.getElem?_eq_getElem (by rw [h.len]; omega)⟩
  obtain ⟨dv, hdv⟩ : ∃ dv, regs[dn]? = some dv := ⟨_, List.getElem?_eq_getElem (by rw [h.len]; omega)⟩
  obtain ⟨sp, hsp⟩ : ∃ sp, regs[14]? = some sp := ⟨_, List.getElem?_eq_getElem (by rw [h.len]; omega)⟩
  obtain ⟨bv, hbv⟩ : ∃ bv, regs[bn]? = some bv := ⟨_, List.getElem?_eq_getElem (by rw [h.len]; omega)⟩
  obtain ⟨hga, hgd, hgb, hgs⟩ : regs.getD an 0 = av ∧ regs.getD dn 0 = dv ∧ regs.getD bn 0 = bv ∧ regs.getD 14 0 = sp := by
    refine ⟨?_, ?_, ?_, ?_⟩ <;> rw [List.getD_eq_getElem?_getD] <;> simp only [hav, hdv, hbv, hsp, Option.getD_some]
  have uav := h.u64 _ (List.mem_of_getElem? hav)
  have udv := h.u64 _ (List.mem_of_getElem? hdv)
  have ubv := h.u64 _ (List.mem_of_getElem? hbv)
  have usp := h.u64 _ (List.mem_of_getElem? hsp)
  subst hpc
  try simp only [Int.toNat_natCast, hga, hgd, hgb, hgs]
  have hml := h.fit
  simp only [Int.toNat_natCast, hga] at hm
  have Hm := Lib.hid hm
  clear hm
  have n0 : ¬ ((k : Int) < 0) := by omega
  obtain ⟨n, hn⟩ : ∃ n, l.length = n := ⟨_, rfl⟩
  have hkn : k < n := by omega
  have hfn : n ≤ 10000000000 := by omega
  have n1 : ¬ ((n : Int) ≤ k) := by omega
  rw [hn] at h ⊢
  obtain ⟨regsX, hrx⟩ : ∃ regsX, regsX = regs := ⟨_, rfl⟩
  rw [← hrx]
  have hdb : (dn : Int) < 16 := by omega
  have hab : (an : Int) < 16 := by omega
  have hbb : (bn : Int) < 16 := by omega
  have H := Lib.hid h
  have Hc := Lib.hid hc
  have Hk := Lib.hid hk
  have Hwf := Lib.hid hwf
  have Hml := Lib.hid hml
  have Hga := Lib.hid hga
  have Hgd := Lib.hid hgd
  have Hgb := Lib.hid hgb
  have Hgs := Lib.hid hgs
  have Hav := Lib.hid hav
  have Hdv := Lib.hid hdv
  have Hbv := Lib.hid hbv
  have Hsp := Lib.hid hsp
  have Hn := Lib.hid hn
  have HB := Lib.hid hB
  have Hkl := Lib.hid hkl
  have Hfit := Lib.hid hfit
  have Hrx := Lib.hid hrx
  clear hrx hfit hkl hB hn hsp hbv hdv hav hgs hgb hgd hga hml hwf hk hc h
  go_enter Try.func38, Try.ntmps38
  go_upto_region 2 with fail
  have hR1 := Blk.new w 47 #[.int .i64 0, .int .i64 0, .int .i64 0, .int .i64 0, .int .i64 0]
  have hR := hR1.alloc (.cells #[.int .i64 3, .int .i64 0, .int .i64 0, .int .i64 0, .int .i64 0] 47)
  have hS := Blk.new (w.alloc (.cells #[.int .i64 0, .int .i64 0, .int .i64 0, .int .i64 0, .int .i64 0] 47)) 47 #[.int .i64 3, .int .i64 0, .int .i64 0, .int .i64 0, .int .i64 0]
  have hW := ((Below.refl w.heap.size w).alloc (Nat.le_refl _) (.cells #[.int .i64 0, .int .i64 0, .int .i64 0, .int .i64 0, .int .i64 0] 47)).alloc (by simp) (.cells #[.int .i64 3, .int .i64 0, .int .i64 0, .int .i64 0, .int .i64 0] 47)
  rw [World.size_alloc] at hS
  obtain ⟨W, hWe⟩ : ∃ W, W = (w.alloc (.cells #[.int .i64 0, .int .i64 0, .int .i64 0, .int .i64 0, .int .i64 0] 47)).alloc (.cells #[.int .i64 3, .int .i64 0, .int .i64 0, .int .i64 0, .int .i64 0] 47) := ⟨_, rfl⟩
  obtain ⟨R, hRe⟩ : ∃ R, R = w.heap.size := ⟨_, rfl⟩
  rw [← hWe] at hR hS hW ⊢
  rw [← hRe] at hR hS ⊢
  have hC := H.out.below (hW)
  have hM := Hc.out.keep (Keeps.of_below (S := fun _ => False) hW (Nat.le_refl _)) (by have := H.out.loLt; have := HB.out; omega) (fun _ h => h.elim)
  have kc := hC.code
  have kp := hC.pc_
  have kr := hC.regs_
  obtain ⟨m0, m1, m2, m3, m4⟩ := mi_cells hM.rd Hk.out (by rw [Hn.out]; omega)
  simp only at m0 m1 m2 m3 m4
  have hWs : R + 2 ≤ W.heap.size := by have := hS.lt; omega
  have HWe := Lib.hid hWe
  have HRe := Lib.hid hRe
  have HC := Lib.hid hC
  have HM := Lib.hid hM
  have HR := Lib.hid hR
  have HS := Lib.hid hS
  have HW := Lib.hid hW
  clear hW hS hR hM hC hRe hWe
  go_quiet (fail)
  go_upto_region 4 with fail
  obtain ⟨X, hX⟩ : ∃ X, X = W.drewN nq := ⟨_, rfl⟩
  have hWX : Below W.heap.size W X := by rw [hX]; exact below_drewN (Below.refl _ W) nq
  rw [← hX]
  have hC := HC.out.below hWX
  have hM := HM.out.keep (Keeps.of_below (S := fun _ => False) hWX (Nat.le_refl _)) (by have := HC.out.loLt; have := HB.out; omega) (fun _ h => h.elim)
  have hR := HR.out.below hWX HR.out.lt
  have hS := HS.out.below hWX HS.out.lt
  clear kc kp kr m0 m1 m2 m3 m4
  have kc := hC.code
  have kp := hC.pc_
  obtain ⟨m0, m1, m2, m3, m4⟩ := mi_cells hM.rd Hk.out (by rw [Hn.out]; omega)
  simp only at m0 m1 m2 m3 m4
  have hXs := hWX.size
  have hqX : q < X.heap.size := hC.blk.lt
  have hadX : (ad.add (k * 5)).block < X.heap.size := by have h2 := hC.loLt; have h3 := HB.out; rw [block_of_add]; omega
  have HX := Lib.hid hX
  have HCX := Lib.hid hC
  have HMX := Lib.hid hM
  have HRX := Lib.hid hR
  have HSX := Lib.hid hS
  have HWX := Lib.hid hWX
  clear hWX hS hR hM hC hX
  refine wp_region_noPanic ?_
  refine wp_region_held_drew (S := fun W => W.cell? ⟨q, 0, none⟩ = some (.slice (some ad) n c) ∧ W.cell? ⟨q, 2, none⟩ = some (.int .i64 k) ∧ W.cell? (ad.add (k * 5)) = some (.int .u8 5) ∧ W.cell? ⟨(ad.add (k * 5)).block, (ad.add (k * 5)).off + 1, none⟩ = some (.int .i64 dn) ∧ W.cell? ⟨(ad.add (k * 5)).block, (ad.add (k * 5)).off + 2, none⟩ = some (.int .i64 an) ∧ W.cell? ⟨(ad.add (k * 5)).block, (ad.add (k * 5)).off + 3, none⟩ = some (.int .i64 bn) ∧ W.cell? ⟨(ad.add (k * 5)).block, (ad.add (k * 5)).off + 4, none⟩ = some (.int .i32 imm)) (by kernel_rfl) ⟨kc, kp, m0, m1, m2, m3, m4⟩ (fun hHeld => ?_)
  refine wpAnyH_take (i := 0) (v := ?_) rfl (by kernel_rfl) (by kernel_rfl) (by kernel_rfl) (fun _ _ _ h => h) (Or.inl ⟨by rfl, ?_⟩) (by assumption) ?_
  rotate_left
  · intro w hSw; (try dsimp only at hSw); go_simp; try with_reducible rfl
  simp only [Act.put, List.getElem_toArray, List.getElem_cons_zero, List.getElem_cons_succ, List.setIfInBounds_toArray, List.set_cons_zero, List.set_cons_succ]
  refine wpAnyH_take (i := 1) (v := ?_) rfl (by kernel_rfl) (by kernel_rfl) (by kernel_rfl) (fun _ _ _ h => h) (Or.inl ⟨by rfl, ?_⟩) (by assumption) ?_
  rotate_left
  · intro w hSw; (try dsimp only at hSw); go_simp; try with_reducible rfl
  simp only [Act.put, List.getElem_toArray, List.getElem_cons_zero, List.getElem_cons_succ, List.setIfInBounds_toArray, List.set_cons_zero, List.set_cons_succ]
  refine wpAnyH_take (i := 2) (v := ?_) rfl (by kernel_rfl) (by kernel_rfl) (by kernel_rfl) (fun _ _ _ h => h) (Or.inl ⟨by rfl, ?_⟩) (by assumption) ?_
  rotate_left
  · intro w hSw; (try dsimp only at hSw); go_simp; try with_reducible rfl
  simp only [Act.put, List.getElem_toArray, List.getElem_cons_zero, List.getElem_cons_succ, List.setIfInBounds_toArray, List.set_cons_zero, List.set_cons_succ]
  refine wpAnyH_take (i := 3) (v := ?_) rfl (by kernel_rfl) (by kernel_rfl) (by kernel_rfl) (fun _ _ _ h => h) (Or.inl ⟨by rfl, ?_⟩) (by assumption) ?_
  rotate_left
  · intro w hSw; (try dsimp only at hSw); go_simp; try with_reducible rfl
  simp only [Act.put, List.getElem_toArray, List.getElem_cons_zero, List.getElem_cons_succ, List.setIfInBounds_toArray, List.set_cons_zero, List.set_cons_succ]
  refine wpAnyH_take (i := 4) (v := ?_) rfl (by kernel_rfl) (by kernel_rfl) (by kernel_rfl) (fun _ _ _ h => h) (Or.inl ⟨by rfl, ?_⟩) (by assumption) ?_
  rotate_left
  · intro w hSw; (try dsimp only at hSw); go_simp; try with_reducible rfl
  simp only [Act.put, List.getElem_toArray, List.getElem_cons_zero, List.getElem_cons_succ, List.setIfInBounds_toArray, List.set_cons_zero, List.set_cons_succ]
  refine wpAnyH_take (i := 5) (v := ?_) rfl (by kernel_rfl) (by kernel_rfl) (by kernel_rfl) (fun _ _ _ h => h) (Or.inl ⟨by rfl, ?_⟩) (by assumption) ?_
  rotate_left
  · intro w hSw; (try dsimp only at hSw); go_simp; try with_reducible rfl
  simp only [Act.put, List.getElem_toArray, List.getElem_cons_zero, List.getElem_cons_succ, List.setIfInBounds_toArray, List.set_cons_zero, List.set_cons_succ]
  refine wpAnyH_take (i := 6) (v := ?_) rfl (by kernel_rfl) (by kernel_rfl) (by kernel_rfl) (fun _ _ _ h => h) (Or.inl ⟨by rfl, ?_⟩) (by assumption) ?_
  rotate_left
  · intro w hSw; (try dsimp only at hSw); go_simp; try with_reducible rfl
  simp only [Act.put, List.getElem_toArray, List.getElem_cons_zero, List.getElem_cons_succ, List.setIfInBounds_toArray, List.set_cons_zero, List.set_cons_succ]
  refine wpAnyH_take (i := 7) (v := ?_) rfl (by kernel_rfl) (by kernel_rfl) (by kernel_rfl) (fun _ _ _ h => h) (Or.inl ⟨by rfl, ?_⟩) (by assumption) ?_
  rotate_left
  · intro w hSw; (try dsimp only at hSw); go_simp; try with_reducible rfl
  simp only [Act.put, List.getElem_toArray, List.getElem_cons_zero, List.getElem_cons_succ, List.setIfInBounds_toArray, List.set_cons_zero, List.set_cons_succ]
  refine wpAnyH_take (i := 8) (v := ?_) rfl (by kernel_rfl) (by kernel_rfl) (by kernel_rfl) (fun _ _ _ h => h) (Or.inl ⟨by rfl, ?_⟩) (by assumption) ?_
  rotate_left
  · intro w hSw; (try dsimp only at hSw); go_simp; try with_reducible rfl
  simp only [Act.put, List.getElem_toArray, List.getElem_cons_zero, List.getElem_cons_succ, List.setIfInBounds_toArray, List.set_cons_zero, List.set_cons_succ]
  refine wpAnyH_take (i := 9) (v := ?_) rfl (by kernel_rfl) (by kernel_rfl) (by kernel_rfl) (fun _ _ _ h => h) (Or.inl ⟨by rfl, ?_⟩) (by assumption) ?_
  rotate_left
  · intro w hSw; (try dsimp only at hSw); go_simp; try with_reducible rfl
  simp only [Act.put, List.getElem_toArray, List.getElem_cons_zero, List.getElem_cons_succ, List.setIfInBounds_toArray, List.set_cons_zero, List.set_cons_succ]
  refine wpAnyH_ready (rs := [10]) (by kernel_rfl) (by simp) ?_
  refine AllReadyH.cons rfl (fun K hK => ?_) AllReadyH.nil
  go_simp
  refine hK.out _ _ ⟨(World.cell?_alloc_lt X _ ⟨q, 0, none⟩ hqX).trans kc, (World.cell?_alloc_lt X _ ⟨q, 2, none⟩ hqX).trans kp, (World.cell?_alloc_lt X _ (ad.add (k * 5)) hadX).trans m0, (World.cell?_alloc_lt X _ ⟨(ad.add (k * 5)).block, (ad.add (k * 5)).off + 1, none⟩ hadX).trans m1, (World.cell?_alloc_lt X _ ⟨(ad.add (k * 5)).block, (ad.add (k * 5)).off + 2, none⟩ hadX).trans m2, (World.cell?_alloc_lt X _ ⟨(ad.add (k * 5)).block, (ad.add (k * 5)).off + 3, none⟩ hadX).trans m3, (World.cell?_alloc_lt X _ ⟨(ad.add (k * 5)).block, (ad.add (k * 5)).off + 4, none⟩ hadX).trans m4⟩ (fun hHeld2 => ?_)
  refine wpAnyH_ready (rs := [11]) (by kernel_rfl) (by simp) ?_
  refine AllReadyH.cons rfl (fun K hK => ?_) AllReadyH.nil
  go_simp
  refine hK.out _ _ ⟨(World.cell?_alloc_lt X _ ⟨q, 0, none⟩ hqX).trans kc, (World.cell?_alloc_lt X _ ⟨q, 2, none⟩ hqX).trans kp, (World.cell?_alloc_lt X _ (ad.add (k * 5)) hadX).trans m0, (World.cell?_alloc_lt X _ ⟨(ad.add (k * 5)).block, (ad.add (k * 5)).off + 1, none⟩ hadX).trans m1, (World.cell?_alloc_lt X _ ⟨(ad.add (k * 5)).block, (ad.add (k * 5)).off + 2, none⟩ hadX).trans m2, (World.cell?_alloc_lt X _ ⟨(ad.add (k * 5)).block, (ad.add (k * 5)).off + 3, none⟩ hadX).trans m3, (World.cell?_alloc_lt X _ ⟨(ad.add (k * 5)).block, (ad.add (k * 5)).off + 4, none⟩ hadX).trans m4⟩ (fun hHeld3 => ?_)
  clear hK K hHeld hHeld2 hHeld3
  refine wpAnyH_done (by kernel_rfl) ?_ _
  refine NoPanic.normal ?_
  obtain ⟨I, hI⟩ : ∃ I, I = X.heap.size := ⟨_, rfl⟩
  have hIB := (Blk.new X 30 #[.int .u8 5, .int .i64 dn, .int .i64 an, .int .i64 bn, .int .i32 imm]).drew
  obtain ⟨Y, hY⟩ : ∃ Y, Y = (X.alloc (.cells #[.int .u8 5, .int .i64 dn, .int .i64 an, .int .i64 bn, .int .i32 imm] 30)).drew := ⟨_, rfl⟩
  have hXY : Below X.heap.size X Y := by rw [hY]; exact ((Below.refl _ X).alloc (Nat.le_refl _) _).drew
  rw [← hY] at hIB ⊢
  rw [← hI] at hIB ⊢
  have hC := HCX.out.below hXY
  have hR := HRX.out.below hXY HRX.out.lt
  have hS := HSX.out.below hXY HSX.out.lt
  clear kc kp m0 m1 m2 m3 m4
  have kp := hC.pc_
  have kr := hC.regs_
  have ka := hC.reg Hav.out
  have ki0 := Blk.cell hIB 0
  have ki1 := Blk.cell hIB 1
  have ki2 := Blk.cell hIB 2
  have ki3 := Blk.cell hIB 3
  have ki4 := Blk.cell hIB 4
  simp only [List.getElem?_toArray, List.getElem?_cons_zero, List.getElem?_cons_succ] at ki0 ki1 ki2 ki3 ki4
  have hXYs := hXY.size
  have hIl := hIB.lt
  obtain ⟨iv, hiv⟩ : ∃ iv, IntKind.u64.wrap imm = iv := ⟨_, rfl⟩
  have HI := Lib.hid hI
  have HY := Lib.hid hY
  have HCY := Lib.hid hC
  have HRY := Lib.hid hR
  have HSY := Lib.hid hS
  have HIB := Lib.hid hIB
  have HXY := Lib.hid hXY
  clear hXY hIB hS hR hC hY hI
  go_upto_region 5 with fail
  go_quiet (fail)
  obtain ⟨Q, hQ⟩ : ∃ Q, Q = Y.drewN nq := ⟨_, rfl⟩
  have hYQ : Below Y.heap.size Y Q := by rw [hQ]; exact below_drewN (Below.refl _ Y) nq
  rw [← hQ]
  have hC := HCY.out.below hYQ
  have hR := HRY.out.below hYQ HRY.out.lt
  have hS := HSY.out.below hYQ HSY.out.lt
  have hIB := HIB.out.below hYQ HIB.out.lt
  clear kp ka kr ki0 ki1 ki2 ki3 ki4
  have kp := hC.pc_
  have kr := hC.regs_
  have kw := hC.words_
  have kb := hC.reg Hbv.out
  have kd := hC.reg Hdv.out
  have fd := hC.rblk.frozen dn
  have fp := hC.blk.frozen 2
  have f14 : Q.frozen? ⟨rg, 14, none⟩ = false := hC.rblk.frozen 14
  have k14 : Q.cell? ⟨rg, 14, none⟩ = some (.int .u64 sp) := hC.reg Hsp.out
  have ki0 := Blk.cell hIB 0
  have ki1 := Blk.cell hIB 1
  have ki2 := Blk.cell hIB 2
  have ki3 := Blk.cell hIB 3
  have ki4 := Blk.cell hIB 4
  simp only [List.getElem?_toArray, List.getElem?_cons_zero, List.getElem?_cons_succ] at ki0 ki1 ki2 ki3 ki4
  have kt0 := Blk.cell hR 0
  have kt1 := Blk.cell hR 1
  have kt2 := Blk.cell hR 2
  have kt3 := Blk.cell hR 3
  have kt4 := Blk.cell hR 4
  simp only [List.getElem?_toArray, List.getElem?_cons_zero, List.getElem?_cons_succ] at kt0 kt1 kt2 kt3 kt4
  have ks0 := Blk.cell hS 0
  have ks1 := Blk.cell hS 1
  have ks2 := Blk.cell hS 2
  have ks3 := Blk.cell hS 3
  have ks4 := Blk.cell hS 4
  simp only [List.getElem?_toArray, List.getElem?_cons_zero, List.getElem?_cons_succ] at ks0 ks1 ks2 ks3 ks4
  have gr0 := Blk.frozen hR 0
  have gr1 := Blk.frozen hR 1
  have gr2 := Blk.frozen hR 2
  have gr3 := Blk.frozen hR 3
  have gr4 := Blk.frozen hR 4
  have hwQ : Below w.heap.size w Q := (HW.out.trans (HWX.out.mono HW.out.size)).trans ((HXY.out.mono (Nat.le_trans HW.out.size HWX.out.size)).trans (hYQ.mono (by have h1 := HW.out.size; have h2 := HWX.out.size; have h3 := HXY.out.size; omega)))
  have hRI : R + 2 ≤ I := by have h1 := HI.out; have h2 := HWX.out.size; omega
  have hqR : q < R ∧ rg < R ∧ wg < R := by have h1 := HRe.out; have h2 := H.out.blk.lt; have h3 := H.out.rblk.lt; have h4 := H.out.wblk.lt; omega
  have hne := hC.ne
  clear HCY HRY HSY HXY HCX HMX HRX HSX HWX HC HM HR HS HW HIB
  have HQ := Lib.hid hQ
  have HYQ := Lib.hid hYQ
  have HC := Lib.hid hC
  have HR := Lib.hid hR
  have HS := Lib.hid hS
  have HIB := Lib.hid hIB
  have HwQ := Lib.hid hwQ
  have Hne := Lib.hid hne
  clear hne hwQ hIB hS hR hC hYQ hQ
  obtain ⟨su, hsu⟩ : ∃ su, IntKind.u64.wrap (av + iv) = su := ⟨_, rfl⟩
  have hsu2 : (av + imm) % 18446744073709551616 = su := by rw [← hsu, ← hiv, IntKind.wrap_u64, IntKind.wrap_u64]; omega
  have Hsu2 := Lib.hid hsu2
  clear hsu2
  have hsb : su = base + 8 * kk := by rw [← Hsu2.out, Hm.out]
  have Hsb := Lib.hid hsb
  clear hsb
  obtain ⟨wn, hwn⟩ : ∃ wn, ws.length = wn := ⟨_, rfl⟩
  have hkw : kk < wn := by omega
  have hwn65 : 8 * wn ≤ 65536 := by have := Hml.out.2.2.2; omega
  rw [hwn] at kw
  have Hwn := Lib.hid hwn
  clear hwn
  have Hubv := Lib.hid ubv
  clear ubv
  obtain ⟨y, hy⟩ : ∃ y, ws[kk]? = some y := ⟨_, List.getElem?_eq_getElem hv⟩
  have Hy := Lib.hid hy
  clear hy
  go_wp2_with fail
  refine (where_in HC.out su kk hv Hsb.out).mono ?_
  rintro e w1 ⟨rfl, dq, rfl⟩
  obtain ⟨Q2, hQ2⟩ : ∃ Q2, Q2 = Q.drewN dq := ⟨_, rfl⟩
  rw [← hQ2]
  have hC := HC.out.drewN dq
  have hR := HR.out.drewN dq
  have hS := HS.out.drewN dq
  have hIB := HIB.out.drewN dq
  have hwQ := below_drewN HwQ.out dq
  rw [← hQ2] at hC hR hS hIB hwQ
  clear kp kr kw kb kd fd fp f14 k14 ki0 ki1 ki2 ki3 ki4 kt0 kt1 kt2 kt3 kt4 ks0 ks1 ks2 ks3 ks4 gr0 gr1 gr2 gr3 gr4
  clear HC HR HS HIB HwQ
  have kp := hC.pc_
  have kr := hC.regs_
  have kw := hC.words_
  have kb := hC.reg Hbv.out
  have kd := hC.reg Hdv.out
  have fd := hC.rblk.frozen dn
  have fp := hC.blk.frozen 2
  have f14 : Q2.frozen? ⟨rg, 14, none⟩ = false := hC.rblk.frozen 14
  have k14 : Q2.cell? ⟨rg, 14, none⟩ = some (.int .u64 sp) := hC.reg Hsp.out
  have ki0 := Blk.cell hIB 0
  have ki1 := Blk.cell hIB 1
  have ki2 := Blk.cell hIB 2
  have ki3 := Blk.cell hIB 3
  have ki4 := Blk.cell hIB 4
  simp only [List.getElem?_toArray, List.getElem?_cons_zero, List.getElem?_cons_succ] at ki0 ki1 ki2 ki3 ki4
  have kt0 := Blk.cell hR 0
  have kt1 := Blk.cell hR 1
  have kt2 := Blk.cell hR 2
  have kt3 := Blk.cell hR 3
  have kt4 := Blk.cell hR 4
  simp only [List.getElem?_toArray, List.getElem?_cons_zero, List.getElem?_cons_succ] at kt0 kt1 kt2 kt3 kt4
  have ks0 := Blk.cell hS 0
  have ks1 := Blk.cell hS 1
  have ks2 := Blk.cell hS 2
  have ks3 := Blk.cell hS 3
  have ks4 := Blk.cell hS 4
  simp only [List.getElem?_toArray, List.getElem?_cons_zero, List.getElem?_cons_succ] at ks0 ks1 ks2 ks3 ks4
  have gr0 := Blk.frozen hR 0
  have gr1 := Blk.frozen hR 1
  have gr2 := Blk.frozen hR 2
  have gr3 := Blk.frozen hR 3
  have gr4 := Blk.frozen hR 4
  have HQ2 := Lib.hid hQ2
  have HC := Lib.hid hC
  have HR := Lib.hid hR
  have HS := Lib.hid hS
  have HIB := Lib.hid hIB
  have HwQ := Lib.hid hwQ
  clear hwQ hIB hS hR hC hQ2
  rw [Hwn.out] at kw
  have hkI : (kk : Int) < wn := by omega
  have kv : Q2.cell? ⟨wg, kk, none⟩ = some (.int .u64 y) := HC.out.word Hy.out
  have fv := HC.out.wblk.frozen kk
  go_upto_region 28 with fail
  go_region
  obtain ⟨V, hV⟩ : ∃ V, V = (Q2.setCell ⟨wg, kk, none⟩ (.int .u64 bv)).drew := ⟨_, rfl⟩
  rw [← hV]
  have hCV : RefAt V lo q rg wg (.slice (some ad) n c) regsX k base (ws.set kk bv) := by
    rw [hV, Hrx.out]
    skip
    exact (HC.out.setWord (r := kk) Hubv.out).drewN 1
  have hKQ : Keeps (RefS q rg wg) Q2 V := by
    rw [hV]
    exact ((Keeps.refl (RefS q rg wg) Q2).setCell (p := ⟨wg, kk, none⟩) (.inl (by first | exact Or.inr (Or.inl rfl) | exact Or.inr (Or.inr rfl))) _).drew
  have hRV : Blk V R 47 #[.int .i64 0, .int .i64 0, .int .i64 0, .int .i64 0, .int .i64 0] := hKQ.blk HR.out (by rintro (e | e | e) <;> omega)
  have hKV : Keeps (RefS q rg wg) w V := (Keeps.of_below HwQ.out (Nat.le_refl _)).trans hKQ (fun _ h => .inl h)
  clear kv fv kp kr kw kb kd fd fp f14 k14 ki0 ki1 ki2 ki3 ki4 kt0 kt1 kt2 kt3 kt4 ks0 ks1 ks2 ks3 ks4 gr0 gr1 gr2 gr3 gr4
  have kp := hCV.pc_
  have fp := hCV.blk.frozen 2
  have kt0 := Blk.cell hRV 0
  have kt1 := Blk.cell hRV 1
  have kt2 := Blk.cell hRV 2
  have kt3 := Blk.cell hRV 3
  have kt4 := Blk.cell hRV 4
  simp only [List.getElem?_toArray, List.getElem?_cons_zero, List.getElem?_cons_succ] at kt0 kt1 kt2 kt3 kt4
  have gr0 := Blk.frozen hRV 0
  have gr1 := Blk.frozen hRV 1
  have gr2 := Blk.frozen hRV 2
  have gr3 := Blk.frozen hRV 3
  have gr4 := Blk.frozen hRV 4
  have HV := Lib.hid hV
  have HCV := Lib.hid hCV
  have HKQ := Lib.hid hKQ
  have HKV := Lib.hid hKV
  have HRV := Lib.hid hRV
  clear hRV hKV hKQ hCV hV
  go_wp2_with fail
  obtain ⟨g1, g2, g3⟩ := rend_pc HCV.out HRV.out hqR HKV.out (pc' := k + 1) (by omega)
  obtain ⟨r1, r2, r3⟩ := rend_laid g2 g1 hqR g3 (Nat.le_of_eq HRe.out.symm) (.int .i64 0) (.int .i64 0) (.int .i64 0) (.int .i64 0) (.int .i64 0)
  refine bodyPost_ret (results_cell_row rfl _ _ R 47 _ (0, 0) _ rfl r1 Try.underlying47 rfl (by kernel_rfl)) rfl ?_
  exact ⟨rfl, r2, r3⟩
set_option maxRecDepth 100000 in
set_option maxHeartbeats 4000000 in
theorem rstep_st_bad {w : World} {lo q rg wg B c : Nat} {A : Option Addr} {regs : List Int} {pc base : Int} {ws : List Int} {l : List MInstD} {k : Nat} {i : MInstD} (h : RefAt w lo q rg wg (.slice A l.length c) regs pc base ws) (hc : CodeM w B A c l) (hB : B ≤ lo) (hpc : pc = k) (hk : l[k]? = some i) (hm : ∀ kk : Nat, kk < ws.length → (regs.getD i.a.toNat 0 + i.imm) % 18446744073709551616 ≠ base + 8 * kk) (ho : i.op = 5) :
    Calls Try.prog 38 #[.pointer (some ⟨q, 0, none⟩)] w fun e w' => RStepTo w lo q rg wg (.slice A l.length c) base 3 0 0 0 0 regs k ws e w' := by
  have hkl : k < l.length := (List.getElem?_eq_some_iff.1 hk).1
  have hfit := hc.fit
  obtain ⟨ad, hA, hadB, _⟩ := hc.rd.2 (by omega)
  subst hA
  have hwf := hc.wf i (List.mem_of_getElem? hk)
  obtain ⟨⟨d0, d1⟩, ⟨a0, a1⟩, ⟨b0, b1⟩⟩ := good_regs (hc.good i (List.mem_of_getElem? hk))
  obtain ⟨op, d, a, b, imm⟩ := i
  simp only at d0 d1 a0 a1 b0 b1 ho ⊢
  subst ho
  obtain ⟨im0, im1⟩ := hwf.imm
  simp only at im0 im1
  obtain ⟨dn, rfl⟩ := Int.eq_ofNat_of_zero_le d0
  obtain ⟨an, rfl⟩ := Int.eq_ofNat_of_zero_le a0
  obtain ⟨bn, rfl⟩ := Int.eq_ofNat_of_zero_le b0
  obtain ⟨av, hav⟩ : ∃ av, regs[an]? = some av := ⟨_, List.getElem?_eq_getElem (by rw [h.len]; omega)⟩
  obtain ⟨dv, hdv⟩ : ∃ dv, regs[dn]? = some dv := ⟨_, List.getElem?_eq_getElem (by rw [h.len]; omega)⟩
  obtain ⟨sp, hsp⟩ : ∃ sp, regs[14]? = some sp := ⟨_, List.getElem?_eq_getElem (by rw [h.len]; omega)⟩
  obtain ⟨bv, hbv⟩ : ∃ bv, regs[bn]? = some bv := ⟨_, List.getElem?_eq_getElem (by rw [h.len]; omega)⟩
  obtain ⟨hga, hgd, hgb, hgs⟩ : regs.getD an 0 = av ∧ regs.getD dn 0 = dv ∧ regs.getD bn 0 = bv ∧ regs.getD 14 0 = sp := by
    refine ⟨?_, ?_, ?_, ?_⟩ <;> rw [List.getD_eq_getElem?_getD] <;> simp only [hav, hdv, hbv, hsp, Option.getD_some]
  have uav := h.u64 _ (List.mem_of_getElem? hav)
  have udv := h.u64 _ (List.mem_of_getElem? hdv)
  have ubv := h.u64 _ (List.mem_of_getElem? hbv)
  have usp := h.u64 _ (List.mem_of_getElem? hsp)
  subst hpc
  try simp only [Int.toNat_natCast, hga, hgd, hgb, hgs]
  have hml := h.fit
  simp only [Int.toNat_natCast, hga] at hm
  have Hm := Lib.hid hm
  clear hm
  have n0 : ¬ ((k : Int) < 0) := by omega
  obtain ⟨n, hn⟩ : ∃ n, l.length = n := ⟨_, rfl⟩
  have hkn : k < n := by omega
  have hfn : n ≤ 10000000000 := by omega
  have n1 : ¬ ((n : Int) ≤ k) := by omega
  rw [hn] at h ⊢
  obtain ⟨regsX, hrx⟩ : ∃ regsX, regsX = regs := ⟨_, rfl⟩
  rw [← hrx]
  have hdb : (dn : Int) < 16 := by omega
  have hab : (an : Int) < 16 := by omega
  have hbb : (bn : Int) < 16 := by omega
  have H := Lib.hid h
  have Hc := Lib.hid hc
  have Hk := Lib.hid hk
  have Hwf := Lib.hid hwf
  have Hml := Lib.hid hml
  have Hga := Lib.hid hga
  have Hgd := Lib.hid hgd
  have Hgb := Lib.hid hgb
  have Hgs := Lib.hid hgs
  have Hav := Lib.hid hav
  have Hdv := Lib.hid hdv
  have Hbv := Lib.hid hbv
  have Hsp := Lib.hid hsp
  have Hn := Lib.hid hn
  have HB := Lib.hid hB
  have Hkl := Lib.hid hkl
  have Hfit := Lib.hid hfit
  have Hrx := Lib.hid hrx
  clear hrx hfit hkl hB hn hsp hbv hdv hav hgs hgb hgd hga hml hwf hk hc h
  go_enter Try.func38, Try.ntmps38
  go_upto_region 2 with fail
  have hR1 := Blk.new w 47 #[.int .i64 0, .int .i64 0, .int .i64 0, .int .i64 0, .int .i64 0]
  have hR := hR1.alloc (.cells #[.int .i64 3, .int .i64 0, .int .i64 0, .int .i64 0, .int .i64 0] 47)
  have hS := Blk.new (w.alloc (.cells #[.int .i64 0, .int .i64 0, .int .i64 0, .int .i64 0, .int .i64 0] 47)) 47 #[.int .i64 3, .int .i64 0, .int .i64 0, .int .i64 0, .int .i64 0]
  have hW := ((Below.refl w.heap.size w).alloc (Nat.le_refl _) (.cells #[.int .i64 0, .int .i64 0, .int .i64 0, .int .i64 0, .int .i64 0] 47)).alloc (by simp) (.cells #[.int .i64 3, .int .i64 0, .int .i64 0, .int .i64 0, .int .i64 0] 47)
  rw [World.size_alloc] at hS
  obtain ⟨W, hWe⟩ : ∃ W, W = (w.alloc (.cells #[.int .i64 0, .int .i64 0, .int .i64 0, .int .i64 0, .int .i64 0] 47)).alloc (.cells #[.int .i64 3, .int .i64 0, .int .i64 0, .int .i64 0, .int .i64 0] 47) := ⟨_, rfl⟩
  obtain ⟨R, hRe⟩ : ∃ R, R = w.heap.size := ⟨_, rfl⟩
  rw [← hWe] at hR hS hW ⊢
  rw [← hRe] at hR hS ⊢
  have hC := H.out.below (hW)
  have hM := Hc.out.keep (Keeps.of_below (S := fun _ => False) hW (Nat.le_refl _)) (by have := H.out.loLt; have := HB.out; omega) (fun _ h => h.elim)
  have kc := hC.code
  have kp := hC.pc_
  have kr := hC.regs_
  obtain ⟨m0, m1, m2, m3, m4⟩ := mi_cells hM.rd Hk.out (by rw [Hn.out]; omega)
  simp only at m0 m1 m2 m3 m4
  have hWs : R + 2 ≤ W.heap.size := by have := hS.lt; omega
  have HWe := Lib.hid hWe
  have HRe := Lib.hid hRe
  have HC := Lib.hid hC
  have HM := Lib.hid hM
  have HR := Lib.hid hR
  have HS := Lib.hid hS
  have HW := Lib.hid hW
  clear hW hS hR hM hC hRe hWe
  go_quiet (fail)
  go_upto_region 4 with fail
  obtain ⟨X, hX⟩ : ∃ X, X = W.drewN nq := ⟨_, rfl⟩
  have hWX : Below W.heap.size W X := by rw [hX]; exact below_drewN (Below.refl _ W) nq
  rw [← hX]
  have hC := HC.out.below hWX
  have hM := HM.out.keep (Keeps.of_below (S := fun _ => False) hWX (Nat.le_refl _)) (by have := HC.out.loLt; have := HB.out; omega) (fun _ h => h.elim)
  have hR := HR.out.below hWX HR.out.lt
  have hS := HS.out.below hWX HS.out.lt
  clear kc kp kr m0 m1 m2 m3 m4
  have kc := hC.code
  have kp := hC.pc_
  obtain ⟨m0, m1, m2, m3, m4⟩ := mi_cells hM.rd Hk.out (by rw [Hn.out]; omega)
  simp only at m0 m1 m2 m3 m4
  have hXs := hWX.size
  have hqX : q < X.heap.size := hC.blk.lt
  have hadX : (ad.add (k * 5)).block < X.heap.size := by have h2 := hC.loLt; have h3 := HB.out; rw [block_of_add]; omega
  have HX := Lib.hid hX
  have HCX := Lib.hid hC
  have HMX := Lib.hid hM
  have HRX := Lib.hid hR
  have HSX := Lib.hid hS
  have HWX := Lib.hid hWX
  clear hWX hS hR hM hC hX
  refine wp_region_noPanic ?_
  refine wp_region_held_drew (S := fun W => W.cell? ⟨q, 0, none⟩ = some (.slice (some ad) n c) ∧ W.cell? ⟨q, 2, none⟩ = some (.int .i64 k) ∧ W.cell? (ad.add (k * 5)) = some (.int .u8 5) ∧ W.cell? ⟨(ad.add (k * 5)).block, (ad.add (k * 5)).off + 1, none⟩ = some (.int .i64 dn) ∧ W.cell? ⟨(ad.add (k * 5)).block, (ad.add (k * 5)).off + 2, none⟩ = some (.int .i64 an) ∧ W.cell? ⟨(ad.add (k * 5)).block, (ad.add (k * 5)).off + 3, none⟩ = some (.int .i64 bn) ∧ W.cell? ⟨(ad.add (k * 5)).block, (ad.add (k * 5)).off + 4, none⟩ = some (.int .i32 imm)) (by kernel_rfl) ⟨kc, kp, m0, m1, m2, m3, m4⟩ (fun hHeld => ?_)
  refine wpAnyH_take (i := 0) (v := ?_) rfl (by kernel_rfl) (by kernel_rfl) (by kernel_rfl) (fun _ _ _ h => h) (Or.inl ⟨by rfl, ?_⟩) (by assumption) ?_
  rotate_left
  · intro w hSw; (try dsimp only at hSw); go_simp; try with_reducible rfl
  simp only [Act.put, List.getElem_toArray, List.getElem_cons_zero, List.getElem_cons_succ, List.setIfInBounds_toArray, List.set_cons_zero, List.set_cons_succ]
  refine wpAnyH_take (i := 1) (v := ?_) rfl (by kernel_rfl) (by kernel_rfl) (by kernel_rfl) (fun _ _ _ h => h) (Or.inl ⟨by rfl, ?_⟩) (by assumption) ?_
  rotate_left
  · intro w hSw; (try dsimp only at hSw); go_simp; try with_reducible rfl
  simp only [Act.put, List.getElem_toArray, List.getElem_cons_zero, List.getElem_cons_succ, List.setIfInBounds_toArray, List.set_cons_zero, List.set_cons_succ]
  refine wpAnyH_take (i := 2) (v := ?_) rfl (by kernel_rfl) (by kernel_rfl) (by kernel_rfl) (fun _ _ _ h => h) (Or.inl ⟨by rfl, ?_⟩) (by assumption) ?_
  rotate_left
  · intro w hSw; (try dsimp only at hSw); go_simp; try with_reducible rfl
  simp only [Act.put, List.getElem_toArray, List.getElem_cons_zero, List.getElem_cons_succ, List.setIfInBounds_toArray, List.set_cons_zero, List.set_cons_succ]
  refine wpAnyH_take (i := 3) (v := ?_) rfl (by kernel_rfl) (by kernel_rfl) (by kernel_rfl) (fun _ _ _ h => h) (Or.inl ⟨by rfl, ?_⟩) (by assumption) ?_
  rotate_left
  · intro w hSw; (try dsimp only at hSw); go_simp; try with_reducible rfl
  simp only [Act.put, List.getElem_toArray, List.getElem_cons_zero, List.getElem_cons_succ, List.setIfInBounds_toArray, List.set_cons_zero, List.set_cons_succ]
  refine wpAnyH_take (i := 4) (v := ?_) rfl (by kernel_rfl) (by kernel_rfl) (by kernel_rfl) (fun _ _ _ h => h) (Or.inl ⟨by rfl, ?_⟩) (by assumption) ?_
  rotate_left
  · intro w hSw; (try dsimp only at hSw); go_simp; try with_reducible rfl
  simp only [Act.put, List.getElem_toArray, List.getElem_cons_zero, List.getElem_cons_succ, List.setIfInBounds_toArray, List.set_cons_zero, List.set_cons_succ]
  refine wpAnyH_take (i := 5) (v := ?_) rfl (by kernel_rfl) (by kernel_rfl) (by kernel_rfl) (fun _ _ _ h => h) (Or.inl ⟨by rfl, ?_⟩) (by assumption) ?_
  rotate_left
  · intro w hSw; (try dsimp only at hSw); go_simp; try with_reducible rfl
  simp only [Act.put, List.getElem_toArray, List.getElem_cons_zero, List.getElem_cons_succ, List.setIfInBounds_toArray, List.set_cons_zero, List.set_cons_succ]
  refine wpAnyH_take (i := 6) (v := ?_) rfl (by kernel_rfl) (by kernel_rfl) (by kernel_rfl) (fun _ _ _ h => h) (Or.inl ⟨by rfl, ?_⟩) (by assumption) ?_
  rotate_left
  · intro w hSw; (try dsimp only at hSw); go_simp; try with_reducible rfl
  simp only [Act.put, List.getElem_toArray, List.getElem_cons_zero, List.getElem_cons_succ, List.setIfInBounds_toArray, List.set_cons_zero, List.set_cons_succ]
  refine wpAnyH_take (i := 7) (v := ?_) rfl (by kernel_rfl) (by kernel_rfl) (by kernel_rfl) (fun _ _ _ h => h) (Or.inl ⟨by rfl, ?_⟩) (by assumption) ?_
  rotate_left
  · intro w hSw; (try dsimp only at hSw); go_simp; try with_reducible rfl
  simp only [Act.put, List.getElem_toArray, List.getElem_cons_zero, List.getElem_cons_succ, List.setIfInBounds_toArray, List.set_cons_zero, List.set_cons_succ]
  refine wpAnyH_take (i := 8) (v := ?_) rfl (by kernel_rfl) (by kernel_rfl) (by kernel_rfl) (fun _ _ _ h => h) (Or.inl ⟨by rfl, ?_⟩) (by assumption) ?_
  rotate_left
  · intro w hSw; (try dsimp only at hSw); go_simp; try with_reducible rfl
  simp only [Act.put, List.getElem_toArray, List.getElem_cons_zero, List.getElem_cons_succ, List.setIfInBounds_toArray, List.set_cons_zero, List.set_cons_succ]
  refine wpAnyH_take (i := 9) (v := ?_) rfl (by kernel_rfl) (by kernel_rfl) (by kernel_rfl) (fun _ _ _ h => h) (Or.inl ⟨by rfl, ?_⟩) (by assumption) ?_
  rotate_left
  · intro w hSw; (try dsimp only at hSw); go_simp; try with_reducible rfl
  simp only [Act.put, List.getElem_toArray, List.getElem_cons_zero, List.getElem_cons_succ, List.setIfInBounds_toArray, List.set_cons_zero, List.set_cons_succ]
  refine wpAnyH_ready (rs := [10]) (by kernel_rfl) (by simp) ?_
  refine AllReadyH.cons rfl (fun K hK => ?_) AllReadyH.nil
  go_simp
  refine hK.out _ _ ⟨(World.cell?_alloc_lt X _ ⟨q, 0, none⟩ hqX).trans kc, (World.cell?_alloc_lt X _ ⟨q, 2, none⟩ hqX).trans kp, (World.cell?_alloc_lt X _ (ad.add (k * 5)) hadX).trans m0, (World.cell?_alloc_lt X _ ⟨(ad.add (k * 5)).block, (ad.add (k * 5)).off + 1, none⟩ hadX).trans m1, (World.cell?_alloc_lt X _ ⟨(ad.add (k * 5)).block, (ad.add (k * 5)).off + 2, none⟩ hadX).trans m2, (World.cell?_alloc_lt X _ ⟨(ad.add (k * 5)).block, (ad.add (k * 5)).off + 3, none⟩ hadX).trans m3, (World.cell?_alloc_lt X _ ⟨(ad.add (k * 5)).block, (ad.add (k * 5)).off + 4, none⟩ hadX).trans m4⟩ (fun hHeld2 => ?_)
  refine wpAnyH_ready (rs := [11]) (by kernel_rfl) (by simp) ?_
  refine AllReadyH.cons rfl (fun K hK => ?_) AllReadyH.nil
  go_simp
  refine hK.out _ _ ⟨(World.cell?_alloc_lt X _ ⟨q, 0, none⟩ hqX).trans kc, (World.cell?_alloc_lt X _ ⟨q, 2, none⟩ hqX).trans kp, (World.cell?_alloc_lt X _ (ad.add (k * 5)) hadX).trans m0, (World.cell?_alloc_lt X _ ⟨(ad.add (k * 5)).block, (ad.add (k * 5)).off + 1, none⟩ hadX).trans m1, (World.cell?_alloc_lt X _ ⟨(ad.add (k * 5)).block, (ad.add (k * 5)).off + 2, none⟩ hadX).trans m2, (World.cell?_alloc_lt X _ ⟨(ad.add (k * 5)).block, (ad.add (k * 5)).off + 3, none⟩ hadX).trans m3, (World.cell?_alloc_lt X _ ⟨(ad.add (k * 5)).block, (ad.add (k * 5)).off + 4, none⟩ hadX).trans m4⟩ (fun hHeld3 => ?_)
  clear hK K hHeld hHeld2 hHeld3
  refine wpAnyH_done (by kernel_rfl) ?_ _
  refine NoPanic.normal ?_
  obtain ⟨I, hI⟩ : ∃ I, I = X.heap.size := ⟨_, rfl⟩
  have hIB := (Blk.new X 30 #[.int .u8 5, .int .i64 dn, .int .i64 an, .int .i64 bn, .int .i32 imm]).drew
  obtain ⟨Y, hY⟩ : ∃ Y, Y = (X.alloc (.cells #[.int .u8 5, .int .i64 dn, .int .i64 an, .int .i64 bn, .int .i32 imm] 30)).drew := ⟨_, rfl⟩
  have hXY : Below X.heap.size X Y := by rw [hY]; exact ((Below.refl _ X).alloc (Nat.le_refl _) _).drew
  rw [← hY] at hIB ⊢
  rw [← hI] at hIB ⊢
  have hC := HCX.out.below hXY
  have hR := HRX.out.below hXY HRX.out.lt
  have hS := HSX.out.below hXY HSX.out.lt
  clear kc kp m0 m1 m2 m3 m4
  have kp := hC.pc_
  have kr := hC.regs_
  have ka := hC.reg Hav.out
  have ki0 := Blk.cell hIB 0
  have ki1 := Blk.cell hIB 1
  have ki2 := Blk.cell hIB 2
  have ki3 := Blk.cell hIB 3
  have ki4 := Blk.cell hIB 4
  simp only [List.getElem?_toArray, List.getElem?_cons_zero, List.getElem?_cons_succ] at ki0 ki1 ki2 ki3 ki4
  have hXYs := hXY.size
  have hIl := hIB.lt
  obtain ⟨iv, hiv⟩ : ∃ iv, IntKind.u64.wrap imm = iv := ⟨_, rfl⟩
  have HI := Lib.hid hI
  have HY := Lib.hid hY
  have HCY := Lib.hid hC
  have HRY := Lib.hid hR
  have HSY := Lib.hid hS
  have HIB := Lib.hid hIB
  have HXY := Lib.hid hXY
  clear hXY hIB hS hR hC hY hI
  go_upto_region 5 with fail
  go_quiet (fail)
  obtain ⟨Q, hQ⟩ : ∃ Q, Q = Y.drewN nq := ⟨_, rfl⟩
  have hYQ : Below Y.heap.size Y Q := by rw [hQ]; exact below_drewN (Below.refl _ Y) nq
  rw [← hQ]
  have hC := HCY.out.below hYQ
  have hR := HRY.out.below hYQ HRY.out.lt
  have hS := HSY.out.below hYQ HSY.out.lt
  have hIB := HIB.out.below hYQ HIB.out.lt
  clear kp ka kr ki0 ki1 ki2 ki3 ki4
  have kp := hC.pc_
  have kr := hC.regs_
  have kw := hC.words_
  have kb := hC.reg Hbv.out
  have kd := hC.reg Hdv.out
  have fd := hC.rblk.frozen dn
  have fp := hC.blk.frozen 2
  have f14 : Q.frozen? ⟨rg, 14, none⟩ = false := hC.rblk.frozen 14
  have k14 : Q.cell? ⟨rg, 14, none⟩ = some (.int .u64 sp) := hC.reg Hsp.out
  have ki0 := Blk.cell hIB 0
  have ki1 := Blk.cell hIB 1
  have ki2 := Blk.cell hIB 2
  have ki3 := Blk.cell hIB 3
  have ki4 := Blk.cell hIB 4
  simp only [List.getElem?_toArray, List.getElem?_cons_zero, List.getElem?_cons_succ] at ki0 ki1 ki2 ki3 ki4
  have kt0 := Blk.cell hR 0
  have kt1 := Blk.cell hR 1
  have kt2 := Blk.cell hR 2
  have kt3 := Blk.cell hR 3
  have kt4 := Blk.cell hR 4
  simp only [List.getElem?_toArray, List.getElem?_cons_zero, List.getElem?_cons_succ] at kt0 kt1 kt2 kt3 kt4
  have ks0 := Blk.cell hS 0
  have ks1 := Blk.cell hS 1
  have ks2 := Blk.cell hS 2
  have ks3 := Blk.cell hS 3
  have ks4 := Blk.cell hS 4
  simp only [List.getElem?_toArray, List.getElem?_cons_zero, List.getElem?_cons_succ] at ks0 ks1 ks2 ks3 ks4
  have gr0 := Blk.frozen hR 0
  have gr1 := Blk.frozen hR 1
  have gr2 := Blk.frozen hR 2
  have gr3 := Blk.frozen hR 3
  have gr4 := Blk.frozen hR 4
  have hwQ : Below w.heap.size w Q := (HW.out.trans (HWX.out.mono HW.out.size)).trans ((HXY.out.mono (Nat.le_trans HW.out.size HWX.out.size)).trans (hYQ.mono (by have h1 := HW.out.size; have h2 := HWX.out.size; have h3 := HXY.out.size; omega)))
  have hRI : R + 2 ≤ I := by have h1 := HI.out; have h2 := HWX.out.size; omega
  have hqR : q < R ∧ rg < R ∧ wg < R := by have h1 := HRe.out; have h2 := H.out.blk.lt; have h3 := H.out.rblk.lt; have h4 := H.out.wblk.lt; omega
  have hne := hC.ne
  clear HCY HRY HSY HXY HCX HMX HRX HSX HWX HC HM HR HS HW HIB
  have HQ := Lib.hid hQ
  have HYQ := Lib.hid hYQ
  have HC := Lib.hid hC
  have HR := Lib.hid hR
  have HS := Lib.hid hS
  have HIB := Lib.hid hIB
  have HwQ := Lib.hid hwQ
  have Hne := Lib.hid hne
  clear hne hwQ hIB hS hR hC hYQ hQ
  obtain ⟨su, hsu⟩ : ∃ su, IntKind.u64.wrap (av + iv) = su := ⟨_, rfl⟩
  have hsu2 : (av + imm) % 18446744073709551616 = su := by rw [← hsu, ← hiv, IntKind.wrap_u64, IntKind.wrap_u64]; omega
  have Hsu2 := Lib.hid hsu2
  clear hsu2
  have hsb : ∀ kk : Nat, kk < ws.length → su ≠ base + 8 * kk := by rw [← Hsu2.out]; exact Hm.out
  have hsu : U64 su := by rw [← Hsu2.out]; unfold U64; omega
  have Hsb := Lib.hid hsb
  have Hsu := Lib.hid hsu
  clear hsu hsb
  go_wp2_with fail
  refine (where_out HC.out su Hsu.out Hsb.out).mono ?_
  rintro e w1 ⟨rfl, dq, rfl⟩
  obtain ⟨Q2, hQ2⟩ : ∃ Q2, Q2 = Q.drewN dq := ⟨_, rfl⟩
  rw [← hQ2]
  have hC := HC.out.drewN dq
  have hR := HR.out.drewN dq
  have hS := HS.out.drewN dq
  have hIB := HIB.out.drewN dq
  have hwQ := below_drewN HwQ.out dq
  rw [← hQ2] at hC hR hS hIB hwQ
  clear kp kr kw kb kd fd fp f14 k14 ki0 ki1 ki2 ki3 ki4 kt0 kt1 kt2 kt3 kt4 ks0 ks1 ks2 ks3 ks4 gr0 gr1 gr2 gr3 gr4
  clear HC HR HS HIB HwQ
  have kp := hC.pc_
  have kr := hC.regs_
  have kw := hC.words_
  have kb := hC.reg Hbv.out
  have kd := hC.reg Hdv.out
  have fd := hC.rblk.frozen dn
  have fp := hC.blk.frozen 2
  have f14 : Q2.frozen? ⟨rg, 14, none⟩ = false := hC.rblk.frozen 14
  have k14 : Q2.cell? ⟨rg, 14, none⟩ = some (.int .u64 sp) := hC.reg Hsp.out
  have ki0 := Blk.cell hIB 0
  have ki1 := Blk.cell hIB 1
  have ki2 := Blk.cell hIB 2
  have ki3 := Blk.cell hIB 3
  have ki4 := Blk.cell hIB 4
  simp only [List.getElem?_toArray, List.getElem?_cons_zero, List.getElem?_cons_succ] at ki0 ki1 ki2 ki3 ki4
  have kt0 := Blk.cell hR 0
  have kt1 := Blk.cell hR 1
  have kt2 := Blk.cell hR 2
  have kt3 := Blk.cell hR 3
  have kt4 := Blk.cell hR 4
  simp only [List.getElem?_toArray, List.getElem?_cons_zero, List.getElem?_cons_succ] at kt0 kt1 kt2 kt3 kt4
  have ks0 := Blk.cell hS 0
  have ks1 := Blk.cell hS 1
  have ks2 := Blk.cell hS 2
  have ks3 := Blk.cell hS 3
  have ks4 := Blk.cell hS 4
  simp only [List.getElem?_toArray, List.getElem?_cons_zero, List.getElem?_cons_succ] at ks0 ks1 ks2 ks3 ks4
  have gr0 := Blk.frozen hR 0
  have gr1 := Blk.frozen hR 1
  have gr2 := Blk.frozen hR 2
  have gr3 := Blk.frozen hR 3
  have gr4 := Blk.frozen hR 4
  have HQ2 := Lib.hid hQ2
  have HC := Lib.hid hC
  have HR := Lib.hid hR
  have HS := Lib.hid hS
  have HIB := Lib.hid hIB
  have HwQ := Lib.hid hwQ
  clear hwQ hIB hS hR hC hQ2
  go_wp2_with fail
  have hCV := HC.out
  have hRV := HR.out
  have hKV : Keeps (RefS q rg wg) w Q2 := Keeps.of_below HwQ.out (Nat.le_refl _)
  rw [← Hrx.out] at hCV
  have HCV := Lib.hid hCV
  have HKV := Lib.hid hKV
  have HRV := Lib.hid hRV
  clear hRV hKV hCV
  obtain ⟨r1, r2, r3⟩ := rend_laid HCV.out HRV.out hqR HKV.out (Nat.le_of_eq HRe.out.symm) (.int .i64 3) (.int .i64 0) (.int .i64 0) (.int .i64 0) (.int .i64 0)
  refine bodyPost_ret (results_cell_row rfl _ _ R 47 _ (0, 0) _ rfl r1 Try.underlying47 rfl (by kernel_rfl)) rfl ?_
  exact ⟨rfl, r2, r3⟩
end Go.Proofs.Ytnnlhhokljjghaa
