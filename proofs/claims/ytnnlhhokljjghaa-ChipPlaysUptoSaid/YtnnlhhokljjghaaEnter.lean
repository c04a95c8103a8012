/- Enter: of a machine with code. Conditions: machine and code lie in memory. -/
import Derived.Test.YtnnlhhokljjghaaChip5
set_option linter.unusedVariables false
set_option linter.unusedSimpArgs false
namespace Go.Proofs.Ytnnlhhokljjghaa
open Go.RowKit

theorem good_eleven {i : MInstD} (h : goodP i = true) (ho : i.op = 11) : 0 ≤ i.imm ∧ i.imm ≤ 65536 ∧ i.imm % 8 = 0 := by
  obtain ⟨op, d, a, b, imm⟩ := i
  simp only at ho
  subst ho
  obtain ⟨cs, hl⟩ : ∃ cs, lettersOf 11 = some cs := ⟨_, rfl⟩
  unfold goodP at h
  simp only [hl, Bool.and_eq_true] at h
  obtain ⟨_, h⟩ := h
  simp [specOk] at h
  show 0 ≤ imm ∧ imm ≤ 65536 ∧ imm % 8 = 0
  omega
set_option maxRecDepth 100000 in
set_option maxHeartbeats 4000000 in
theorem enter_neg {w : World} {lo p B c : Nat} {A : Option Addr} {sv : Value} {regs : List Int} {pc base : Int} {ws : List Int} {l : List MInstD} (h : ChipAt w lo p (.slice A l.length c) sv regs pc base ws) (hpc : pc < 0) :
    Calls Try.prog 20 #[.pointer (some ⟨p, 0, none⟩)] w fun e w' => e = .returned (.bool false) ∧ ∃ q, w' = w.drewN q := by
  obtain ⟨n, hn⟩ : ∃ n, l.length = n := ⟨_, rfl⟩
  rw [hn] at h
  have kc := h.code
  have kp := h.pc_
  clear h hn
  go_enter Try.func20, Try.ntmps20
  go_upto_region 1 with fail
  go_quiet (fail)
  go_wp2_with fail
  go_ret
  exact ⟨rfl, _, rfl⟩
set_option maxRecDepth 100000 in
set_option maxHeartbeats 4000000 in
theorem enter_end {w : World} {lo p B c : Nat} {A : Option Addr} {sv : Value} {regs : List Int} {pc base : Int} {ws : List Int} {l : List MInstD} (h : ChipAt w lo p (.slice A l.length c) sv regs pc base ws) (hp0 : ¬ pc < 0) (hpc : (l.length : Int) ≤ pc) :
    Calls Try.prog 20 #[.pointer (some ⟨p, 0, none⟩)] w fun e w' => e = .returned (.bool false) ∧ ∃ q, w' = w.drewN q := by
  obtain ⟨n, hn⟩ : ∃ n, l.length = n := ⟨_, rfl⟩
  rw [hn] at h hpc
  have kc := h.code
  have kp := h.pc_
  clear h hn
  go_enter Try.func20, Try.ntmps20
  go_upto_region 1 with fail
  go_quiet (fail)
  go_wp2_with fail
  go_ret
  exact ⟨rfl, _, rfl⟩
set_option maxRecDepth 100000 in
set_option maxHeartbeats 4000000 in
theorem enter_other {w : World} {lo p B c : Nat} {A : Option Addr} {sv : Value} {regs : List Int} {pc base : Int} {ws : List Int} {l : List MInstD} (h : ChipAt w lo p (.slice A l.length c) sv regs pc base ws) (hc : CodeM w B A c l) {k : Nat} {i : MInstD} (hpc : pc = k) (hk : l[k]? = some i) (ho : ¬ i.op = 11) :
    Calls Try.prog 20 #[.pointer (some ⟨p, 0, none⟩)] w fun e w' => e = .returned (.bool false) ∧ ∃ q, w' = w.drewN q := by
  have hkl : k < l.length := (List.getElem?_eq_some_iff.1 hk).1
  have hfit := hc.fit
  obtain ⟨ad, hA, hadB, _⟩ := hc.rd.2 (by omega)
  subst hA
  subst hpc
  obtain ⟨n, hn⟩ : ∃ n, l.length = n := ⟨_, rfl⟩
  have kc := h.code
  have kp := h.pc_
  obtain ⟨m0, m1, m2, m3, m4⟩ := mi_cells hc.rd hk (by omega)
  have hkn : k < n := by omega
  have n0 : ¬ ((k : Int) < 0) := by omega
  have n1 : ¬ ((n : Int) ≤ k) := by omega
  have hfn : n ≤ 10000000000 := by omega
  rw [hn] at kc
  obtain ⟨op, hop⟩ : ∃ op, i.op = op := ⟨_, rfl⟩
  rw [hop] at ho m0
  have ho1 : (op != 11) = true := by simpa using ho
  clear h hc hk hn hkl hfit m1 m2 m3 m4 hop
  go_enter Try.func20, Try.ntmps20
  go_upto_region 1 with fail
  go_quiet (fail)
  go_wp2_with fail
  go_ret
  exact ⟨rfl, _, rfl⟩
set_option maxRecDepth 100000 in
set_option maxHeartbeats 4000000 in
theorem enter_low {w : World} {lo p B c : Nat} {A : Option Addr} {sv : Value} {regs : List Int} {pc base : Int} {ws : List Int} {l : List MInstD} (h : ChipAt w lo p (.slice A l.length c) sv regs pc base ws) (hc : CodeM w B A c l) {k : Nat} {i : MInstD} (hpc : pc = k) (hk : l[k]? = some i) (ho : i.op = 11) (hlow : regs.getD 14 0 < base + i.imm) :
    Calls Try.prog 20 #[.pointer (some ⟨p, 0, none⟩)] w fun e w' => e = .returned (.bool false) ∧ ∃ q, w' = w.drewN q := by
  have hkl : k < l.length := (List.getElem?_eq_some_iff.1 hk).1
  have hfit := hc.fit
  obtain ⟨ad, hA, hadB, _⟩ := hc.rd.2 (by omega)
  subst hA
  subst hpc
  obtain ⟨n, hn⟩ : ∃ n, l.length = n := ⟨_, rfl⟩
  have kc := h.code
  have kp := h.pc_
  obtain ⟨m0, m1, m2, m3, m4⟩ := mi_cells hc.rd hk (by omega)
  have hkn : k < n := by omega
  have n0 : ¬ ((k : Int) < 0) := by omega
  have n1 : ¬ ((n : Int) ≤ k) := by omega
  have hfn : n ≤ 10000000000 := by omega
  rw [hn] at kc
  obtain ⟨mn, hmn⟩ : ∃ mn : Nat, i.imm = mn := Int.eq_ofNat_of_zero_le (good_eleven (hc.good i (List.mem_of_getElem? hk)) ho).1
  have hml := (good_eleven (hc.good i (List.mem_of_getElem? hk)) ho).2
  rw [ho] at m0
  rw [hmn] at m4 hlow
  obtain ⟨sp, hsp⟩ : ∃ sp, regs[14]? = some sp := ⟨_, List.getElem?_eq_getElem (by rw [h.len]; omega)⟩
  have hgs : regs.getD 14 0 = sp := by rw [List.getD_eq_getElem?_getD, hsp, Option.getD_some]
  have usp := h.u64 _ (List.mem_of_getElem? hsp)
  obtain ⟨u0, u1⟩ := usp
  rw [hgs] at hlow
  obtain ⟨f1, f2, f3, f4⟩ := h.fit
  have kb := h.base_
  have k14 : w.cell? ⟨p, 15, none⟩ = some (.int .u64 sp) := h.reg hsp
  have k14' : w.cell? ⟨p, 1 + 14, none⟩ = some (.int .u64 sp) := k14
  have ks := h.stack_
  obtain ⟨S, cs, hsv, hc1, hc2, _⟩ := own_any h.row
  rw [hsv] at ks
  unfold maxLen at hc2
  obtain ⟨sn, hsn⟩ : ∃ sn, sn = 8 * ws.length := ⟨_, rfl⟩
  rw [← hsn] at ks hc1 f4
  have hsn2 : (8 * (ws.length : Int)) = sn := by omega
  rw [hmn] at hml
  have w0 : IntKind.u64.wrap (mn : Int) = mn := by rw [IntKind.wrap_u64]; omega
  have w1 : IntKind.u64.wrap (base + mn) = base + mn := by rw [IntKind.wrap_u64]; omega
  have w2 : IntKind.u64.wrap (sn : Int) = sn := by rw [IntKind.wrap_u64]; omega
  have w3 : IntKind.u64.wrap (base + sn) = base + sn := by rw [IntKind.wrap_u64]; omega
  have c0 : decide (sp < base + mn) = true := by simpa using hlow
  clear hsn2
  clear h hc hk hn hkl hfit m1 m2 m3 hsv hmn hgs hsp hsn f3
  go_enter Try.func20, Try.ntmps20
  go_upto_region 1 with fail
  go_quiet (fail)
  go_upto_region 3 with fail
  go_quiet (fail)
  go_upto_region 4 with fail
  go_quiet (fail)
  go_wp2_with fail
  go_ret
  exact ⟨rfl, _, rfl⟩
set_option maxRecDepth 100000 in
set_option maxHeartbeats 4000000 in
theorem enter_high {w : World} {lo p B c : Nat} {A : Option Addr} {sv : Value} {regs : List Int} {pc base : Int} {ws : List Int} {l : List MInstD} (h : ChipAt w lo p (.slice A l.length c) sv regs pc base ws) (hc : CodeM w B A c l) {k : Nat} {i : MInstD} (hpc : pc = k) (hk : l[k]? = some i) (ho : i.op = 11) (hlow : ¬ regs.getD 14 0 < base + i.imm) (hhi : base + 8 * (ws.length : Int) < regs.getD 14 0) :
    Calls Try.prog 20 #[.pointer (some ⟨p, 0, none⟩)] w fun e w' => e = .returned (.bool false) ∧ ∃ q, w' = w.drewN q := by
  have hkl : k < l.length := (List.getElem?_eq_some_iff.1 hk).1
  have hfit := hc.fit
  obtain ⟨ad, hA, hadB, _⟩ := hc.rd.2 (by omega)
  subst hA
  subst hpc
  obtain ⟨n, hn⟩ : ∃ n, l.length = n := ⟨_, rfl⟩
  have kc := h.code
  have kp := h.pc_
  obtain ⟨m0, m1, m2, m3, m4⟩ := mi_cells hc.rd hk (by omega)
  have hkn : k < n := by omega
  have n0 : ¬ ((k : Int) < 0) := by omega
  have n1 : ¬ ((n : Int) ≤ k) := by omega
  have hfn : n ≤ 10000000000 := by omega
  rw [hn] at kc
  obtain ⟨mn, hmn⟩ : ∃ mn : Nat, i.imm = mn := Int.eq_ofNat_of_zero_le (good_eleven (hc.good i (List.mem_of_getElem? hk)) ho).1
  have hml := (good_eleven (hc.good i (List.mem_of_getElem? hk)) ho).2
  rw [ho] at m0
  rw [hmn] at m4 hlow
  obtain ⟨sp, hsp⟩ : ∃ sp, regs[14]? = some sp := ⟨_, List.getElem?_eq_getElem (by rw [h.len]; omega)⟩
  have hgs : regs.getD 14 0 = sp := by rw [List.getD_eq_getElem?_getD, hsp, Option.getD_some]
  have usp := h.u64 _ (List.mem_of_getElem? hsp)
  obtain ⟨u0, u1⟩ := usp
  rw [hgs] at hlow hhi
  obtain ⟨f1, f2, f3, f4⟩ := h.fit
  have kb := h.base_
  have k14 : w.cell? ⟨p, 15, none⟩ = some (.int .u64 sp) := h.reg hsp
  have k14' : w.cell? ⟨p, 1 + 14, none⟩ = some (.int .u64 sp) := k14
  have ks := h.stack_
  obtain ⟨S, cs, hsv, hc1, hc2, _⟩ := own_any h.row
  rw [hsv] at ks
  unfold maxLen at hc2
  obtain ⟨sn, hsn⟩ : ∃ sn, sn = 8 * ws.length := ⟨_, rfl⟩
  rw [← hsn] at ks hc1 f4
  have hsn2 : (8 * (ws.length : Int)) = sn := by omega
  rw [hmn] at hml
  have w0 : IntKind.u64.wrap (mn : Int) = mn := by rw [IntKind.wrap_u64]; omega
  have w1 : IntKind.u64.wrap (base + mn) = base + mn := by rw [IntKind.wrap_u64]; omega
  have w2 : IntKind.u64.wrap (sn : Int) = sn := by rw [IntKind.wrap_u64]; omega
  have w3 : IntKind.u64.wrap (base + sn) = base + sn := by rw [IntKind.wrap_u64]; omega
  rw [hsn2] at hhi
  clear hsn2
  have c0 : decide (sp < base + mn) = false := by simp; omega
  have c1 : decide (base + sn < sp) = true := by simpa using hhi
  clear h hc hk hn hkl hfit m1 m2 m3 hsv hmn hgs hsp hsn f3
  go_enter Try.func20, Try.ntmps20
  go_upto_region 1 with fail
  go_quiet (fail)
  go_upto_region 3 with fail
  go_quiet (fail)
  go_upto_region 4 with fail
  go_quiet (fail)
  go_wp2_with fail
  go_ret
  exact ⟨rfl, _, rfl⟩
set_option maxRecDepth 100000 in
set_option maxHeartbeats 4000000 in
theorem enter_in {w : World} {lo p B c : Nat} {A : Option Addr} {sv : Value} {regs : List Int} {pc base : Int} {ws : List Int} {l : List MInstD} (h : ChipAt w lo p (.slice A l.length c) sv regs pc base ws) (hc : CodeM w B A c l) {k : Nat} {i : MInstD} (hpc : pc = k) (hk : l[k]? = some i) (ho : i.op = 11) (hlow : ¬ regs.getD 14 0 < base + i.imm) (hhi : ¬ base + 8 * (ws.length : Int) < regs.getD 14 0) :
    Calls Try.prog 20 #[.pointer (some ⟨p, 0, none⟩)] w fun e w' => e = .returned (.bool true) ∧ ChipAt w' lo p (.slice A l.length c) sv (regs.set 14 (regs.getD 14 0 - i.imm)) (k + 1) base ws ∧ Keeps (fun j => j = p) w w' := by
  have hkl : k < l.length := (List.getElem?_eq_some_iff.1 hk).1
  have hfit := hc.fit
  obtain ⟨ad, hA, hadB, _⟩ := hc.rd.2 (by omega)
  subst hA
  subst hpc
  obtain ⟨n, hn⟩ : ∃ n, l.length = n := ⟨_, rfl⟩
  have kc := h.code
  have kp := h.pc_
  obtain ⟨m0, m1, m2, m3, m4⟩ := mi_cells hc.rd hk (by omega)
  have hkn : k < n := by omega
  have n0 : ¬ ((k : Int) < 0) := by omega
  have n1 : ¬ ((n : Int) ≤ k) := by omega
  have hfn : n ≤ 10000000000 := by omega
  rw [hn] at kc
  obtain ⟨mn, hmn⟩ : ∃ mn : Nat, i.imm = mn := Int.eq_ofNat_of_zero_le (good_eleven (hc.good i (List.mem_of_getElem? hk)) ho).1
  have hml := (good_eleven (hc.good i (List.mem_of_getElem? hk)) ho).2
  rw [ho] at m0
  rw [hmn] at m4 hlow ⊢
  obtain ⟨sp, hsp⟩ : ∃ sp, regs[14]? = some sp := ⟨_, List.getElem?_eq_getElem (by rw [h.len]; omega)⟩
  have hgs : regs.getD 14 0 = sp := by rw [List.getD_eq_getElem?_getD, hsp, Option.getD_some]
  have usp := h.u64 _ (List.mem_of_getElem? hsp)
  obtain ⟨u0, u1⟩ := usp
  rw [hgs] at hlow hhi ⊢
  obtain ⟨f1, f2, f3, f4⟩ := h.fit
  have kb := h.base_
  have k14 : w.cell? ⟨p, 15, none⟩ = some (.int .u64 sp) := h.reg hsp
  have k14' : w.cell? ⟨p, 1 + 14, none⟩ = some (.int .u64 sp) := k14
  have ks := h.stack_
  obtain ⟨S, cs, hsv, hc1, hc2, _⟩ := own_any h.row
  rw [hsv] at ks
  unfold maxLen at hc2
  obtain ⟨sn, hsn⟩ : ∃ sn, sn = 8 * ws.length := ⟨_, rfl⟩
  rw [← hsn] at ks hc1 f4
  have hsn2 : (8 * (ws.length : Int)) = sn := by omega
  rw [hmn] at hml
  have w0 : IntKind.u64.wrap (mn : Int) = mn := by rw [IntKind.wrap_u64]; omega
  have w1 : IntKind.u64.wrap (base + mn) = base + mn := by rw [IntKind.wrap_u64]; omega
  have w2 : IntKind.u64.wrap (sn : Int) = sn := by rw [IntKind.wrap_u64]; omega
  have w3 : IntKind.u64.wrap (base + sn) = base + sn := by rw [IntKind.wrap_u64]; omega
  rw [hsn2] at hhi
  clear hsn2
  have c0 : decide (sp < base + mn) = false := by simp; omega
  have c1 : decide (base + sn < sp) = false := by simp; omega
  have w4 : IntKind.u64.wrap (sp - mn) = sp - mn := by rw [IntKind.wrap_u64]; omega
  have w5 : IntKind.i64.wrap ((k : Int) + 1) = k + 1 := by rw [IntKind.wrap_i64]; omega
  have hus : U64 (sp - mn) := by unfold U64; omega
  have f15 := h.free 15
  have f17 := h.free 17
  have hpcI : -9223372036854775808 ≤ (k : Int) + 1 ∧ (k : Int) + 1 ≤ 9223372036854775807 := by omega
  have H := Lib.hid h
  have HpcI := Lib.hid hpcI
  have Hus := Lib.hid hus
  have Hn := Lib.hid hn
  clear hn hus hpcI h
  clear hc hk hkl m1 m2 m3 hsv hmn hgs hsp hsn f3
  go_enter Try.func20, Try.ntmps20
  go_upto_region 1 with fail
  go_quiet (fail)
  go_upto_region 3 with fail
  go_quiet (fail)
  go_upto_region 4 with fail
  go_quiet (fail)
  go_wp2_with fail
  go_ret
  refine ⟨rfl, (((H.out.drewN _).setReg (r := 14) (by omega) Hus.out).setPc HpcI.out), ?_⟩
  exact (((Keeps.of_below (S := fun j => j = p) (below_drewN (Below.refl w.heap.size w) _) (Nat.le_refl _)).setCell (p := ⟨p, 15, none⟩) (.inl rfl) _).setCell (p := ⟨p, 17, none⟩) (.inl rfl) _)
end Go.Proofs.Ytnnlhhokljjghaa
