/- The document's Enter. Conditions: machine and code lie in memory. -/
import Derived.Test.YtnnlhhokljjghaaRefC1
set_option linter.unusedVariables false
set_option linter.unusedSimpArgs false
namespace Go.Proofs.Ytnnlhhokljjghaa
open Go.RowKit

set_option maxRecDepth 100000 in
set_option maxHeartbeats 4000000 in
theorem renter_neg {w : World} {lo q rg wg B c : Nat} {A : Option Addr} {regs : List Int} {pc base : Int} {ws : List Int} {l : List MInstD} (h : RefAt w lo q rg wg (.slice A l.length c) regs pc base ws) (hpc : pc < 0) :
    Calls Try.prog 40 #[.pointer (some ⟨q, 0, none⟩)] w fun e w' => e = .returned (.bool false) ∧ ∃ d, w' = w.drewN d := by
  obtain ⟨n, hn⟩ : ∃ n, l.length = n := ⟨_, rfl⟩
  rw [hn] at h
  have kc := h.code
  have kp := h.pc_
  clear h hn
  go_enter Try.func40, Try.ntmps40
  go_upto_region 1 with fail
  go_quiet (fail)
  go_wp2_with fail
  go_ret
  exact ⟨rfl, _, rfl⟩
set_option maxRecDepth 100000 in
set_option maxHeartbeats 4000000 in
theorem renter_end {w : World} {lo q rg wg B c : Nat} {A : Option Addr} {regs : List Int} {pc base : Int} {ws : List Int} {l : List MInstD} (h : RefAt w lo q rg wg (.slice A l.length c) regs pc base ws) (hp0 : ¬ pc < 0) (hpc : (l.length : Int) ≤ pc) :
    Calls Try.prog 40 #[.pointer (some ⟨q, 0, none⟩)] w fun e w' => e = .returned (.bool false) ∧ ∃ d, w' = w.drewN d := by
  obtain ⟨n, hn⟩ : ∃ n, l.length = n := ⟨_, rfl⟩
  rw [hn] at h hpc
  have kc := h.code
  have kp := h.pc_
  clear h hn
  go_enter Try.func40, Try.ntmps40
  go_upto_region 1 with fail
  go_quiet (fail)
  go_wp2_with fail
  go_ret
  exact ⟨rfl, _, rfl⟩
set_option maxRecDepth 100000 in
set_option maxHeartbeats 4000000 in
theorem renter_other {w : World} {lo q rg wg B c : Nat} {A : Option Addr} {regs : List Int} {pc base : Int} {ws : List Int} {l : List MInstD} (h : RefAt w lo q rg wg (.slice A l.length c) regs pc base ws) (hc : CodeM w B A c l) {k : Nat} {i : MInstD} (hpc : pc = k) (hk : l[k]? = some i) (ho : ¬ i.op = 11) :
    Calls Try.prog 40 #[.pointer (some ⟨q, 0, none⟩)] w fun e w' => e = .returned (.bool false) ∧ ∃ d, w' = w.drewN d := by
  have hkl : k < l.length := (List.getElem?_eq_some_iff.1 hk).1
  have hfit := hc.fit
  obtain ⟨ad, hA, hadB, _⟩ := hc.rd.2 (by omega)
  subst hA
  subst hpc
  obtain ⟨n, hn⟩ : ∃ n, l.length = n := ⟨_, rfl⟩
  have kc := h.code
  have kp := h.pc_
  obtain ⟨m0, m1, m2, m3, m4⟩ := mi_cells hc.rd hk (by omega)
  have hkn : k < n := by omega
  have n0 : ¬ ((k : Int) < 0) := by omega
  have n1 : ¬ ((n : Int) ≤ k) := by omega
  have hfn : n ≤ 10000000000 := by omega
  rw [hn] at kc
  obtain ⟨op, hop⟩ : ∃ op, i.op = op := ⟨_, rfl⟩
  rw [hop] at ho m0
  have ho1 : (op != 11) = true := by simpa using ho
  clear h hc hk hn hkl hfit m1 m2 m3 m4 hop
  go_enter Try.func40, Try.ntmps40
  go_upto_region 1 with fail
  go_quiet (fail)
  go_wp2_with fail
  go_ret
  exact ⟨rfl, _, rfl⟩
set_option maxRecDepth 100000 in
set_option maxHeartbeats 4000000 in
theorem renter_low {w : World} {lo q rg wg B c : Nat} {A : Option Addr} {regs : List Int} {pc base : Int} {ws : List Int} {l : List MInstD} (h : RefAt w lo q rg wg (.slice A l.length c) regs pc base ws) (hc : CodeM w B A c l) {k : Nat} {i : MInstD} (hpc : pc = k) (hk : l[k]? = some i) (ho : i.op = 11) (hlow : regs.getD 14 0 < base + i.imm) :
    Calls Try.prog 40 #[.pointer (some ⟨q, 0, none⟩)] w fun e w' => e = .returned (.bool false) ∧ ∃ d, w' = w.drewN d := by
  have hkl : k < l.length := (List.getElem?_eq_some_iff.1 hk).1
  have hfit := hc.fit
  obtain ⟨ad, hA, hadB, _⟩ := hc.rd.2 (by omega)
  subst hA
  subst hpc
  obtain ⟨n, hn⟩ : ∃ n, l.length = n := ⟨_, rfl⟩
  have kc := h.code
  have kp := h.pc_
  obtain ⟨m0, m1, m2, m3, m4⟩ := mi_cells hc.rd hk (by omega)
  have hkn : k < n := by omega
  have n0 : ¬ ((k : Int) < 0) := by omega
  have n1 : ¬ ((n : Int) ≤ k) := by omega
  have hfn : n ≤ 10000000000 := by omega
  rw [hn] at kc
  obtain ⟨mn, hmn⟩ : ∃ mn : Nat, i.imm = mn := Int.eq_ofNat_of_zero_le (good_eleven (hc.good i (List.mem_of_getElem? hk)) ho).1
  have hml := (good_eleven (hc.good i (List.mem_of_getElem? hk)) ho).2
  rw [ho] at m0
  rw [hmn] at m4 hlow
  obtain ⟨sp, hsp⟩ : ∃ sp, regs[14]? = some sp := ⟨_, List.getElem?_eq_getElem (by rw [h.len]; omega)⟩
  have hgs : regs.getD 14 0 = sp := by rw [List.getD_eq_getElem?_getD, hsp, Option.getD_some]
  have usp := h.u64 _ (List.mem_of_getElem? hsp)
  obtain ⟨u0, u1⟩ := usp
  rw [hgs] at hlow
  obtain ⟨f1, f2, f3, f4⟩ := h.fit
  have kb := h.base_
  have kr := h.regs_
  have k14 : w.cell? ⟨rg, 14, none⟩ = some (.int .u64 sp) := h.reg hsp
  have kw := h.words_
  obtain ⟨sn, hsn⟩ : ∃ sn, sn = ws.length := ⟨_, rfl⟩
  rw [← hsn] at kw f4
  rw [hmn] at hml
  have c0 : decide (sp < base + mn) = true := by simpa using hlow
  clear h hc hk hn hkl hfit m1 m2 m3 hmn hgs hsp hsn f3
  go_enter Try.func40, Try.ntmps40
  go_upto_region 1 with fail
  go_quiet (fail)
  go_upto_region 3 with fail
  go_quiet (fail)
  go_upto_region 4 with fail
  go_quiet (fail)
  go_wp2_with fail
  go_ret
  exact ⟨rfl, _, rfl⟩
set_option maxRecDepth 100000 in
set_option maxHeartbeats 4000000 in
theorem renter_high {w : World} {lo q rg wg B c : Nat} {A : Option Addr} {regs : List Int} {pc base : Int} {ws : List Int} {l : List MInstD} (h : RefAt w lo q rg wg (.slice A l.length c) regs pc base ws) (hc : CodeM w B A c l) {k : Nat} {i : MInstD} (hpc : pc = k) (hk : l[k]? = some i) (ho : i.op = 11) (hlow : ¬ regs.getD 14 0 < base + i.imm) (hhi : base + 8 * (ws.length : Int) < regs.getD 14 0) :
    Calls Try.prog 40 #[.pointer (some ⟨q, 0, none⟩)] w fun e w' => e = .returned (.bool false) ∧ ∃ d, w' = w.drewN d := by
  have hkl : k < l.length := (List.getElem?_eq_some_iff.1 hk).1
  have hfit := hc.fit
  obtain ⟨ad, hA, hadB, _⟩ := hc.rd.2 (by omega)
  subst hA
  subst hpc
  obtain ⟨n, hn⟩ : ∃ n, l.length = n := ⟨_, rfl⟩
  have kc := h.code
  have kp := h.pc_
  obtain ⟨m0, m1, m2, m3, m4⟩ := mi_cells hc.rd hk (by omega)
  have hkn : k < n := by omega
  have n0 : ¬ ((k : Int) < 0) := by omega
  have n1 : ¬ ((n : Int) ≤ k) := by omega
  have hfn : n ≤ 10000000000 := by omega
  rw [hn] at kc
  obtain ⟨mn, hmn⟩ : ∃ mn : Nat, i.imm = mn := Int.eq_ofNat_of_zero_le (good_eleven (hc.good i (List.mem_of_getElem? hk)) ho).1
  have hml := (good_eleven (hc.good i (List.mem_of_getElem? hk)) ho).2
  rw [ho] at m0
  rw [hmn] at m4 hlow
  obtain ⟨sp, hsp⟩ : ∃ sp, regs[14]? = some sp := ⟨_, List.getElem?_eq_getElem (by rw [h.len]; omega)⟩
  have hgs : regs.getD 14 0 = sp := by rw [List.getD_eq_getElem?_getD, hsp, Option.getD_some]
  have usp := h.u64 _ (List.mem_of_getElem? hsp)
  obtain ⟨u0, u1⟩ := usp
  rw [hgs] at hlow hhi
  obtain ⟨f1, f2, f3, f4⟩ := h.fit
  have kb := h.base_
  have kr := h.regs_
  have k14 : w.cell? ⟨rg, 14, none⟩ = some (.int .u64 sp) := h.reg hsp
  have kw := h.words_
  obtain ⟨sn, hsn⟩ : ∃ sn, sn = ws.length := ⟨_, rfl⟩
  rw [← hsn] at kw f4 hhi
  rw [hmn] at hml
  have c0 : decide (sp < base + mn) = false := by simp; omega
  have c1 : decide (base + 8 * (sn : Int) < sp) = true := by simpa using hhi
  clear h hc hk hn hkl hfit m1 m2 m3 hmn hgs hsp hsn f3
  go_enter Try.func40, Try.ntmps40
  go_upto_region 1 with fail
  go_quiet (fail)
  go_upto_region 3 with fail
  go_quiet (fail)
  go_upto_region 4 with fail
  go_quiet (fail)
  go_wp2_with fail
  go_ret
  exact ⟨rfl, _, rfl⟩
set_option maxRecDepth 100000 in
set_option maxHeartbeats 4000000 in
theorem renter_in {w : World} {lo q rg wg B c : Nat} {A : Option Addr} {regs : List Int} {pc base : Int} {ws : List Int} {l : List MInstD} (h : RefAt w lo q rg wg (.slice A l.length c) regs pc base ws) (hc : CodeM w B A c l) {k : Nat} {i : MInstD} (hpc : pc = k) (hk : l[k]? = some i) (ho : i.op = 11) (hlow : ¬ regs.getD 14 0 < base + i.imm) (hhi : ¬ base + 8 * (ws.length : Int) < regs.getD 14 0) :
    Calls Try.prog 40 #[.pointer (some ⟨q, 0, none⟩)] w fun e w' => e = .returned (.bool true) ∧ RefAt w' lo q rg wg (.slice A l.length c) (regs.set 14 (regs.getD 14 0 - i.imm)) (k + 1) base ws ∧ Keeps (RefS q rg wg) w w' := by
  have hkl : k < l.length := (List.getElem?_eq_some_iff.1 hk).1
  have hfit := hc.fit
  obtain ⟨ad, hA, hadB, _⟩ := hc.rd.2 (by omega)
  subst hA
  subst hpc
  obtain ⟨n, hn⟩ : ∃ n, l.length = n := ⟨_, rfl⟩
  have kc := h.code
  have kp := h.pc_
  obtain ⟨m0, m1, m2, m3, m4⟩ := mi_cells hc.rd hk (by omega)
  have hkn : k < n := by omega
  have n0 : ¬ ((k : Int) < 0) := by omega
  have n1 : ¬ ((n : Int) ≤ k) := by omega
  have hfn : n ≤ 10000000000 := by omega
  rw [hn] at kc
  obtain ⟨mn, hmn⟩ : ∃ mn : Nat, i.imm = mn := Int.eq_ofNat_of_zero_le (good_eleven (hc.good i (List.mem_of_getElem? hk)) ho).1
  have hml := (good_eleven (hc.good i (List.mem_of_getElem? hk)) ho).2
  rw [ho] at m0
  rw [hmn] at m4 hlow ⊢
  obtain ⟨sp, hsp⟩ : ∃ sp, regs[14]? = some sp := ⟨_, List.getElem?_eq_getElem (by rw [h.len]; omega)⟩
  have hgs : regs.getD 14 0 = sp := by rw [List.getD_eq_getElem?_getD, hsp, Option.getD_some]
  have usp := h.u64 _ (List.mem_of_getElem? hsp)
  obtain ⟨u0, u1⟩ := usp
  rw [hgs] at hlow hhi ⊢
  obtain ⟨f1, f2, f3, f4⟩ := h.fit
  have kb := h.base_
  have kr := h.regs_
  have k14 : w.cell? ⟨rg, 14, none⟩ = some (.int .u64 sp) := h.reg hsp
  have kw := h.words_
  obtain ⟨sn, hsn⟩ : ∃ sn, sn = ws.length := ⟨_, rfl⟩
  rw [← hsn] at kw f4 hhi
  rw [hmn] at hml
  have c0 : decide (sp < base + mn) = false := by simp; omega
  have c1 : decide (base + 8 * (sn : Int) < sp) = false := by simp; omega
  have hus : U64 (sp - mn) := by unfold U64; omega
  have f14 := h.rblk.frozen 14
  have nrq : rg ≠ q := Ne.symm h.ne.1
  have nqr : q ≠ rg := h.ne.1
  have hpcI : -9223372036854775808 ≤ (k : Int) + 1 ∧ (k : Int) + 1 ≤ 9223372036854775807 := by omega
  have H := Lib.hid h
  have HpcI := Lib.hid hpcI
  have Hus := Lib.hid hus
  have Hn := Lib.hid hn
  have Hsp := Lib.hid hsp
  clear hsp hn hus hpcI h
  clear hc hk hkl m1 m2 m3 hmn hgs hsn f3
  go_enter Try.func40, Try.ntmps40
  go_upto_region 1 with fail
  go_quiet (fail)
  obtain ⟨a1, ha1⟩ : ∃ a1, a1 = nq := ⟨_, rfl⟩
  rw [← ha1]
  have Ha1 := Lib.hid ha1
  clear ha1
  go_upto_region 3 with fail
  go_quiet (fail)
  obtain ⟨a2, ha2⟩ : ∃ a2, a2 = nq := ⟨_, rfl⟩
  rw [← ha2]
  have Ha2 := Lib.hid ha2
  clear ha2
  go_upto_region 4 with fail
  go_quiet (fail)
  obtain ⟨a3, ha3⟩ : ∃ a3, a3 = nq := ⟨_, rfl⟩
  rw [← ha3]
  have Ha3 := Lib.hid ha3
  clear ha3
  obtain ⟨Z, hZ⟩ : ∃ Z, Z = ((w.drewN a1).drewN a2).drewN a3 := ⟨_, rfl⟩
  have hC := ((H.out.drewN a1).drewN a2).drewN a3
  have hBZ : Below w.heap.size w Z := by rw [hZ]; exact below_drewN (below_drewN (below_drewN (Below.refl _ w) a1) a2) a3
  rw [← hZ] at hC ⊢
  clear kc kp kb kr k14 kw f14
  have kr := hC.regs_
  have k14 : Z.cell? ⟨rg, 14, none⟩ = some (.int .u64 sp) := hC.reg Hsp.out
  have f14 := hC.rblk.frozen 14
  have HZ := Lib.hid hZ
  have HC := Lib.hid hC
  have HBZ := Lib.hid hBZ
  clear hBZ hC hZ
  go_upto_region 7 with fail
  obtain ⟨V, hV⟩ : ∃ V, V = Z.setCell ⟨rg, 14, none⟩ (.int .u64 (sp - mn)) := ⟨_, rfl⟩
  have hD := HC.out.setReg (r := 14) Hus.out
  have hKV := (Keeps.of_below (S := RefS q rg wg) HBZ.out (Nat.le_refl _)).setCell (p := ⟨rg, 14, none⟩) (.inl (.inr (.inl rfl))) (.int .u64 (sp - mn))
  rw [← hV] at hD hKV ⊢
  clear kr k14 f14
  have kp := hD.pc_
  have fp := hD.blk.frozen 2
  have hE := hD.setPc HpcI.out
  have hKE := hKV.setCell (p := ⟨q, 2, none⟩) (.inl (.inl rfl)) (.int .i64 ((k : Int) + 1))
  have HV := Lib.hid hV
  have HD := Lib.hid hD
  have HKV := Lib.hid hKV
  have HE := Lib.hid hE
  have HKE := Lib.hid hKE
  clear hKE hE hKV hD hV
  go_wp2_with fail
  go_ret
  exact ⟨rfl, HE.out, HKE.out⟩
end Go.Proofs.Ytnnlhhokljjghaa
