/- The walk of the law IrChecks. Conditions: what the law's argument is read as. -/
import Derived.Test.YtfjalejlbegkeaaIrFirst
import Derived.Test.YtfjalejlbegkeaaIrSameG
import Derived.Test.YtfjalejlbegkeaaIrRefCopy
import Derived.Test.YtfjalejlbegkeaaOpenI
set_option linter.unusedVariables false
set_option linter.unusedSimpArgs false
namespace Go.Proofs.Ytfjalejlbegkeaa
open Go.RowKit

theorem GraphsWf.ok {gs : List GraphD} (h : GraphsWf gs) : GraphsOk gs := ⟨fun g hg => (h.each g hg).lenK, fun g hg x hx => by have := ((h.each g hg).nodes x hx).len; omega⟩
theorem GraphsWf.small {gs : List GraphD} (h : GraphsWf gs) : GsSmall gs := ⟨fun g hg => ⟨(h.each g hg).lenP, (h.each g hg).lenK, (h.each g hg).lenI, (h.each g hg).lenN, fun x hx => ((h.each g hg).nodes x hx).len⟩, h.len⟩
set_option maxRecDepth 100000 in
set_option maxHeartbeats 4000000 in
theorem walk_IrChecks (w : World) (gv0 : Value) (gs0 : List GraphD) (hg0 : GraphsIn w gv0 gs0) :
    Calls Try.prog 3 #[.agg #[gv0]] w fun e w' => e = .returned (.bool true) ∧ Below w.heap.size w w' := by
  obtain ⟨hgs, hwf⟩ := hg0
  have hok := hwf.ok
  have hsm := hwf.small
  obtain ⟨G, hG⟩ : ∃ G, G = w.heap.size := ⟨_, rfl⟩
  obtain ⟨A, c, rfl, hc1, hc2⟩ := hgs.slice
  obtain ⟨n, hn⟩ : ∃ n, gs0.length = n := ⟨_, rfl⟩
  rw [hn] at hgs hc1 ⊢
  have hP := Blk.new w 24 #[.slice A n c]
  have hb := (Below.refl w.heap.size w).alloc (Nat.le_refl _) (.cells #[.slice A n c] 24)
  have hA := hgs.below hb
  obtain ⟨V, hV⟩ : ∃ V, V = w.alloc (.cells #[.slice A n c] 24) := ⟨_, rfl⟩
  rw [← hV] at hb hA hP
  rw [← hG] at hP
  have hGl := hP.lt
  have Hb := Lib.hid hb
  have HP := Lib.hid hP
  have HA := Lib.hid hA
  have HV := Lib.hid hV
  have HG := Lib.hid hG
  have Hok := Lib.hid hok
  have Hsm := Lib.hid hsm
  have Hgs := Lib.hid hgs
  have Hwf := Lib.hid hwf
  have Hn := Lib.hid hn
  clear hn hwf hgs hsm hok hG hV hA hP hb
  go_enter Try.func3, Try.ntmps3
  go_upto_region 1 with fail
  rw [← HV.out, ← HG.out]
  go_wp2_with fail
  refine (first_any V).mono ?_
  rintro e w1 ⟨rfl, hb1⟩
  have hbw1 := Hb.out.trans (hb1.mono Hb.out.size)
  have hA1 := HA.out.below (hb1.mono Hb.out.size)
  have hP1 := HP.out.below hb1 hGl
  have kp0 := Blk.cell hP1 0
  simp only [List.getElem?_toArray, List.getElem?_cons_zero, List.getElem?_cons_succ] at kp0
  have hl1 := hP1.lt
  have hz1 := hbw1.size
  have Hbw1 := Lib.hid hbw1
  have HA1 := Lib.hid hA1
  have HP1 := Lib.hid hP1
  clear hP1 hA1 hbw1
  clear hb1
  go_wp2_with fail
  refine (refcopy_any _ gs0 w1 w.heap.size HA1.out hz1 Hsm.out).mono ?_
  rintro e w2 hcp
  obtain ⟨hb2, pv, css, rfl, hO, hC⟩ := hcp
  have hlen : gs0.length = n := Hn.out
  obtain ⟨PA, pc, rfl, hpc, hpc2, _⟩ := own_any hO
  have hCp := hC.at_ hO
  have hbw2 := Hbw1.out.trans (hb2.mono Hbw1.out.size)
  have hA2 := HA1.out.below (hb2.mono Hbw1.out.size)
  have hP2 := HP1.out.below hb2 hl1
  rw [hlen] at hCp hpc
  have hO3 := hCp.below ((Below.refl w2.heap.size w2).alloc (Nat.le_refl _) (.cells #[.slice PA n pc] 24))
  have hT := Blk.new w2 24 #[.slice PA n pc]
  have hal := (Below.refl w2.heap.size w2).alloc (Nat.le_refl _) (.cells #[.slice PA n pc] 24)
  have hl2 := hP2.lt
  obtain ⟨W3, hW3⟩ : ∃ W3, W3 = w2.alloc (.cells #[.slice PA n pc] 24) := ⟨_, rfl⟩
  obtain ⟨T, hTT⟩ : ∃ T, T = w2.heap.size := ⟨_, rfl⟩
  rw [← hW3] at hO3 hT hal
  rw [← hTT] at hT
  have hP3 := hP2.below hal hl2
  have hA3 := hA2.below (hal.mono hbw2.size)
  have hbw3 := hbw2.trans (hal.mono hbw2.size)
  have hTl := hT.lt
  have hG3 := hP3.lt
  have hz3 := hal.size
  have hzw := hbw3.size
  have Hb2 := Lib.hid hb2
  have HO := Lib.hid hO
  have HC := Lib.hid hC
  have HCp := Lib.hid hCp
  have Hbw2 := Lib.hid hbw2
  have HA2 := Lib.hid hA2
  have HP2 := Lib.hid hP2
  have HO3 := Lib.hid hO3
  have HT := Lib.hid hT
  have Hal := Lib.hid hal
  have HW3 := Lib.hid hW3
  have HTT := Lib.hid hTT
  have HP3 := Lib.hid hP3
  have HA3 := Lib.hid hA3
  have Hbw3 := Lib.hid hbw3
  have Hlen := Lib.hid hlen
  clear hlen hbw3 hA3 hP3 hTT hW3 hal hT hO3 hP2 hA2 hbw2 hCp hC hO hb2
  clear kp0
  go_upto_region 4 with fail
  rw [Hlen.out, ← HW3.out, ← HTT.out]
  have hL : Reads (W3.alloc (.cells #[.bool false, .bool true] 4)) (W3.heap.size + 1) 1 (some ⟨W3.heap.size, 0, none⟩) 2 [.bool false, .bool true] := Reads.newS _ rfl _ _ _ _ _ rfl rfl
  have hal4 := (Below.refl W3.heap.size W3).alloc (Nat.le_refl _) (.cells #[.bool false, .bool true] 4)
  have hP4 := HP3.out.below hal4 hG3
  have hT4 := HT.out.below hal4 hTl
  have hA4 := HA3.out.below (hal4.mono hzw)
  have hO4 := HO3.out.below (hal4.mono hz3)
  have hbw4 := Hbw3.out.trans (hal4.mono hzw)
  obtain ⟨W4, hW4⟩ : ∃ W4, W4 = W3.alloc (.cells #[.bool false, .bool true] 4) := ⟨_, rfl⟩
  obtain ⟨Q, hQ⟩ : ∃ Q, Q = W3.heap.size := ⟨_, rfl⟩
  have hQ4 : W3.heap.size + 1 = W4.heap.size := by rw [hW4, World.size_alloc]
  rw [hQ4] at hL
  rw [← hW4] at hL hal4 hP4 hT4 hA4 hO4 hbw4
  rw [← hQ] at hL
  have hz4 := hal4.size
  have hG4 := hP4.lt
  have hT4l := hT4.lt
  have HL := Lib.hid hL
  have Hal4 := Lib.hid hal4
  have HP4 := Lib.hid hP4
  have HT4 := Lib.hid hT4
  have HA4 := Lib.hid hA4
  have HO4 := Lib.hid hO4
  have Hbw4 := Lib.hid hbw4
  have HW4 := Lib.hid hW4
  have HQ := Lib.hid hQ
  have HQ4 := Lib.hid hQ4
  clear hQ4 hQ hW4 hbw4 hO4 hA4 hT4 hP4 hal4 hL
  go_wp2_with fail
  rw [← HW4.out, ← HQ.out]
  have hQl : Q < W4.heap.size := by have := HQ4.out; have := HQ.out; omega
  go_loopw [13] (fun i wq => ∃ k : Nat, k ≤ 2 ∧ i = .int .i64 k ∧ Below W4.heap.size W4 wq) (fun i _ => 2 - (intOf i).toNat)
  case atStart => exact ⟨0, by omega, rfl, Below.refl _ _⟩
  case round =>
    obtain ⟨k, hk, rfl, hbq⟩ := hrel
    have hsq := hbq.size
    have hPq := HP4.out.below hbq hG4
    have hTq := HT4.out.below hbq hT4l
    have hAq := HA4.out.below (hbq.mono (by omega))
    have hOq := HO4.out.below (hbq.mono (by omega))
    have hbwq := Hbw4.out.trans (hbq.mono Hbw4.out.size)
    have hLq := HL.out.below (hbq.mono (by omega))
    have kp0 := Blk.cell hPq 0
    simp only [List.getElem?_toArray, List.getElem?_cons_zero, List.getElem?_cons_succ] at kp0
    have kt0 := Blk.cell hTq 0
    simp only [List.getElem?_toArray, List.getElem?_cons_zero, List.getElem?_cons_succ] at kt0
    by_cases hk2 : k < 2
    · obtain ⟨bd, hbd⟩ : ∃ bd, wr.cell? ⟨Q, k, none⟩ = some (.bool bd) := by
        obtain ⟨ad, u0, hA, _, hu0, hce⟩ := hLq.at_ hk2
        injection hA with hA
        subst hA
        rw [addr_zero] at hce
        have hk01 : k = 0 ∨ k = 1 := by omega
        rcases hk01 with rfl | rfl
        · simp at hu0; exact ⟨false, by rw [hce, ← hu0]⟩
        · simp at hu0; exact ⟨true, by rw [hce, ← hu0]⟩
      have hkI : (k : Int) < 2 := by omega
      obtain ⟨cb, hcb⟩ : ∃ cb, checkB gs0 bd = cb := ⟨_, rfl⟩
      have hchk := check_any hAq (by omega) Hok.out bd
      rw [hcb] at hchk
      have Hbq := Lib.hid hbq
      have HPq := Lib.hid hPq
      have HTq := Lib.hid hTq
      have HAq := Lib.hid hAq
      have HOq := Lib.hid hOq
      have Hbwq := Lib.hid hbwq
      have HLq := Lib.hid hLq
      have Hcb := Lib.hid hcb
      have Hchk := Lib.hid hchk
      clear hchk hcb hLq hbwq hOq hAq hTq hPq hbq
      go_wp2_with fail
      refine Hchk.out.mono ?_
      rintro e w5 ⟨rfl, hb5⟩
      have hPr := HPq.out.below hb5 HPq.out.lt
      have hTr := HTq.out.below hb5 HTq.out.lt
      have hOr := HOq.out.below (hb5.mono (by omega))
      have hrt := right_any hOr (by have := hb5.size; omega) Hok.out bd
      rw [Hcb.out] at hrt
      clear kp0 kt0 hbd
      have kp0 := Blk.cell hPr 0
      simp only [List.getElem?_toArray, List.getElem?_cons_zero, List.getElem?_cons_succ] at kp0
      have kt0 := Blk.cell hTr 0
      simp only [List.getElem?_toArray, List.getElem?_cons_zero, List.getElem?_cons_succ] at kt0
      have hb5' := Hbq.out.trans (hb5.mono Hbq.out.size)
      have HPr := Lib.hid hPr
      have HTr := Lib.hid hTr
      have HOr := Lib.hid hOr
      have Hrt := Lib.hid hrt
      have Hb5' := Lib.hid hb5'
      clear hb5' hrt hOr hTr hPr
      clear hb5
      cases cb
      all_goals
        go_wp2_with fail
        refine Hrt.out.mono ?_
        rintro e w6 ⟨rfl, hb6⟩
        have hbe := Hb5'.out.trans (hb6.mono Hb5'.out.size)
        have Hbe := Lib.hid hbe
        clear hbe
        clear hb6 kp0 kt0
        go_wp2_with fail
        exact ⟨⟨k + 1, by omega, by go_num, Hbe.out⟩, by simp [intOf]; omega⟩
    · have hkI : ¬ (k : Int) < 2 := by omega
      have hsm := refsame_any _ _ gs0 gs0 wr W4.heap.size hsq (hAq.more (by omega)) (hOq.more (by omega))
      rw [(eqGs_iff gs0 gs0).2 rfl] at hsm
      have Hbq := Lib.hid hbq
      have HPq := Lib.hid hPq
      have HTq := Lib.hid hTq
      have HAq := Lib.hid hAq
      have HOq := Lib.hid hOq
      have Hbwq := Lib.hid hbwq
      have HLq := Lib.hid hLq
      have HSM := Lib.hid hsm
      clear hsm hLq hbwq hOq hAq hTq hPq hbq
      go_wp2_with fail
      refine HSM.out.mono ?_
      rintro e w6 ⟨rfl, hb6⟩
      have hbe := Hbwq.out.trans (hb6.mono Hbwq.out.size)
      have Hbe := Lib.hid hbe
      clear hbe
      clear hb6 kp0 kt0
      go_wp2_with fail
      go_ret
      exact ⟨rfl, Hbe.out⟩
end Go.Proofs.Ytfjalejlbegkeaa
