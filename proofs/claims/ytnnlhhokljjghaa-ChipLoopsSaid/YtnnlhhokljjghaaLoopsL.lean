/- Walk of ChipLoops: a loop of the machine multiplies by adding. No condition. -/
import Derived.Test.YtnnlhhokljjghaaLoopsP
import Derived.Test.YtnnlhhokljjghaaOpen
set_option linter.unusedVariables false
set_option linter.unusedSimpArgs false
namespace Go.Proofs.Ytnnlhhokljjghaa
open Go.RowKit

theorem field_kind (v0 v1 v2 v3 v4 : Value) (W : World) : (Instr.field 47 (.agg #[v0, v1, v2, v3, v4]) 0).run Try.prog W = .ok v0 W := by kernel_rfl
set_option maxRecDepth 100000 in
set_option maxHeartbeats 4000000 in
theorem loops_any (w : World) (a0 : Int) (w0 : 0 ≤ a0 ∧ a0 < 65536) (v : Int) (hv : U64 v) :
    Calls Try.prog 4 #[.int .u16 a0, .int .u64 v] w fun e w' => e = .returned (.bool true) ∧ Below w.heap.size w w' := by
  obtain ⟨k, hk, hk5⟩ : ∃ k : Nat, a0.tmod 500 = k ∧ k < 500 := by
    refine ⟨(a0 % 500).toNat, ?_, by omega⟩
    rw [Int.tmod_eq_emod_of_nonneg w0.1]
    omega
  obtain ⟨v0, v1⟩ := id hv
  obtain ⟨a, ha⟩ : ∃ a, wrap32 (v % 4294967296) = a := ⟨_, rfl⟩
  obtain ⟨b, hb⟩ : ∃ b, wrap32 (v / 4294967296) = b := ⟨_, rfl⟩
  have ha2 : a % 4294967296 = v % 4294967296 := by rw [← ha]; unfold wrap32; omega
  have hb2 : b % 4294967296 = v / 4294967296 := by rw [← hb]; unfold wrap32; omega
  have ha3 : -2147483648 ≤ a ∧ a ≤ 2147483647 := by rw [← ha]; unfold wrap32; omega
  have hb3 : -2147483648 ≤ b ∧ b ≤ 2147483647 := by rw [← hb]; unfold wrap32; omega
  have hfld : ∀ (v0 v1 v2 v3 v4 : Value) (W : World), (Instr.field 47 (.agg #[v0, v1, v2, v3, v4]) 0).run Try.prog W = .ok v0 W := fun v0 v1 v2 v3 v4 W => field_kind v0 v1 v2 v3 v4 W
  have Hv := Lib.hid hv
  have Ha2 := Lib.hid ha2
  have Hb2 := Lib.hid hb2
  have Ha3 := Lib.hid ha3
  have Hb3 := Lib.hid hb3
  clear hb3 ha3 hb2 ha2 hv
  go_enter Try.func4, Try.ntmps4
  go_wp2_with fail
  refine (first_any w).mono ?_
  rintro e u1 ⟨rfl, hb1⟩
  have HB1 := Lib.hid hb1
  clear hb1
  obtain ⟨l, hl⟩ : ∃ l, l = loopL k a b := ⟨_, rfl⟩
  have hg : ∀ i ∈ l, i.Wf ∧ goodP i = true := by
    intro i hi
    have h1 := Ha3.out
    have h2 := Hb3.out
    rw [hl] at hi
    simp only [loopL, List.mem_cons, List.not_mem_nil, or_false] at hi
    rcases hi with rfl | rfl | rfl | rfl | rfl | rfl | rfl | rfl
    all_goals refine ⟨⟨by simp, by simp, by simp, by simp, ?_⟩, by rfl⟩
    all_goals simp only
    all_goals omega
  have hlen : l.length = 8 := by rw [hl]; rfl
  have hall : l.all goodP = true := List.all_eq_true.2 fun i hi => (hg i hi).2
  have hdec : decM 8 (l.flatMap mbytes) = some l := by have := decM_flat l hg; rwa [hlen] at this
  have hfl : (l.flatMap mbytes).length = 64 := by rw [mbytes_flen, hlen]
  have hbd : ∀ x ∈ l.flatMap mbytes, 0 ≤ x ∧ x < 256 := mbytes_bd l hg
  obtain ⟨cs, hcs⟩ : ∃ cs, cs = l.flatMap mcells := ⟨_, rfl⟩
  have hrd := Reads.newS (w := u1) u1.heap.size rfl cs.toArray 30 5 8 cs rfl (by rw [hcs, mcells_flen, hlen])
  have hb0 := HB1.out.alloc HB1.out.size (.cells cs.toArray 30)
  have he : cs.toArray = (l.flatMap mcells).toArray := by rw [hcs]
  rw [hl] at he
  simp only [loopL, List.flatMap_cons, List.flatMap_nil, mcells, List.cons_append, List.nil_append] at he
  rw [he] at hrd hb0
  rw [hcs] at hrd
  have hm : MayP 8 0 := by unfold MayP; decide
  have Hl := Lib.hid hl
  have Hg := Lib.hid hg
  have Hlen := Lib.hid hlen
  have Hall := Lib.hid hall
  have Hdec := Lib.hid hdec
  have Hfl := Lib.hid hfl
  have Hbd := Lib.hid hbd
  have Hcs := Lib.hid hcs
  have Hrd := Lib.hid hrd
  have Hb0 := Lib.hid hb0
  have He := Lib.hid he
  have Hm := Lib.hid hm
  clear hm he hb0 hrd hcs hbd hfl hdec hall hlen hg hl
  go_wp2_with fail
  refine (encode_any _ 8 _ l _ (u1.heap.size + 1) Hrd.out Hlen.out (by omega) (by simp) (fun i hi => (Hg.out i hi).1)).mono ?_
  rintro e w1 ⟨hres, hb1⟩
  rcases hres with ⟨_, sv1, rfl, hown1⟩ | ⟨hno, _⟩
  case inr => rw [Hall.out] at hno; cases hno
  obtain ⟨A1, c1, rfl, hn1, hc1, hr1⟩ := own_any hown1
  have hbw1 := Hb0.out.trans (hb1.mono Hb0.out.size)
  have Hr1 := Lib.hid hr1
  have Hbw1 := Lib.hid hbw1
  clear hbw1 hr1
  clear hown1 hb1
  go_wp2_with fail
  refine (new_code w1 8 0 Hm.out A1 (8 * 8) c1 _ l _ Hr1.out Hfl.out hn1 hc1 (by omega) (Nat.le_refl _) Hbd.out (by omega) Hdec.out).mono ?_
  rintro e w2 ⟨lo, p, A2, c2, sv, rfl, hC, hM, hlo, hb2⟩
  have hbw2 := Hbw1.out.trans (hb2.mono Hbw1.out.size)
  have hwlo : w.heap.size ≤ lo := Nat.le_trans Hbw1.out.size hlo
  have hst : LoopSt w2 lo p A2 c2 sv k v a b 0 := by
    rw [Hl.out] at hC hM
    exact ⟨0, 0, 0, 0, hC, hM, .inl ⟨rfl, rfl, rfl⟩⟩
  have Hst := Lib.hid hst
  have Hbw2 := Lib.hid hbw2
  have Hwlo := Lib.hid hwlo
  clear hwlo hbw2 hst
  clear hC hM hlo hb2
  go_wp2_with fail
  go_loopw [10] (fun i wr => ∃ j : Nat, j ≤ 4 + 4 * k ∧ i = .int .i64 j ∧ LoopSt wr lo p A2 c2 sv k v a b j ∧ Below w.heap.size w wr) (fun i _ => 4 + 4 * k - (intOf i).toNat)
  case atStart => exact ⟨0, by omega, rfl, Hst.out, Hbw2.out⟩
  case round =>
    obtain ⟨j, hj, rfl, hst, hbw⟩ := hrel
    have Hst := Lib.hid hst
    have Hbw := Lib.hid hbw
    clear hbw hst
    by_cases hjk : j < 4 + 4 * k
    · go_wp2_with fail
      refine (loop_step hk5 Hv.out Ha2.out Hb2.out Hst.out hjk).mono ?_
      rintro e w3 ⟨rfl, hst3, hb3⟩
      have hbw3 := Hbw.out.trans (hb3.mono Hwlo.out)
      have Hst3 := Lib.hid hst3
      have Hbw3 := Lib.hid hbw3
      clear hbw3 hst3
      clear hb3
      go_wp2_with fail
      exact ⟨⟨j + 1, by omega, by go_num, Hst3.out, Hbw3.out⟩, by simp [intOf]; omega⟩
    · obtain ⟨r0, r1, r2, pc, hC, hM, hs⟩ := Hst.out
      obtain ⟨rfl, h0⟩ : pc = 7 ∧ r0 = k * v % 18446744073709551616 := by
        rcases hs with ⟨h, _⟩ | ⟨h, _⟩ | ⟨h, _⟩ | ⟨t, ht, h, _⟩ | ⟨t, ht, h, _⟩ | ⟨t, ht, h, _⟩ | ⟨t, ht, h, _⟩ | ⟨h, h1, h2⟩
        all_goals first | omega | exact ⟨h1, h2⟩
      have hw0 : IntKind.u64.wrap ((k : Int) * v) = r0 := by rw [h0, IntKind.wrap_u64]
      clear hs
      have HC := Lib.hid hC
      have HM := Lib.hid hM
      have H0 := Lib.hid h0
      clear h0 hM hC
      go_wp2_with fail
      refine (step_sys HC.out HM.out (Nat.le_refl _) rfl (i := ⟨13, 0, 0, 0, 5⟩) rfl rfl).mono ?_
      rintro e w3 ⟨rfl, hC3, hK3⟩
      have hb3 := Hbw.out.trans ((HC.out.keepP hK3).mono Hwlo.out)
      have HC3 := Lib.hid hC3
      have Hb3 := Lib.hid hb3
      clear hb3 hC3
      clear hK3
      go_wp2_with fail
      refine (reg_in HC3.out 0 r0 rfl 0 rfl).mono ?_
      rintro e w4 ⟨rfl, rfl⟩
      go_wp2_with fail
      refine (step_out HC3.out (.inr (by show ((8 : Nat) : Int) ≤ _; omega))).mono ?_
      rintro e w5 ⟨rfl, hC5, hK5⟩
      have hb5 := Hb3.out.trans ((HC3.out.keepP hK5).mono Hwlo.out)
      have Hb5 := Lib.hid hb5
      clear hb5
      clear hC5 hK5
      go_wp2_with fail
      go_ret
      exact ⟨rfl, Hb5.out⟩
theorem walk_ChipLoops (w : World) (a0 : Int) (w0 : (Lit.int .u16 a0).wf = true) (a1 : Int) (w1 : (Lit.int .u64 a1).wf = true) :
    Calls Try.prog 4 #[.int .u16 a0, .int .u64 a1] w fun e w' => e = .returned (.bool true) ∧ Below w.heap.size w w' :=
  loops_any w a0 (by have := bounds_u16 w0; omega) a1 (u64_of_wf w1)
end Go.Proofs.Ytnnlhhokljjghaa
