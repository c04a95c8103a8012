/- Walk of ChipCalls: a call and its return leave the stack pointer as it was. No condition. -/
import Derived.Test.YtnnlhhokljjghaaCallsP
import Derived.Test.YtnnlhhokljjghaaOpen
set_option linter.unusedVariables false
set_option linter.unusedSimpArgs false
namespace Go.Proofs.Ytnnlhhokljjghaa
open Go.RowKit

theorem good_frame (op : Int) (ho : op = 11 ∨ op = 12) (m : Nat) (hm : m < 100) : goodP ⟨op, 0, 0, 0, 8 * m⟩ = true := by
  have h1 : specOk op (8 * (m : Int)) = true := by
    unfold specOk
    rw [if_pos ho]
    simp only [Bool.and_eq_true, decide_eq_true_eq]
    omega
  unfold goodP
  rcases ho with rfl | rfl
  · rw [show lettersOf 11 = some [73] from rfl]
    simp only [h1, Bool.and_true]
    rfl
  · rw [show lettersOf 12 = some [73] from rfl]
    simp only [h1, Bool.and_true]
    rfl
theorem field_kind (v0 v1 v2 v3 v4 : Value) (W : World) : (Instr.field 47 (.agg #[v0, v1, v2, v3, v4]) 0).run Try.prog W = .ok v0 W := by kernel_rfl
theorem cut_at (a : Int) (L : Nat) (h0 : 0 < L) (h1 : L ≤ 160000000) : ∃ k : Nat, k < L ∧ IntKind.i64.wrap ((IntKind.u64.wrap a).tmod (L : Int)) = (k : Int) := by
  have h2 : 0 ≤ IntKind.u64.wrap a := by rw [IntKind.wrap_u64]; omega
  have h3 := Int.emod_nonneg (IntKind.u64.wrap a) (show (L : Int) ≠ 0 by omega)
  have h4 := Int.emod_lt_of_pos (IntKind.u64.wrap a) (show (0 : Int) < L by omega)
  refine ⟨((IntKind.u64.wrap a) % L).toNat, by omega, ?_⟩
  rw [Int.tmod_eq_emod_of_nonneg h2, IntKind.wrap_i64]
  omega
set_option maxRecDepth 100000 in
set_option maxHeartbeats 4000000 in
theorem walk_ChipCalls (w : World) (a0 : Int) (w0 : (Lit.int .i64 a0).wf = true) (a1 : Int) (w1 : (Lit.int .i64 a1).wf = true) :
    Calls Try.prog 6 #[.int .i64 a0, .int .i64 a1] w fun e w' => e = .returned (.bool true) ∧ Below w.heap.size w w' := by
  obtain ⟨m, hm100, hmq⟩ := cut_at a0 100 (by omega) (by omega)
  obtain ⟨d1, hd1, hdq⟩ := cut_at a1 40 (by omega) (by omega)
  have hmq' : IntKind.i64.wrap ((IntKind.u64.wrap a0).tmod 100) = (m : Int) := hmq
  have hdq' : IntKind.i64.wrap ((IntKind.u64.wrap a1).tmod 40) = (d1 : Int) := hdq
  obtain ⟨d, hd⟩ : ∃ d : Nat, 1 + (d1 : Int) = d := ⟨1 + d1, by omega⟩
  have hd0 : 0 < d := by omega
  have hd40 : d ≤ 40 := by omega
  clear hmq hdq hd1 w0 w1
  go_enter Try.func6, Try.ntmps6
  go_wp2_with fail
  refine (first_any w).mono ?_
  rintro e u1 ⟨rfl, hb1⟩
  have HB1 := Lib.hid hb1
  clear hb1
  obtain ⟨l, hl⟩ : ∃ l, l = callL d (8 * m) := ⟨_, rfl⟩
  have hg : ∀ i ∈ l, i.Wf ∧ goodP i = true := by
    intro i hi
    rw [hl] at hi
    simp only [callL, List.mem_cons, List.not_mem_nil, or_false] at hi
    rcases hi with rfl | rfl | rfl | rfl | rfl | rfl | rfl | rfl | rfl | rfl
    all_goals refine ⟨⟨by simp, by simp, by simp, by simp, ?_⟩, ?_⟩
    all_goals first | rfl | (simp only; omega) | exact good_frame _ (.inl rfl) _ hm100 | exact good_frame _ (.inr rfl) _ hm100
  have hlen : l.length = 10 := by rw [hl]; rfl
  have hall : l.all goodP = true := List.all_eq_true.2 fun i hi => (hg i hi).2
  have hdec : decM 10 (l.flatMap mbytes) = some l := by have := decM_flat l hg; rwa [hlen] at this
  have hfl : (l.flatMap mbytes).length = 80 := by rw [mbytes_flen, hlen]
  have hbd : ∀ x ∈ l.flatMap mbytes, 0 ≤ x ∧ x < 256 := mbytes_bd l hg
  obtain ⟨cs, hcs⟩ : ∃ cs, cs = l.flatMap mcells := ⟨_, rfl⟩
  have hrd := Reads.newS (w := u1) u1.heap.size rfl cs.toArray 30 5 10 cs rfl (by rw [hcs, mcells_flen, hlen])
  have hb0 := HB1.out.alloc HB1.out.size (.cells cs.toArray 30)
  have he : cs.toArray = (l.flatMap mcells).toArray := by rw [hcs]
  rw [hl] at he
  simp only [callL, List.flatMap_cons, List.flatMap_nil, mcells, List.cons_append, List.nil_append] at he
  rw [he] at hrd hb0
  rw [hcs] at hrd
  have hm : MayP 4096 65536 := by unfold MayP; decide
  have Hl := Lib.hid hl
  have Hg := Lib.hid hg
  have Hlen := Lib.hid hlen
  have Hall := Lib.hid hall
  have Hdec := Lib.hid hdec
  have Hfl := Lib.hid hfl
  have Hbd := Lib.hid hbd
  have Hcs := Lib.hid hcs
  have Hrd := Lib.hid hrd
  have Hb0 := Lib.hid hb0
  have He := Lib.hid he
  have Hm := Lib.hid hm
  clear hm he hb0 hrd hcs hbd hfl hdec hall hlen hg hl
  go_wp2_with fail
  refine (encode_any _ 10 _ l _ (u1.heap.size + 1) Hrd.out Hlen.out (by omega) (by simp) (fun i hi => (Hg.out i hi).1)).mono ?_
  rintro e w1 ⟨hres, hb1⟩
  rcases hres with ⟨_, sv1, rfl, hown1⟩ | ⟨hno, _⟩
  case inr => rw [Hall.out] at hno; cases hno
  obtain ⟨A1, c1, rfl, hn1, hc1, hr1⟩ := own_any hown1
  have hbw1 := Hb0.out.trans (hb1.mono Hb0.out.size)
  have Hr1 := Lib.hid hr1
  have Hbw1 := Lib.hid hbw1
  clear hbw1 hr1
  clear hown1 hb1
  go_wp2_with fail
  refine (new_code w1 4096 65536 Hm.out A1 (8 * 10) c1 _ l _ Hr1.out Hfl.out hn1 hc1 (by omega) (Nat.le_refl _) Hbd.out (by omega) Hdec.out).mono ?_
  rintro e w2 ⟨lo, p, A2, c2, sv, rfl, hC, hM, hlo, hb2⟩
  have hbw2 := Hbw1.out.trans (hb2.mono Hbw1.out.size)
  have hwlo : w.heap.size ≤ lo := Nat.le_trans Hbw1.out.size hlo
  have hst : CallSt w2 lo p A2 c2 sv d m 0 := by
    rw [Hl.out] at hC hM
    exact ⟨0, 0, 8192, 0, _, hC, hM, by decide, .inl ⟨rfl, rfl, rfl, rfl⟩⟩
  have hCw := hC
  have Hst := Lib.hid hst
  have Hbw2 := Lib.hid hbw2
  have Hwlo := Lib.hid hwlo
  have HCw := Lib.hid hCw
  clear hCw hwlo hbw2 hst
  clear hC hM hlo hb2
  go_wp2_with fail
  refine (reg_in HCw.out 14 69632 rfl 14 rfl).mono ?_
  rintro e w3 ⟨rfl, rfl⟩
  clear HCw
  go_wp2_with fail
  go_loopw [12] (fun i wr => ∃ j : Nat, i = .int .i64 j ∧ CallSt wr lo p A2 c2 sv d m j ∧ Below w.heap.size w wr) (fun i _ => 20 * d + 20 - (intOf i).toNat)
  case atStart => exact ⟨0, rfl, Hst.out, Hbw2.out⟩
  case round =>
    obtain ⟨j, rfl, hst, hbw⟩ := hrel
    have hj := call_left hd0 hst
    have hj' : (j : Int) < 20 * d + 20 := by omega
    have Hst := Lib.hid hst
    have Hbw := Lib.hid hbw
    clear hbw hst
    go_wp2_with fail
    refine (call_step hd0 hd40 hm100 Hst.out).mono ?_
    rintro e w3 ⟨hres, hb3⟩
    have hbw3 := Hbw.out.trans (hb3.mono Hwlo.out)
    have Hbw3 := Lib.hid hbw3
    clear hbw3
    clear hb3
    rcases hres with ⟨rfl, hst3⟩ | ⟨rfl, hst3⟩ | ⟨rfl, hst3⟩
    · have hst4 := hst3.alloc (.cells #[.int .i64 0, .int .i64 0, .int .i64 0, .int .i64 0, .int .i64 0] 47)
      have hb4 := Hbw3.out.alloc Hbw3.out.size (.cells #[.int .i64 0, .int .i64 0, .int .i64 0, .int .i64 0, .int .i64 0] 47)
      have hT := Blk.new w3 47 #[.int .i64 0, .int .i64 0, .int .i64 0, .int .i64 0, .int .i64 0]
      have kt0 := Blk.cell hT 0
      have kt1 := Blk.cell hT 1
      have kt2 := Blk.cell hT 2
      have kt3 := Blk.cell hT 3
      have kt4 := Blk.cell hT 4
      simp only [List.getElem?_toArray, List.getElem?_cons_zero, List.getElem?_cons_succ] at kt0 kt1 kt2 kt3 kt4
      have Hst4 := Lib.hid hst4
      have Hb4 := Lib.hid hb4
      have HT := Lib.hid hT
      clear hT hb4 hst4
      clear hst3
      go_wp2_with fail
      exact ⟨⟨j + 1, by go_num, Hst4.out, Hb4.out⟩, by simp [intOf]; omega⟩
    · have hst4 := hst3.alloc (.cells #[.int .i64 2, .int .i64 0, .int .i64 0, .int .i64 0, .int .i64 (8 * m)] 47)
      have hb4 := Hbw3.out.alloc Hbw3.out.size (.cells #[.int .i64 2, .int .i64 0, .int .i64 0, .int .i64 0, .int .i64 (8 * m)] 47)
      have hT := Blk.new w3 47 #[.int .i64 2, .int .i64 0, .int .i64 0, .int .i64 0, .int .i64 (8 * m)]
      have kt0 := Blk.cell hT 0
      have kt1 := Blk.cell hT 1
      have kt2 := Blk.cell hT 2
      have kt3 := Blk.cell hT 3
      have kt4 := Blk.cell hT 4
      simp only [List.getElem?_toArray, List.getElem?_cons_zero, List.getElem?_cons_succ] at kt0 kt1 kt2 kt3 kt4
      have Hst4 := Lib.hid hst4
      have Hb4 := Lib.hid hb4
      have HT := Lib.hid hT
      clear hT hb4 hst4
      clear hst3
      go_wp2_with fail
      refine (ent_step hd40 hm100 Hst4.out).mono ?_
      rintro e w5 ⟨rfl, hst5, hb5⟩
      have hbw5 := Hb4.out.trans (hb5.mono Hwlo.out)
      have Hst5 := Lib.hid hst5
      have Hbw5 := Lib.hid hbw5
      clear hbw5 hst5
      clear hb5
      go_wp2_with fail
      exact ⟨⟨j + 1, by go_num, Hst5.out, Hbw5.out⟩, by simp [intOf]; omega⟩
    · obtain ⟨r0, ws, hC3⟩ := hst3
      have hC4 := hC3.alloc (.cells #[.int .i64 1, .int .i64 0, .int .i64 1, .int .i64 0, .int .i64 99] 47)
      have hb4 := Hbw3.out.alloc Hbw3.out.size (.cells #[.int .i64 1, .int .i64 0, .int .i64 1, .int .i64 0, .int .i64 99] 47)
      have hT := Blk.new w3 47 #[.int .i64 1, .int .i64 0, .int .i64 1, .int .i64 0, .int .i64 99]
      have kt0 := Blk.cell hT 0
      have kt1 := Blk.cell hT 1
      have kt2 := Blk.cell hT 2
      have kt3 := Blk.cell hT 3
      have kt4 := Blk.cell hT 4
      simp only [List.getElem?_toArray, List.getElem?_cons_zero, List.getElem?_cons_succ] at kt0 kt1 kt2 kt3 kt4
      have HC4 := Lib.hid hC4
      have Hb4 := Lib.hid hb4
      have HT := Lib.hid hT
      clear hT hb4 hC4
      clear hC3
      go_wp2_with fail
      refine (reg_in HC4.out 1 d rfl 1 rfl).mono ?_
      rintro e w5 ⟨rfl, rfl⟩
      go_wp2_with fail
      refine (reg_in HC4.out 14 69632 rfl 14 rfl).mono ?_
      rintro e w5 ⟨rfl, rfl⟩
      go_wp2_with fail
      refine (pc_in HC4.out).mono ?_
      rintro e w5 ⟨rfl, rfl⟩
      go_wp2_with fail
      go_ret
      exact ⟨rfl, Hb4.out⟩
end Go.Proofs.Ytnnlhhokljjghaa
