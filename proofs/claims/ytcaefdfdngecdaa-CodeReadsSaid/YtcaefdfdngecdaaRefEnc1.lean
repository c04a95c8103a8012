/- Walks of the document's small writers: low (a number's bytes), Width, Says. Conditions: numbers fit their kinds. -/
import Derived.Test.YtcaefdfdngecdaaEnc4
set_option linter.unusedVariables false
set_option linter.unusedSimpArgs false
namespace Go.Proofs.Ytcaefdfdngecdaa
open Go.RowKit

theorem div_pow256 (v : Int) (k : Nat) : v / 256 ^ k / 256 = v / 256 ^ (k + 1) := by
  rw [Int.ediv_ediv_of_nonneg (Int.le_of_lt (Int.pow_pos (by omega))), ← Int.pow_succ]
set_option maxHeartbeats 400000 in
theorem low_any (v : Int) (N : Nat) (w : World) (hv : U64 v) (hn : N ≤ 8) :
    Calls Try.prog 25 #[.int .u64 v, .int .i64 N] w fun e w' => ∃ sv, e = .returned sv ∧ w'.ownsRow w.heap.size 5 1 sv N (byteVals (bytesLE N v)) ∧ Below w.heap.size w w' := by
  obtain ⟨i0, hi0, hz0, hz1, hz2⟩ := info_parts infoU8
  unfold U64 at hv
  obtain ⟨hv0, hv1⟩ := hv
  have HP : Hid (∀ k : Nat, 0 ≤ v / 256 ^ k) := fun k => Int.ediv_nonneg hv0 (Int.le_of_lt (Int.pow_pos (by omega)))
  go_enter Try.func25, Try.ntmps25
  go_wp2_with fail
  go_loopw [0, 5, 6] (fun x s i wr => ∃ k : Nat, k ≤ N ∧ i = .int .i64 k ∧ x = .int .u64 (v / 256 ^ k) ∧ wr.ownsRow w.heap.size 5 1 s k (byteVals (bytesLE k v)) ∧ Below w.heap.size w wr) (fun _ _ i _ => N - (intOf i).toNat)
  case atStart => exact ⟨0, by omega, rfl, by simp, ⟨by simp [bytesLE, byteVals], .inl ⟨rfl, rfl⟩⟩, Below.refl _ _⟩
  case round =>
    obtain ⟨k, hk, rfl, rfl, hown, hbw⟩ := hrel
    by_cases hlt : k < N
    · have hsz := hbw.size
      have hp := HP.out k
      go_wp2_with (first
        | (at_builtin
           refine wpList_append_any _ rfl (.tmp 12) (.tmp 16) _ rfl w.heap.size 5 i0 _ 1 1 Try.underlying22 hi0 hz0 hz1 hz2 rfl (by omega) _ k (byteVals (bytesLE k v)) rfl
             (hown.alloc _) _ (some ⟨wr.heap.size, 0, none⟩) 1 1 [.int .u8 _] rfl (Reads.new1 _ _ _) ?c1 ?c2 ?c3 ?c4 ?_
           case c1 => intro u hu; simp only [List.mem_singleton] at hu; subst hu; rfl
           case c2 => simp only [maxLen]; omega
           case c3 => omega
           case c4 => simp; omega
           intro v2 w2 hown2 hg2 hat2))
      have ht : IntKind.u64.wrap ((v / 256 ^ k).tdiv 256) = v / 256 ^ (k + 1) := by
        rw [Int.tdiv_eq_ediv_of_nonneg hp, div_pow256, IntKind.wrap_u64]
        exact Int.emod_eq_of_lt (HP.out (k + 1)) (Int.lt_of_le_of_lt (Int.ediv_le_self _ hv0) hv1)
      refine ⟨⟨k + 1, by omega, by go_num, by rw [ht], ?_, (hbw.alloc hsz _).grown hg2 (by simp; omega) (fun g hg => (hown.lt g hg).1)⟩, by simp [intOf]; omega⟩
      have e : byteVals (bytesLE (k + 1) v) = byteVals (bytesLE k v) ++ [.int .u8 (v / 256 ^ k % 256)] := by
        rw [bytesLE_snoc]; simp [byteVals, byteAt]
      rw [e]
      exact hown2
    · obtain rfl : N = k := by omega
      go_wp2_with fail
      go_ret
      exact ⟨_, rfl, hown, hbw⟩
set_option maxHeartbeats 1000000 in
theorem refwidth_any (op : Int) (w : World) : Calls Try.prog 23 #[.int .u8 op] w fun e w' => e = .returned (.int .i64 (widthV op)) ∧ w = w' := by
  go_enter Try.func23, Try.ntmps23
  go_wp2_with fail
  all_goals
    go_ret
    refine ⟨ret_i64 ?_, rfl⟩
    try simp only [beq_iff_eq, beq_eq_false_iff_ne, ne_eq] at *
    unfold widthV
    repeat (first | rw [if_pos (by omega)] | rw [if_neg (by omega)])
theorem refwidth_as (op v : Int) (w : World) (hv : widthV op = v) : Calls Try.prog 23 #[.int .u8 op] w fun e w' => e = .returned (.int .i64 v) ∧ w = w' := by
  subst hv; exact refwidth_any op w
set_option maxRecDepth 100000 in
set_option maxHeartbeats 1000000 in
theorem says_any (i : InstrD) (w : World) :
    Calls Try.prog 26 #[.agg #[.int .u8 i.op, .int .i64 i.arg, .int .u64 i.imm]] w fun e w' => e = .returned (.bool (okI i)) ∧ Below w.heap.size w w' := by
  obtain ⟨op, arg, imm⟩ := i
  have hb := Blk.new w 49 #[.int .u8 op, .int .i64 arg, .int .u64 imm]
  have hbw : Below w.heap.size w (w.alloc (.cells #[.int .u8 op, .int .i64 arg, .int .u64 imm] 49)) := (Below.refl _ _).alloc (Nat.le_refl _) _
  have k0 := Blk.cell hb 0
  have k1 := Blk.cell hb 1
  have k2 := Blk.cell hb 2
  simp only [List.getElem?_toArray, List.getElem?_cons_zero, List.getElem?_cons_succ] at k0 k1 k2
  have Hbw := Lib.hid hbw
  clear hbw
  clear hb
  rcases width_cases op with hw | hw | hw | hw | hw
  · have ho : okI ⟨op, arg, imm⟩ = (arg == 0) := by rw [Bool.eq_iff_iff]; simp [okI, hw]
    have Hw := Lib.hid hw
    have Ho := Lib.hid ho
    clear ho hw
    go_enter Try.func26, Try.ntmps26
    go_wp2_with fail
    refine (refwidth_as op 8 _ Hw.out).mono ?_
    rintro e w' ⟨rfl, rfl⟩
    go_wp2_with fail
    go_ret
    exact ⟨by rw [Ho.out]; rfl, Hbw.out⟩
  · obtain ⟨b1, h1⟩ : ∃ b, (imm == 0) = b := ⟨_, rfl⟩
    obtain ⟨b2, h2⟩ : ∃ b, decide (0 ≤ arg) = b := ⟨_, rfl⟩
    obtain ⟨b3, h3⟩ : ∃ b, decide (arg ≤ 65535) = b := ⟨_, rfl⟩
    have ho : okI ⟨op, arg, imm⟩ = (b1 && b2 && b3) := by
      rw [← h1, ← h2, ← h3, Bool.eq_iff_iff]; simp [okI, hw, and_assoc]; omega
    have Hw := Lib.hid hw
    have Ho := Lib.hid ho
    clear ho hw
    cases b1 <;> cases b2 <;> cases b3
    all_goals
      go_enter Try.func26, Try.ntmps26
      go_wp2_with fail
      refine (refwidth_as op 2 _ Hw.out).mono ?_
      rintro e w' ⟨rfl, rfl⟩
      go_wp2_with fail
      go_ret
      exact ⟨by rw [Ho.out]; rfl, Hbw.out⟩
  · obtain ⟨b1, h1⟩ : ∃ b, (imm == 0) = b := ⟨_, rfl⟩
    obtain ⟨b2, h2⟩ : ∃ b, decide (0 ≤ arg) = b := ⟨_, rfl⟩
    obtain ⟨b3, h3⟩ : ∃ b, decide (arg ≤ 255) = b := ⟨_, rfl⟩
    have ho : okI ⟨op, arg, imm⟩ = (b1 && b2 && b3) := by
      rw [← h1, ← h2, ← h3, Bool.eq_iff_iff]; simp [okI, hw, and_assoc]; omega
    have Hw := Lib.hid hw
    have Ho := Lib.hid ho
    clear ho hw
    cases b1 <;> cases b2 <;> cases b3
    all_goals
      go_enter Try.func26, Try.ntmps26
      go_wp2_with fail
      refine (refwidth_as op 1 _ Hw.out).mono ?_
      rintro e w' ⟨rfl, rfl⟩
      go_wp2_with fail
      go_ret
      exact ⟨by rw [Ho.out]; rfl, Hbw.out⟩
  · obtain ⟨b1, h1⟩ : ∃ b, (imm == 0) = b := ⟨_, rfl⟩
    obtain ⟨b2, h2⟩ : ∃ b, (arg == 0) = b := ⟨_, rfl⟩
    have ho : okI ⟨op, arg, imm⟩ = (b1 && b2) := by
      rw [← h1, ← h2, Bool.eq_iff_iff]; simp [okI, hw]; omega
    have Hw := Lib.hid hw
    have Ho := Lib.hid ho
    clear ho hw
    cases b1 <;> cases b2
    all_goals
      go_enter Try.func26, Try.ntmps26
      go_wp2_with fail
      refine (refwidth_as op 0 _ Hw.out).mono ?_
      rintro e w' ⟨rfl, rfl⟩
      go_wp2_with fail
      go_ret
      exact ⟨by rw [Ho.out]; rfl, Hbw.out⟩
  · have ho : okI ⟨op, arg, imm⟩ = false := by simp [okI, hw]
    have Hw := Lib.hid hw
    have Ho := Lib.hid ho
    clear ho hw
    go_enter Try.func26, Try.ntmps26
    go_wp2_with fail
    refine (refwidth_as op (-1) _ Hw.out).mono ?_
    rintro e w' ⟨rfl, rfl⟩
    go_wp2_with fail
    go_ret
    exact ⟨by rw [Ho.out]; rfl, Hbw.out⟩
end Go.Proofs.Ytcaefdfdngecdaa
