/- The machine's memory; walks of its small methods: Reg, Set, Pc, Jump, at, Load. Conditions: the machine lies in memory. -/
import Derived.Test.YtndmhnmclogpcaaWords2
import Derived.Test.YtndmhnmclogpcaaPut
import Derived.Test.YtndmhnmclogpcaaTake
import Derived.BigQuiet
import Derived.Deep.QuietTactic
import Derived.Deep.DeepCutAuto
set_option linter.unusedVariables false
set_option linter.unusedSimpArgs false
namespace Go.Proofs.Ytndmhnmclogpcaa
open Go.RowKit

/-- a machine's cells: code, registers, place, base, stack -/
def chipCells (cv : Value) (regs : List Int) (pc base : Int) (sv : Value) : List Value := cv :: (regs.map (Value.int .u64) ++ [.int .i64 pc, .int .u64 base, sv])
def flat (ws : List Int) : List Int := ws.flatMap (bytesLE 8)
theorem flat_length (ws : List Int) : (flat ws).length = 8 * ws.length := by
  unfold flat
  induction ws with
  | nil => rfl
  | cons x r ih => rw [List.flatMap_cons, List.length_append, ih, bytesLE_length, List.length_cons]; omega
structure ChipAt (w : World) (lo p : Nat) (cv sv : Value) (regs : List Int) (pc base : Int) (ws : List Int) : Prop where
  blk : Blk w p 64 (chipCells cv regs pc base sv).toArray
  len : regs.length = 16
  u64 : ∀ r ∈ regs, U64 r
  pcI : -9223372036854775808 ≤ pc ∧ pc ≤ 9223372036854775807
  low : lo ≤ p
  row : w.ownsRow lo 5 1 sv (8 * ws.length) (byteVals (flat ws))
  wok : ∀ x ∈ ws, U64 x
  fit : 8 ≤ base ∧ base ≤ 281474976710656 ∧ base % 8 = 0 ∧ 8 * ws.length ≤ 65536
section
variable {w : World} {lo p : Nat} {cv sv : Value} {regs : List Int} {pc base : Int} {ws : List Int}
theorem chipCells_len (h : regs.length = 16) : (chipCells cv regs pc base sv).length = 20 := by simp [chipCells, h]
theorem ChipAt.code (h : ChipAt w lo p cv sv regs pc base ws) : w.cell? ⟨p, 0, none⟩ = some cv := by rw [h.blk.cell 0]; simp [chipCells]
theorem ChipAt.reg (h : ChipAt w lo p cv sv regs pc base ws) {i : Nat} {r : Int} (hr : regs[i]? = some r) : w.cell? ⟨p, 1 + i, none⟩ = some (.int .u64 r) := by
  rw [h.blk.cell (1 + i), List.getElem?_toArray, Nat.add_comm, chipCells, List.getElem?_cons_succ, List.getElem?_append_left (by
    have := (List.getElem?_eq_some_iff.1 hr).1; simpa using this), List.getElem?_map, hr]; rfl
theorem ChipAt.pc_ (h : ChipAt w lo p cv sv regs pc base ws) : w.cell? ⟨p, 17, none⟩ = some (.int .i64 pc) := by
  rw [h.blk.cell 17, List.getElem?_toArray, chipCells, List.getElem?_cons_succ, List.getElem?_append_right (by simp [h.len])]; simp [h.len]
theorem ChipAt.base_ (h : ChipAt w lo p cv sv regs pc base ws) : w.cell? ⟨p, 18, none⟩ = some (.int .u64 base) := by
  rw [h.blk.cell 18, List.getElem?_toArray, chipCells, List.getElem?_cons_succ, List.getElem?_append_right (by simp [h.len])]; simp [h.len]
theorem ChipAt.stack_ (h : ChipAt w lo p cv sv regs pc base ws) : w.cell? ⟨p, 19, none⟩ = some sv := by
  rw [h.blk.cell 19, List.getElem?_toArray, chipCells, List.getElem?_cons_succ, List.getElem?_append_right (by simp [h.len])]; simp [h.len]
theorem ChipAt.free (h : ChipAt w lo p cv sv regs pc base ws) (i : Nat) : w.frozen? ⟨p, i, none⟩ = false := h.blk.frozen i
theorem ChipAt.keep {S : Nat → Prop} {w' : World} (h : ChipAt w lo p cv sv regs pc base ws) (hk : Keeps S w w') (hp : ¬ S p) (hs : ∀ k, sv.ownBlock = some k → ¬ S k) : ChipAt w' lo p cv sv regs pc base ws :=
  ⟨hk.blk h.blk hp, h.len, h.u64, h.pcI, h.low, hk.own h.row hs, h.wok, h.fit⟩
theorem ChipAt.below {w' : World} (h : ChipAt w lo p cv sv regs pc base ws) (hb : Below w.heap.size w w') : ChipAt w' lo p cv sv regs pc base ws :=
  h.keep (S := fun _ => False) (Keeps.of_below hb (Nat.le_refl _)) id (fun _ _ => id)
theorem ChipAt.drewN (h : ChipAt w lo p cv sv regs pc base ws) (q : Nat) : ChipAt (w.drewN q) lo p cv sv regs pc base ws := ⟨h.blk, h.len, h.u64, h.pcI, h.low, h.row, h.wok, h.fit⟩
theorem ChipAt.lt (h : ChipAt w lo p cv sv regs pc base ws) : p < w.heap.size := h.blk.lt
end
theorem getElem?_set_lt {α : Type} {l : List α} {i : Nat} (h : i < l.length) (a : α) (j : Nat) : (l.set i a)[j]? = if i = j then some a else l[j]? := by
  rw [List.getElem?_set]; by_cases hij : i = j <;> simp [hij]; omega
theorem chipCells_reg (cv sv : Value) (regs : List Int) (pc base : Int) (r : Nat) (v : Int) (hr : r < regs.length) : (chipCells cv regs pc base sv).toArray.setIfInBounds (1 + r) (.int .u64 v) = (chipCells cv (regs.set r v) pc base sv).toArray := by
  rw [List.setIfInBounds_toArray]
  congr 1
  rw [Nat.add_comm, chipCells, List.set_cons_succ, chipCells, List.set_append_left _ _ (by simpa using hr), List.map_set]
theorem chipCells_at (cv sv u : Value) (regs : List Int) (pc base : Int) (h : regs.length = 16) (k : Nat) : (chipCells cv regs pc base sv).toArray.setIfInBounds (17 + k) u = (cv :: (regs.map (Value.int .u64) ++ [Value.int .i64 pc, .int .u64 base, sv].set k u)).toArray := by
  rw [List.setIfInBounds_toArray]
  congr 1
  rw [show 17 + k = (16 + k) + 1 by omega, chipCells, List.set_cons_succ, List.set_append_right _ _ (by simp [h]), List.length_map, h, Nat.add_sub_cancel_left]
section
variable {w : World} {lo p : Nat} {cv sv : Value} {regs : List Int} {pc base : Int} {ws : List Int}
theorem ChipAt.ne (h : ChipAt w lo p cv sv regs pc base ws) : sv.ownBlock ≠ some p := own_blk_ne h.row h.blk (by decide)
theorem ChipAt.setReg (h : ChipAt w lo p cv sv regs pc base ws) {r : Nat} (hr : r < 16) {v : Int} (hv : U64 v) : ChipAt (w.setCell ⟨p, 1 + r, none⟩ (.int .u64 v)) lo p cv sv (regs.set r v) pc base ws := by
  refine ⟨?_, by rw [List.length_set]; exact h.len, fun x hx => ?_, h.pcI, h.low, ownsRow_setCell_other h.row (a := ⟨p, 1 + r, none⟩) h.ne _, h.wok, h.fit⟩
  · have := h.blk.set_ (1 + r) (.int .u64 v)
    rwa [chipCells_reg _ _ _ _ _ _ _ (by rw [h.len]; exact hr)] at this
  · rcases List.mem_or_eq_of_mem_set hx with h1 | h1
    · exact h.u64 x h1
    · rw [h1]; exact hv
theorem ChipAt.setPc (h : ChipAt w lo p cv sv regs pc base ws) {v : Int} (hv : -9223372036854775808 ≤ v ∧ v ≤ 9223372036854775807) : ChipAt (w.setCell ⟨p, 17, none⟩ (.int .i64 v)) lo p cv sv regs v base ws := by
  refine ⟨?_, h.len, h.u64, hv, h.low, ownsRow_setCell_other h.row (a := ⟨p, 17, none⟩) h.ne _, h.wok, h.fit⟩
  have := h.blk.set_ 17 (.int .i64 v)
  rwa [chipCells_at _ _ _ _ _ _ h.len 0] at this
/-- another stack -/
theorem ChipAt.setStack (h : ChipAt w lo p cv sv regs pc base ws) {sv' : Value} {base' : Int} {ws' : List Int} (ho : w.ownsRow lo 5 1 sv' (8 * ws'.length) (byteVals (flat ws'))) (hw : ∀ x ∈ ws', U64 x) (hf : 8 ≤ base' ∧ base' ≤ 281474976710656 ∧ base' % 8 = 0 ∧ 8 * ws'.length ≤ 65536) :
    ChipAt ((w.setCell ⟨p, 18, none⟩ (.int .u64 base')).setCell ⟨p, 19, none⟩ sv') lo p cv sv' regs pc base' ws' := by
  have hne : sv'.ownBlock ≠ some p := own_blk_ne ho h.blk (by decide)
  refine ⟨?_, h.len, h.u64, h.pcI, h.low, ownsRow_setCell_other (ownsRow_setCell_other ho (a := ⟨p, 18, none⟩) hne _) (a := ⟨p, 19, none⟩) hne _, hw, hf⟩
  have := (h.blk.set_ 18 (.int .u64 base')).set_ 19 sv'
  rw [chipCells_at _ _ _ _ _ _ h.len 1] at this
  have e : (cv :: (regs.map (Value.int .u64) ++ [Value.int .i64 pc, .int .u64 base, sv].set 1 (.int .u64 base'))).toArray = (chipCells cv regs pc base' sv).toArray := rfl
  rw [e, chipCells_at _ _ _ _ _ _ h.len 2] at this
  exact this
/-- another row of bytes in the same place -/
theorem ChipAt.setRow {w' : World} (h : ChipAt w lo p cv sv regs pc base ws) {ws' : List Int} (hb : w.grownBy w' sv.ownBlock) (ho : w'.ownsRow lo 5 1 sv (8 * ws.length) (byteVals (flat ws'))) (hl : ws'.length = ws.length) (hw : ∀ x ∈ ws', U64 x) : ChipAt w' lo p cv sv regs pc base ws' :=
  ⟨h.blk.grown hb (Ne.symm h.ne), h.len, h.u64, h.pcI, h.low, by rw [hl]; exact ho, hw, by rw [hl]; exact h.fit⟩
end
set_option maxRecDepth 100000 in
set_option maxHeartbeats 400000 in
theorem reg_in {w : World} {lo p : Nat} {cv sv : Value} {regs : List Int} {pc base : Int} {ws : List Int} (h : ChipAt w lo p cv sv regs pc base ws) (r : Nat) (v : Int) (hr : regs[r]? = some v) (R : Int) (hR : R = r) :
    Calls Try.prog 12 #[.pointer (some ⟨p, 0, none⟩), .int .i64 R] w fun e w' => e = .returned (.int .u64 v) ∧ w = w' := by
  subst hR
  have hk := h.reg hr
  have hlt : r < 16 := by have := (List.getElem?_eq_some_iff.1 hr).1; rw [h.len] at this; exact this
  have d0 : decide ((r : Int) < 0) = false := by simp
  have d1 : decide ((15 : Int) < r) = false := by simp; omega
  clear h hr
  go_enter Try.func12, Try.ntmps12
  go_wp2_with fail
  go_ret
  exact ⟨rfl, rfl⟩
set_option maxRecDepth 100000 in
set_option maxHeartbeats 400000 in
theorem reg_out (w : World) (P : Value) (p : Nat) (hP : P = .pointer (some ⟨p, 0, none⟩)) (R : Int) (hR : R < 0 ∨ 15 < R) :
    Calls Try.prog 12 #[P, .int .i64 R] w fun e w' => e = .returned (.int .u64 0) ∧ w = w' := by
  subst hP
  by_cases h0 : R < 0
  · have d0 : decide (R < 0) = true := by simpa using h0
    go_enter Try.func12, Try.ntmps12
    go_wp2_with fail
    go_ret
    exact ⟨rfl, rfl⟩
  · have d1 : decide ((15 : Int) < R) = true := by simp; omega
    go_enter Try.func12, Try.ntmps12
    go_wp2_with fail
    go_ret
    exact ⟨rfl, rfl⟩
set_option maxRecDepth 100000 in
set_option maxHeartbeats 400000 in
theorem reg_nil (w : World) (R : Int) : Calls Try.prog 12 #[.pointer none, .int .i64 R] w fun e w' => e = .returned (.int .u64 0) ∧ w = w' := by
  go_enter Try.func12, Try.ntmps12
  go_wp2_with fail
  go_ret
  exact ⟨rfl, rfl⟩
set_option maxRecDepth 100000 in
set_option maxHeartbeats 400000 in
theorem set_in {w : World} {lo p : Nat} {cv sv : Value} {regs : List Int} {pc base : Int} {ws : List Int} (h : ChipAt w lo p cv sv regs pc base ws) (r : Nat) (v : Int) (hr : r < 16) (hv : U64 v) (R : Int) (hR : R = r) :
    Calls Try.prog 9 #[.pointer (some ⟨p, 0, none⟩), .int .i64 R, .int .u64 v] w fun e w' => e = .returned (.tuple #[]) ∧ ChipAt w' lo p cv sv (regs.set r v) pc base ws ∧ Keeps (fun k => k = p) w w' := by
  subst hR
  have hset := h.setReg hr hv
  obtain ⟨x, hx⟩ : ∃ x, regs[r]? = some x := ⟨_, List.getElem?_eq_getElem (by rw [h.len]; exact hr)⟩
  have hk := h.reg hx
  have hf := h.free (1 + r)
  have d0 : decide ((0 : Int) ≤ r) = true := by simp
  have d1 : decide ((r : Int) ≤ 15) = true := by simp; omega
  have Hset := Lib.hid hset
  clear hset
  clear h hx hv
  go_enter Try.func9, Try.ntmps9
  go_wp2_with fail
  go_end0
  exact ⟨rfl, Hset.out, Keeps.setCell (S := fun k => k = p) (Keeps.refl _ w) (p := ⟨p, 1 + r, none⟩) (.inl rfl) _⟩
set_option maxRecDepth 100000 in
set_option maxHeartbeats 400000 in
theorem set_out (w : World) (P : Value) (p : Nat) (hP : P = .pointer (some ⟨p, 0, none⟩)) (v : Int) (R : Int) (hR : R < 0 ∨ 15 < R) :
    Calls Try.prog 9 #[P, .int .i64 R, .int .u64 v] w fun e w' => e = .returned (.tuple #[]) ∧ w = w' := by
  subst hP
  by_cases h0 : 0 ≤ R
  · have d0 : decide (0 ≤ R) = true := by simpa using h0
    have d1 : ¬ R ≤ 15 := by omega
    go_enter Try.func9, Try.ntmps9
    go_wp2_with fail
    go_end0
    exact ⟨rfl, rfl⟩
  · go_enter Try.func9, Try.ntmps9
    go_wp2_with fail
    go_end0
    exact ⟨rfl, rfl⟩
set_option maxRecDepth 100000 in
set_option maxHeartbeats 400000 in
theorem set_nil (w : World) (v : Int) (R : Int) :
    Calls Try.prog 9 #[.pointer none, .int .i64 R, .int .u64 v] w fun e w' => e = .returned (.tuple #[]) ∧ w = w' := by
  go_enter Try.func9, Try.ntmps9
  go_wp2_with fail
  go_end0
  exact ⟨rfl, rfl⟩
set_option maxRecDepth 100000 in
set_option maxHeartbeats 1000000 in
theorem at_in {w : World} {lo p : Nat} {cv sv : Value} {regs : List Int} {pc base : Int} {ws : List Int} (h : ChipAt w lo p cv sv regs pc base ws) (k : Nat) (hk : k < ws.length) (a : Int) (ha : a = base + 8 * k) :
    Calls Try.prog 23 #[.pointer (some ⟨p, 0, none⟩), .int .u64 a] w fun e w' => e = .returned (.int .i64 (8 * k)) ∧ ∃ q, w' = w.drewN q := by
  have hb := h.base_
  have hs := h.stack_
  obtain ⟨A, c, rfl, hc1, hc2, _⟩ := own_any h.row
  obtain ⟨f1, f2, f3, f4⟩ := h.fit
  unfold maxLen at hc2
  obtain ⟨n, hn⟩ : ∃ n, n = 8 * ws.length := ⟨_, rfl⟩
  rw [← hn] at hs hc1 f4
  have hba : base ≤ a := by omega
  have hax : a < 18446744073709551616 := by omega
  have ha0 : 0 ≤ a := by omega
  have d0 : decide (a < base) = false := by simp; omega
  obtain ⟨r, hr⟩ : ∃ r, a.tmod 8 = r := ⟨_, rfl⟩
  have d1 : (r != 0) = false := by rw [← hr, Int.tmod_eq_emod_of_nonneg ha0]; simp; omega
  have d2 : decide ((n : Int) ≤ a - base) = false := by simp only [decide_eq_false_iff_not]; omega
  have e1 : a - base = 8 * k := by omega
  have Ha := Lib.hid ha
  have Hn := Lib.hid hn
  have He1 := Lib.hid e1
  clear e1 hn ha
  clear h
  go_enter Try.func23, Try.ntmps23
  go_upto_region 1 with fail
  go_quiet (fail)
  go_wp2_with fail
  go_ret
  exact ⟨congrArg (fun x => Ending.returned (Value.int IntKind.i64 x)) (by rw [He1.out]; exact IntWalk.wrap64_in _ (by have := Hn.out; omega)), _, rfl⟩
set_option maxRecDepth 100000 in
set_option maxHeartbeats 1000000 in
theorem at_out {w : World} {lo p : Nat} {cv sv : Value} {regs : List Int} {pc base : Int} {ws : List Int} (h : ChipAt w lo p cv sv regs pc base ws) (a : Int) (ha : U64 a) (hn : ∀ k : Nat, k < ws.length → a ≠ base + 8 * k) :
    Calls Try.prog 23 #[.pointer (some ⟨p, 0, none⟩), .int .u64 a] w fun e w' => e = .returned (.int .i64 (-1)) ∧ ∃ q, w' = w.drewN q := by
  unfold U64 at ha
  obtain ⟨ha0, hax⟩ := ha
  have hcase : a < base ∨ (base ≤ a ∧ a % 8 ≠ 0) ∨ (base ≤ a ∧ a % 8 = 0 ∧ base + 8 * ws.length ≤ a) := by
    have f3 := h.fit.2.2.1
    by_cases h1 : a < base
    · exact .inl h1
    · by_cases h2 : a % 8 = 0
      · refine .inr (.inr ⟨by omega, h2, ?_⟩)
        have := hn ((a - base) / 8).toNat
        omega
      · exact .inr (.inl ⟨by omega, h2⟩)
  have hb := h.base_
  have hs := h.stack_
  obtain ⟨A, c, rfl, hc1, hc2, _⟩ := own_any h.row
  obtain ⟨f1, f2, f3, f4⟩ := h.fit
  unfold maxLen at hc2
  obtain ⟨n, hN⟩ : ∃ n, n = 8 * ws.length := ⟨_, rfl⟩
  rw [← hN] at hs hc1 f4
  have HN := Lib.hid hN
  have Hn := Lib.hid hn
  clear hn hN
  clear h
  rcases hcase with h1 | ⟨h1, h2⟩ | ⟨h1, h2, h3⟩
  · have d0 : decide (a < base) = true := by simpa using h1
    go_enter Try.func23, Try.ntmps23
    go_upto_region 1 with fail
    go_quiet (fail)
    go_wp2_with fail
    go_ret
    exact ⟨rfl, _, rfl⟩
  · have d0 : decide (a < base) = false := by simp; omega
    obtain ⟨r, hr⟩ : ∃ r, a.tmod 8 = r := ⟨_, rfl⟩
    have d1 : (r != 0) = true := by rw [← hr, Int.tmod_eq_emod_of_nonneg ha0]; simpa using h2
    clear h2
    go_enter Try.func23, Try.ntmps23
    go_upto_region 1 with fail
    go_quiet (fail)
    go_wp2_with fail
    go_ret
    exact ⟨rfl, _, rfl⟩
  · have d0 : decide (a < base) = false := by simp; omega
    obtain ⟨r, hr⟩ : ∃ r, a.tmod 8 = r := ⟨_, rfl⟩
    have d1 : (r != 0) = false := by rw [← hr, Int.tmod_eq_emod_of_nonneg ha0]; simpa using h2
    have d2 : decide ((n : Int) ≤ a - base) = true := by have := HN.out; simp only [decide_eq_true_eq]; omega
    clear h2 h3
    go_enter Try.func23, Try.ntmps23
    go_upto_region 1 with fail
    go_quiet (fail)
    go_wp2_with fail
    go_ret
    exact ⟨rfl, _, rfl⟩
theorem flat_drop (ws : List Int) (k : Nat) : (flat ws).drop (8 * k) = flat (ws.drop k) := by
  induction k generalizing ws with
  | zero => simp
  | succ k ih =>
    cases ws with
    | nil => simp [flat]
    | cons x r =>
      rw [List.drop_succ_cons, ← ih, flat, List.flatMap_cons, show 8 * (k + 1) = (bytesLE 8 x).length + 8 * k by rw [bytesLE_length]; omega, List.drop_append, Nat.add_sub_cancel_left, List.drop_of_length_le (by omega), List.nil_append]; rfl
theorem flat_word (ws : List Int) (k : Nat) (v : Int) (hk : ws[k]? = some v) (hv : U64 v) : leV (((flat ws).drop (8 * k)).take 8) = v := by
  rw [flat_drop]
  obtain ⟨h1, h2⟩ := List.getElem?_eq_some_iff.1 hk
  rw [List.drop_eq_getElem_cons h1, h2, flat, List.flatMap_cons, List.take_append, bytesLE_length, List.take_of_length_le (by rw [bytesLE_length]; omega), Nat.sub_self, List.take_zero, List.append_nil]
  exact leV_bytes8 v hv
end Go.Proofs.Ytndmhnmclogpcaa
