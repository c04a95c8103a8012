/- Walks of slices.Equal at kinds and at instructions. Conditions: both lists lie in memory. -/
import Derived.Test.YtcaefdfdngecdaaEnc1
import Derived.Deep.QuietTactic
import Derived.BigQuiet
set_option linter.unusedVariables false
set_option linter.unusedSimpArgs false
namespace Go.Proofs.Ytcaefdfdngecdaa
open Go.RowKit

theorem Blk.new2 (w : World) (o : Obj) (t : TypeId) (cs : Array Value) : Blk ((w.alloc o).alloc (.cells cs t)) (w.heap.size + 1) t cs := by
  have := Blk.new (w.alloc o) t cs
  rwa [World.size_alloc] at this
theorem take_snoc_eq {α : Type} {la lb : List α} {j : Nat} (h : la.take j = lb.take j) (he : la[j]? = lb[j]?) : la.take (j + 1) = lb.take (j + 1) := by
  rw [List.take_add_one, List.take_add_one, h, he]
theorem ne_of_at {α : Type} {la lb : List α} {j : Nat} (he : la[j]? ≠ lb[j]?) : la ≠ lb := fun h => he (by rw [h])
theorem ret_b {a b : Bool} (h : a = b) : Ending.returned (.bool a) = .returned (.bool b) := by rw [h]
set_option maxRecDepth 100000 in
set_option maxHeartbeats 400000 in
theorem eqKinds_any (v1 v2 : Value) (xs ys : List Int) (w : World) (B C : Nat) (h1 : KindsAt w B v1 xs) (h2 : KindsAt w C v2 ys) :
    Calls Try.prog 29 #[v1, v2] w fun e w' => e = .returned (.bool (decide (xs = ys))) ∧ ∃ q, w' = w.drewN q := by
  obtain ⟨A, n, c, rfl, hnc, hc, hl, hr⟩ := h1
  obtain ⟨A', m, c', rfl, hnc', hc', hl', hr'⟩ := h2
  unfold maxLen at hc hc'
  by_cases hnm : n = m
  · subst hnm
    have Hl := Lib.hid hl
    have Hl' := Lib.hid hl'
    have Hr := Lib.hid hr
    have Hr' := Lib.hid hr'
    clear hr' hr hl' hl
    go_enter Try.func29, Try.ntmps29
    go_wp2_with fail
    go_loopw [13] (fun i wr => ∃ j q : Nat, j ≤ n ∧ i = .int .i64 j ∧ wr = w.drewN q ∧ Hid (xs.take j = ys.take j)) (fun i _ => n - (intOf i).toNat)
    case atStart => exact ⟨0, 0, by omega, rfl, rfl, by show _ = _; simp⟩
    case round =>
      obtain ⟨j, q, hj, rfl, rfl, ht⟩ := hrel
      by_cases hlt : j < n
      · obtain ⟨ad, u, rfl, _, hu, hcell⟩ := Hr.out.at_ hlt
        obtain ⟨ad', u', rfl, _, hu', hcell'⟩ := Hr'.out.at_ hlt
        rw [kindVals, List.getElem?_map, Option.map_eq_some_iff] at hu hu'
        obtain ⟨x, hx, rfl⟩ := hu
        obtain ⟨y, hy, rfl⟩ := hu'
        have i0 : (0 : Int) ≤ (j : Int) := by omega
        have i1 : (j : Int) < (n : Int) := by omega
        have HX := Lib.hid hx
        have HY := Lib.hid hy
        clear hy hx
        by_cases hxy : x = y
        · subst hxy
          go_wp2_with fail
          go_quiet (fail)
          go_wp2_with fail
          refine ⟨⟨j + 1, _, by omega, by go_num, rfl, take_snoc_eq ht.out (by rw [HX.out, HY.out])⟩, by simp [intOf]; omega⟩
        · have hb : (x != y) = true := by simpa using hxy
          have Hxy := Lib.hid hxy
          clear hxy
          go_wp2_with fail
          go_quiet (fail)
          go_wp2_with fail
          go_ret
          exact ⟨ret_b (decide_eq_false (ne_of_at (j := j) (by rw [HX.out, HY.out]; simpa using Hxy.out))).symm, _, by rw [World.drewN_drewN]⟩
      · obtain rfl : n = j := by omega
        go_wp2_with fail
        go_ret
        refine ⟨ret_b (decide_eq_true ?_).symm, _, rfl⟩
        have := ht.out
        rwa [List.take_of_length_le (by rw [Hl.out]; omega), List.take_of_length_le (by rw [Hl'.out]; omega)] at this
  · have hb : ((n : Int) != (m : Int)) = true := by rw [bne_iff_ne]; omega
    have Hl := Lib.hid hl
    have Hl' := Lib.hid hl'
    have Hr := Lib.hid hr
    have Hr' := Lib.hid hr'
    have Hnm := Lib.hid hnm
    clear hnm hr' hr hl' hl
    go_enter Try.func29, Try.ntmps29
    go_wp2_with fail
    go_ret
    exact ⟨ret_b (decide_eq_false (fun h => Hnm.out (by rw [← Hl.out, ← Hl'.out, h]))).symm, 0, rfl⟩
def icode (i : InstrD) : Int × Int × Int := (i.op, i.arg, i.imm)
theorem icode_inj {i j : InstrD} (h : icode i = icode j) : i = j := by
  obtain ⟨a, b, c⟩ := i
  obtain ⟨d, e, f⟩ := j
  simp only [icode, Prod.mk.injEq] at h
  obtain ⟨rfl, rfl, rfl⟩ := h
  rfl
/-- are two lists of instructions the same? -/
def eqIs (la lb : List InstrD) : Bool := decide (la.map icode = lb.map icode)
theorem map_inj_of {α β : Type} {f : α → β} (hf : ∀ a b, f a = f b → a = b) : ∀ {la lb : List α}, la.map f = lb.map f → la = lb
  | [], [], _ => rfl
  | [], _ :: _, h => by simp at h
  | _ :: _, [], h => by simp at h
  | a :: la, b :: lb, h => by
    simp only [List.map_cons, List.cons.injEq] at h
    rw [hf a b h.1, map_inj_of hf h.2]
theorem eqIs_iff (la lb : List InstrD) : eqIs la lb = true ↔ la = lb := by
  unfold eqIs
  rw [decide_eq_true_eq]
  exact ⟨map_inj_of fun _ _ => icode_inj, fun h => by rw [h]⟩
theorem eqIs_not {la lb : List InstrD} (h : la ≠ lb) : eqIs la lb = false := by
  cases he : eqIs la lb with
  | false => rfl
  | true => exact absurd ((eqIs_iff _ _).1 he) h
theorem run_neq_instr (x y : InstrD) (w : World) : (binOp .neq 49 (.agg #[.int .u8 x.op, .int .i64 x.arg, .int .u64 x.imm]) (.agg #[.int .u8 y.op, .int .i64 y.arg, .int .u64 y.imm])).run Try.prog w = .ok (.bool (!(x.op == y.op && x.arg == y.arg && x.imm == y.imm))) w := by
  rw [run_neq_struct, run_equalIn_agg w 9999 _ _ _ (by kernel_rfl) (by kernel_rfl)]
  simp [Program.fieldsOf, Try.underlying49, Op.eqFields, part, sizeOf, go_sem]
  by_cases h1 : x.op = y.op <;> by_cases h2 : x.arg = y.arg <;> by_cases h3 : x.imm = y.imm <;> simp [h1, h2, h3]
theorem run_neq_instr_same (x : InstrD) (w : World) : (binOp .neq 49 (.agg #[.int .u8 x.op, .int .i64 x.arg, .int .u64 x.imm]) (.agg #[.int .u8 x.op, .int .i64 x.arg, .int .u64 x.imm])).run Try.prog w = .ok (.bool false) w := by
  rw [run_neq_instr]; simp
theorem run_neq_instr_other (x y : InstrD) (h : x ≠ y) (w : World) : (binOp .neq 49 (.agg #[.int .u8 x.op, .int .i64 x.arg, .int .u64 x.imm]) (.agg #[.int .u8 y.op, .int .i64 y.arg, .int .u64 y.imm])).run Try.prog w = .ok (.bool true) w := by
  rw [run_neq_instr]
  have : (x.op == y.op && x.arg == y.arg && x.imm == y.imm) = false := by
    rw [Bool.eq_false_iff]
    intro he
    simp only [Bool.and_eq_true, beq_iff_eq] at he
    exact h (icode_inj (by simp [icode, he.1.1, he.1.2, he.2]))
  rw [this]; rfl
set_option maxRecDepth 100000 in
set_option maxHeartbeats 400000 in
theorem eqInstrs_any (v1 v2 : Value) (xs ys : List InstrD) (w : World) (B C : Nat) (h1 : CodeAt w B v1 xs) (h2 : CodeAt w C v2 ys) :
    Calls Try.prog 30 #[v1, v2] w fun e w' => e = .returned (.bool (eqIs xs ys)) ∧ ∃ q, w' = w.drewN q := by
  obtain ⟨A, n, c, rfl, hnc, hc, hl, hr⟩ := h1
  obtain ⟨A', m, c', rfl, hnc', hc', hl', hr'⟩ := h2
  unfold maxLen at hc hc'
  by_cases hnm : n = m
  · subst hnm
    have Hl := Lib.hid hl
    have Hl' := Lib.hid hl'
    have Hr := Lib.hid hr
    have Hr' := Lib.hid hr'
    clear hr' hr hl' hl
    go_enter Try.func30, Try.ntmps30
    go_wp2_with fail
    go_loopw [13] (fun i wr => ∃ j q : Nat, j ≤ n ∧ i = .int .i64 j ∧ wr = w.drewN q ∧ Hid (xs.take j = ys.take j)) (fun i _ => n - (intOf i).toNat)
    case atStart => exact ⟨0, 0, by omega, rfl, rfl, by show _ = _; simp⟩
    case round =>
      obtain ⟨j, q, hj, rfl, rfl, ht⟩ := hrel
      by_cases hlt : j < n
      · obtain ⟨ad, rfl, _, hcell⟩ := Hr.out.2 (by omega)
        obtain ⟨ad', rfl, _, hcell'⟩ := Hr'.out.2 (by omega)
        obtain ⟨x, hx⟩ : ∃ x, xs[j]? = some x := ⟨_, List.getElem?_eq_getElem (by have := Hl.out; omega)⟩
        obtain ⟨y, hy⟩ : ∃ y, ys[j]? = some y := ⟨_, List.getElem?_eq_getElem (by have := Hl'.out; omega)⟩
        obtain ⟨e0, e1, e2⟩ := flatMap_three xs j x hx
        obtain ⟨d0, d1, d2⟩ := flatMap_three ys j y hy
        have q0 := hcell _ _ e0
        have q1 := hcell _ _ e1
        have q2 := hcell _ _ e2
        have r0 := hcell' _ _ d0
        have r1 := hcell' _ _ d1
        have r2 := hcell' _ _ d2
        rw [← addr_sub ad _ 1 (by omega)] at q1
        rw [← addr_sub ad _ 2 (by omega)] at q2
        rw [← addr_sub ad' _ 1 (by omega)] at r1
        rw [← addr_sub ad' _ 2 (by omega)] at r2
        clear hcell hcell' e0 e1 e2 d0 d1 d2
        have i0 : (0 : Int) ≤ (j : Int) := by omega
        have i1 : (j : Int) < (n : Int) := by omega
        have HX := Lib.hid hx
        have HY := Lib.hid hy
        clear hy hx
        by_cases hxy : x = y
        · subst hxy
          have hb := fun W => run_neq_instr_same x W
          go_wp2_with fail
          go_quiet (fail)
          go_wp2_with fail
          refine ⟨⟨j + 1, _, by omega, by go_num, rfl, take_snoc_eq ht.out (by rw [HX.out, HY.out])⟩, by simp [intOf]; omega⟩
        · have hb := fun W => run_neq_instr_other x y hxy W
          have Hxy := Lib.hid hxy
          clear hxy
          go_wp2_with fail
          go_quiet (fail)
          go_wp2_with fail
          go_ret
          exact ⟨ret_b (eqIs_not (ne_of_at (j := j) (by rw [HX.out, HY.out]; simpa using Hxy.out))).symm, _, by rw [World.drewN_drewN]⟩
      · obtain rfl : n = j := by omega
        go_wp2_with fail
        go_ret
        refine ⟨ret_b ((eqIs_iff _ _).2 ?_).symm, _, rfl⟩
        have := ht.out
        rwa [List.take_of_length_le (by rw [Hl.out]; omega), List.take_of_length_le (by rw [Hl'.out]; omega)] at this
  · have hb : ((n : Int) != (m : Int)) = true := by rw [bne_iff_ne]; omega
    have Hl := Lib.hid hl
    have Hl' := Lib.hid hl'
    have Hr := Lib.hid hr
    have Hr' := Lib.hid hr'
    have Hnm := Lib.hid hnm
    clear hnm hr' hr hl' hl
    go_enter Try.func30, Try.ntmps30
    go_wp2_with fail
    go_ret
    exact ⟨ret_b (eqIs_not (fun h => Hnm.out (by rw [← Hl.out, ← Hl'.out, h]))).symm, 0, rfl⟩
end Go.Proofs.Ytcaefdfdngecdaa
