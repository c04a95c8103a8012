/- Walks of the document's Next, and of what is answered ahead of everything else. No condition. -/
import Derived.Test.YtncpehhfjkncoaaIrReads
import Derived.Test.YtncpehhfjkncoaaIrCheck
set_option linter.unusedVariables false
set_option linter.unusedSimpArgs false
namespace Go.Proofs.Ytncpehhfjkncoaa
open Go.RowKit

set_option maxRecDepth 100000 in
set_option maxHeartbeats 4000000 in
theorem refnext_any (w : World) (x : NodeD) (av : Value) :
    Calls Try.prog 35 #[.agg (ncells x av).toArray] w fun e w' => (∃ v, e = .returned v ∧ Lst w' v (nextL x)) ∧ Below w.heap.size w w' := by
  obtain ⟨N, hN⟩ : ∃ N, nextL x = N := ⟨_, rfl⟩
  rw [hN]
  unfold nextL at hN
  obtain ⟨op, byo, d, e_, a, b, f, cell, imm, args, next, els⟩ := x
  simp only at hN
  simp only [ncells]
  obtain ⟨G, hG⟩ : ∃ G, G = w.heap.size := ⟨_, rfl⟩
  have hP := Blk.new w 52 #[.int .u8 op, .int .u8 byo, .int .i64 d, .int .i64 e_, .int .i64 a, .int .i64 b, .int .i64 f, .int .i64 cell, .int .u64 imm, av, .int .i64 next, .int .i64 els]
  have hb := (Below.refl w.heap.size w).alloc (Nat.le_refl _) (.cells #[.int .u8 op, .int .u8 byo, .int .i64 d, .int .i64 e_, .int .i64 a, .int .i64 b, .int .i64 f, .int .i64 cell, .int .u64 imm, av, .int .i64 next, .int .i64 els] 52)
  rw [← hG] at hP
  have kp0 := Blk.cell hP 0
  have kp10 := Blk.cell hP 10
  have kp11 := Blk.cell hP 11
  simp only [List.getElem?_toArray, List.getElem?_cons_zero, List.getElem?_cons_succ] at kp0 kp10 kp11
  obtain ⟨V, hV⟩ : ∃ V, V = w.alloc (.cells #[.int .u8 op, .int .u8 byo, .int .i64 d, .int .i64 e_, .int .i64 a, .int .i64 b, .int .i64 f, .int .i64 cell, .int .u64 imm, av, .int .i64 next, .int .i64 els] 52) := ⟨_, rfl⟩
  rw [← hV] at hb hP kp0 kp10 kp11
  have Hb := Lib.hid hb
  have HP := Lib.hid hP
  have HV := Lib.hid hV
  have HG := Lib.hid hG
  clear hG hV hP hb
  by_cases e12 : op = 12 ∨ op = 14 ∨ op = 18
  · rw [if_pos e12] at hN
    subst hN
    rcases e12 with e | e | e
    all_goals
      subst e
      go_enter Try.func35, Try.ntmps35
      go_upto_region 1 with fail
      rw [← HV.out, ← HG.out]
      go_wp2_with fail
      go_ret
      exact ⟨⟨_, rfl, Lst.nil _⟩, Hb.out⟩
  rw [if_neg e12] at hN
  have b12 : (op == 12) = false := by rw [beq_eq_false_iff_ne]; omega
  have b14 : (op == 14) = false := by rw [beq_eq_false_iff_ne]; omega
  have b18 : (op == 18) = false := by rw [beq_eq_false_iff_ne]; omega
  by_cases e9 : op = 9
  · subst e9
    clear b12 b14 b18
    by_cases en : els = next
    · have bn : (els != next) = false := by simp [en]
      rw [if_neg (fun h => h.2 en), if_neg (by omega)] at hN
      subst hN
      have Hen := Lib.hid en
      have He12 := Lib.hid e12
      clear e12 en
      go_enter Try.func35, Try.ntmps35
      go_upto_region 1 with fail
      rw [← HV.out, ← HG.out]
      go_wp2_with fail
      go_ret
      exact ⟨⟨_, rfl, Lst.new _ _ [next] (by simp) (by simp) rfl rfl⟩, Hb.out.alloc Hb.out.size _⟩
    · have bn : (els != next) = true := by simp [en]
      rw [if_pos ⟨rfl, en⟩] at hN
      subst hN
      have Hen := Lib.hid en
      have He12 := Lib.hid e12
      clear e12 en
      go_enter Try.func35, Try.ntmps35
      go_upto_region 1 with fail
      rw [← HV.out, ← HG.out]
      go_wp2_with fail
      go_ret
      exact ⟨⟨_, rfl, Lst.new _ _ [next, els] (by simp) (by simp) rfl rfl⟩, Hb.out.alloc Hb.out.size _⟩
  have b9 : (op == 9) = false := by rw [beq_eq_false_iff_ne]; omega
  rw [if_neg (fun h => e9 h.1)] at hN
  have hcase : (op < 1 ∧ N = []) ∨ (¬ op < 1 ∧ 18 < op ∧ N = []) ∨ (¬ op < 1 ∧ ¬ 18 < op ∧ N = [next]) := by
    by_cases h1 : op < 1
    · rw [if_pos (.inl h1)] at hN; exact .inl ⟨h1, hN.symm⟩
    · by_cases h2 : 18 < op
      · rw [if_pos (.inr h2)] at hN; exact .inr (.inl ⟨h1, h2, hN.symm⟩)
      · rw [if_neg (by omega)] at hN; exact .inr (.inr ⟨h1, h2, hN.symm⟩)
  have He12 := Lib.hid e12
  have He9 := Lib.hid e9
  have HN := Lib.hid hN
  clear hN e9 e12
  rcases hcase with ⟨h1, rfl⟩ | ⟨h1, h2, rfl⟩ | ⟨h1, h2, rfl⟩
  · go_enter Try.func35, Try.ntmps35
    go_upto_region 1 with fail
    rw [← HV.out, ← HG.out]
    go_wp2_with fail
    go_ret
    exact ⟨⟨_, rfl, Lst.nil _⟩, Hb.out⟩
  · go_enter Try.func35, Try.ntmps35
    go_upto_region 1 with fail
    rw [← HV.out, ← HG.out]
    go_wp2_with fail
    go_ret
    exact ⟨⟨_, rfl, Lst.nil _⟩, Hb.out⟩
  · go_enter Try.func35, Try.ntmps35
    go_upto_region 1 with fail
    rw [← HV.out, ← HG.out]
    go_wp2_with fail
    go_ret
    exact ⟨⟨_, rfl, Lst.new _ _ [next] (by simp) (by simp) rfl rfl⟩, Hb.out.alloc Hb.out.size _⟩
def nd0 : NodeD := ⟨12, 0, 0, 0, -1, 0, 0, 0, 0, [], 0, 0⟩
def gr0 : GraphD := ⟨[], [], 0, [], false, -1, [nd0], 0⟩
def nd1 : NodeD := ⟨11, 0, 2, 0, 0, 0, 0, 0, 0, [3, 3, 4], 0, 0⟩
theorem check00 : checkB [gr0] false = true := by decide
theorem check01 : checkB [gr0] true = false := by decide
theorem reads01 : readsL nd1 = [3, 4] := by decide
/-- one graph of one node, laid -/
theorem graphs_one {W : World} {n g : Nat} (x : NodeD) (y : GraphD) (hx : x.args = []) (hy : y = ⟨[], [], y.cells, [], y.result, y.keep, [x], y.entry⟩) (hn : Blk W n 52 (ncells x (.slice none 0 0)).toArray) (hg : Blk W g 48 (gcells y (.slice none 0 0) (.slice none 0 0) (.slice none 0 0) (.slice (some ⟨n, 0, none⟩) 1 1)).toArray) :
    GraphsAt W W.heap.size (.slice (some ⟨g, 0, none⟩) 1 1) [y] := by
  have hnil : ∀ k, NumsAt k W W.heap.size (.slice none 0 0) [] := fun k => ⟨none, 0, 0, rfl, Nat.le_refl _, by unfold maxLen; omega, rfl, Reads.none_⟩
  refine ⟨_, _, _, [gcells y (.slice none 0 0) (.slice none 0 0) (.slice none 0 0) (.slice (some ⟨n, 0, none⟩) 1 1)], rfl, Nat.le_refl _, by unfold maxLen; omega, rfl, rfl, by simp [gcells], Reads.of_blk hg (by simp) (by simp [gcells]), fun i z hz => ?_⟩
  match i, hz with
  | 0, hz =>
    simp only [List.getElem?_cons_zero, Option.some.injEq] at hz
    subst hz
    refine ⟨_, rfl, _, _, _, _, rfl, ?_, ?_, ?_, ?_⟩
    · rw [hy]; exact hnil _
    · rw [hy]; exact hnil _
    · rw [hy]; exact hnil _
    · refine ⟨_, _, _, [ncells x (.slice none 0 0)], rfl, Nat.le_refl _, by unfold maxLen; omega, by rw [hy]; rfl, rfl, by simp [ncells], Reads.of_blk hn (by simp) (by simp [ncells]), fun i z hz => ?_⟩
      rw [hy] at hz
      match i, hz with
      | 0, hz =>
        simp only [List.getElem?_cons_zero, Option.some.injEq] at hz
        subst hz
        exact ⟨_, rfl, _, rfl, by rw [hx]; exact hnil _⟩
theorem Blk.new3 (w : World) (o o' : Obj) (t : TypeId) (cs : Array Value) : Blk (((w.alloc o).alloc o').alloc (.cells cs t)) (w.heap.size + 1 + 1) t cs := by
  have := Blk.new ((w.alloc o).alloc o') t cs
  rwa [World.size_alloc, World.size_alloc] at this
end Go.Proofs.Ytncpehhfjkncoaa
