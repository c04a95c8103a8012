/- Walk of ir's sameNode. Conditions: the nodes lie in memory. -/
import Derived.Test.YtfjalejlbegkeaaIrSame0
import Derived.Test.YtfjalejlbegkeaaIrSame3
import Derived.Test.YtfjalejlbegkeaaIrSame4
set_option linter.unusedVariables false
set_option linter.unusedSimpArgs false
namespace Go.Proofs.Ytfjalejlbegkeaa
open Go.RowKit

set_option maxRecDepth 100000 in
set_option maxHeartbeats 8000000 in
theorem sameNode_any (w : World) (x y : NodeD) (av av2 : Value) (B : Nat) (hB : B ≤ w.heap.size) (h1 : NumsAt .i64 w B av x.args) (h2 : NumsAt .i64 w B av2 y.args) :
    Calls Try.prog 37 #[.agg (ncells x av).toArray, .agg (ncells y av2).toArray] w fun e w' => e = .returned (.bool (eqN x y)) ∧ Below w.heap.size w w' := by
  obtain ⟨r, hr⟩ : ∃ r, eqN x y = r := ⟨_, rfl⟩
  rw [hr]
  unfold eqN ncode at hr
  obtain ⟨op, byo, d, e_, a, b, f, cell, imm, args, next, els⟩ := x
  obtain ⟨op2, byo2, d2, e_2, a2, b2, f2, cell2, imm2, args2, next2, els2⟩ := y
  simp only at hr h1 h2
  obtain ⟨AA, ac, rfl, hc1, hc2, hA⟩ := h1.slice
  obtain ⟨AA2, ac2, rfl, hd1, hd2, hA2⟩ := h2.slice
  obtain ⟨m, hm⟩ : ∃ m, args.length = m := ⟨_, rfl⟩
  obtain ⟨m2, hm2⟩ : ∃ m2, args2.length = m2 := ⟨_, rfl⟩
  rw [hm] at hA h1 hc1
  rw [hm2] at hA2 h2 hd1
  simp only [ncells, hm, hm2]
  by_cases q0 : op = op2
  case neg =>
    have hs : false = r := by rw [← hr]; simp [q0]
    rw [← hs]
    exact sameNode_no0 w op byo d e_ a b f cell imm next els op2 byo2 d2 e_2 a2 b2 f2 cell2 imm2 next2 els2 AA AA2 m ac m2 ac2 q0
  subst q0
  by_cases q1 : byo = byo2
  case neg =>
    have hs : false = r := by rw [← hr]; simp [q1]
    rw [← hs]
    exact sameNode_no1 w op byo d e_ a b f cell imm next els byo2 d2 e_2 a2 b2 f2 cell2 imm2 next2 els2 AA AA2 m ac m2 ac2 q1
  subst q1
  by_cases q2 : d = d2
  case neg =>
    have hs : false = r := by rw [← hr]; simp [q2]
    rw [← hs]
    exact sameNode_no2 w op byo d e_ a b f cell imm next els d2 e_2 a2 b2 f2 cell2 imm2 next2 els2 AA AA2 m ac m2 ac2 q2
  subst q2
  by_cases q3 : e_ = e_2
  case neg =>
    have hs : false = r := by rw [← hr]; simp [q3]
    rw [← hs]
    exact sameNode_no3 w op byo d e_ a b f cell imm next els e_2 a2 b2 f2 cell2 imm2 next2 els2 AA AA2 m ac m2 ac2 q3
  subst q3
  by_cases q4 : a = a2
  case neg =>
    have hs : false = r := by rw [← hr]; simp [q4]
    rw [← hs]
    exact sameNode_no4 w op byo d e_ a b f cell imm next els a2 b2 f2 cell2 imm2 next2 els2 AA AA2 m ac m2 ac2 q4
  subst q4
  by_cases q5 : b = b2
  case neg =>
    have hs : false = r := by rw [← hr]; simp [q5]
    rw [← hs]
    exact sameNode_no5 w op byo d e_ a b f cell imm next els b2 f2 cell2 imm2 next2 els2 AA AA2 m ac m2 ac2 q5
  subst q5
  by_cases q6 : f = f2
  case neg =>
    have hs : false = r := by rw [← hr]; simp [q6]
    rw [← hs]
    exact sameNode_no6 w op byo d e_ a b f cell imm next els f2 cell2 imm2 next2 els2 AA AA2 m ac m2 ac2 q6
  subst q6
  by_cases q7 : cell = cell2
  case neg =>
    have hs : false = r := by rw [← hr]; simp [q7]
    rw [← hs]
    exact sameNode_no7 w op byo d e_ a b f cell imm next els cell2 imm2 next2 els2 AA AA2 m ac m2 ac2 q7
  subst q7
  by_cases q8 : imm = imm2
  case neg =>
    have hs : false = r := by rw [← hr]; simp [q8]
    rw [← hs]
    exact sameNode_no8 w op byo d e_ a b f cell imm next els imm2 next2 els2 AA AA2 m ac m2 ac2 q8
  subst q8
  by_cases q9 : next = next2
  case neg =>
    have hs : false = r := by rw [← hr]; simp [q9]
    rw [← hs]
    exact sameNode_no9 w op byo d e_ a b f cell imm next els next2 els2 AA AA2 m ac m2 ac2 q9
  subst q9
  by_cases q10 : els = els2
  case neg =>
    have hs : false = r := by rw [← hr]; simp [q10]
    rw [← hs]
    exact sameNode_no10 w op byo d e_ a b f cell imm next els els2 AA AA2 m ac m2 ac2 q10
  subst q10
  obtain ⟨NC, hNC⟩ : ∃ NC : Array Value, NC = #[.int .u8 op, .int .u8 byo, .int .i64 d, .int .i64 e_, .int .i64 a, .int .i64 b, .int .i64 f, .int .i64 cell, .int .u64 imm, .slice AA m ac, .int .i64 next, .int .i64 els] := ⟨_, rfl⟩
  obtain ⟨ND, hND⟩ : ∃ ND : Array Value, ND = #[.int .u8 op, .int .u8 byo, .int .i64 d, .int .i64 e_, .int .i64 a, .int .i64 b, .int .i64 f, .int .i64 cell, .int .u64 imm, .slice AA2 m2 ac2, .int .i64 next, .int .i64 els] := ⟨_, rfl⟩
  rw [← hNC, ← hND]
  have hb := ((Below.refl w.heap.size w).alloc (Nat.le_refl _) (.cells NC 38)).alloc (by simp) (.cells ND 38)
  have hx := h1.below (hb.mono hB)
  have hy := h2.below (hb.mono hB)
  have hs : decide (args = args2) = r := by rw [← hr]; simp
  have hcon := eqInts_any _ _ _ _ _ B B hx hy
  rw [hs] at hcon
  have hNs : NC.size = 12 := by rw [hNC]; rfl
  have hDs : ND.size = 12 := by rw [hND]; rfl
  have kn0 : NC[0]? = some (.int .u8 op) := by rw [hNC]; rfl
  have kd0 : ND[0]? = some (.int .u8 op) := by rw [hND]; rfl
  have kn1 : NC[1]? = some (.int .u8 byo) := by rw [hNC]; rfl
  have kd1 : ND[1]? = some (.int .u8 byo) := by rw [hND]; rfl
  have kn2 : NC[2]? = some (.int .i64 d) := by rw [hNC]; rfl
  have kd2 : ND[2]? = some (.int .i64 d) := by rw [hND]; rfl
  have kn3 : NC[3]? = some (.int .i64 e_) := by rw [hNC]; rfl
  have kd3 : ND[3]? = some (.int .i64 e_) := by rw [hND]; rfl
  have kn4 : NC[4]? = some (.int .i64 a) := by rw [hNC]; rfl
  have kd4 : ND[4]? = some (.int .i64 a) := by rw [hND]; rfl
  have kn5 : NC[5]? = some (.int .i64 b) := by rw [hNC]; rfl
  have kd5 : ND[5]? = some (.int .i64 b) := by rw [hND]; rfl
  have kn6 : NC[6]? = some (.int .i64 f) := by rw [hNC]; rfl
  have kd6 : ND[6]? = some (.int .i64 f) := by rw [hND]; rfl
  have kn7 : NC[7]? = some (.int .i64 cell) := by rw [hNC]; rfl
  have kd7 : ND[7]? = some (.int .i64 cell) := by rw [hND]; rfl
  have kn8 : NC[8]? = some (.int .u64 imm) := by rw [hNC]; rfl
  have kd8 : ND[8]? = some (.int .u64 imm) := by rw [hND]; rfl
  have kn10 : NC[10]? = some (.int .i64 next) := by rw [hNC]; rfl
  have kd10 : ND[10]? = some (.int .i64 next) := by rw [hND]; rfl
  have kn11 : NC[11]? = some (.int .i64 els) := by rw [hNC]; rfl
  have kd11 : ND[11]? = some (.int .i64 els) := by rw [hND]; rfl
  have kn9 : NC[9]? = some (.slice AA m ac) := by rw [hNC]; rfl
  have kd9 : ND[9]? = some (.slice AA2 m2 ac2) := by rw [hND]; rfl
  have Hb := Lib.hid hb
  have HNC := Lib.hid hNC
  have HND := Lib.hid hND
  have HNs := Lib.hid hNs
  have HDs := Lib.hid hDs
  have Hcon := Lib.hid hcon
  have Hs := Lib.hid hs
  have Hr := Lib.hid hr
  have Hx := Lib.hid hx
  have Hy := Lib.hid hy
  have H1 := Lib.hid h1
  have H2 := Lib.hid h2
  have HA := Lib.hid hA
  have HA2 := Lib.hid hA2
  have Hm := Lib.hid hm
  have Hm2 := Lib.hid hm2
  clear hm2 hm hA2 hA h2 h1 hy hx hr hs hcon hDs hNs hND hNC hb
  go_enter Try.func37, Try.ntmps37
  go_wp2_with fail
  refine Hcon.out.mono ?_
  rintro e w' ⟨rfl, q, rfl⟩
  go_wp2_with fail
  go_ret
  exact ⟨rfl, below_drewN Hb.out _⟩
end Go.Proofs.Ytfjalejlbegkeaa
