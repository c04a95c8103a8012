/- Walks of ir's sameNode: nodes that differ, first part. Conditions: the nodes lie in memory. -/
import Derived.Test.YtfjalejlbegkeaaIrReads
set_option linter.unusedVariables false
set_option linter.unusedSimpArgs false
namespace Go.Proofs.Ytfjalejlbegkeaa
open Go.RowKit

set_option maxRecDepth 100000 in
set_option maxHeartbeats 4000000 in
theorem sameNode_no0 (w : World) (op byo d e_ a b f cell imm next els op2 byo2 d2 e_2 a2 b2 f2 cell2 imm2 next2 els2 : Int) (AA AA2 : Option Addr) (m ac m2 ac2 : Nat) (q : op ≠ op2) :
    Calls Try.prog 37 #[.agg #[.int .u8 op, .int .u8 byo, .int .i64 d, .int .i64 e_, .int .i64 a, .int .i64 b, .int .i64 f, .int .i64 cell, .int .u64 imm, .slice AA m ac, .int .i64 next, .int .i64 els], .agg #[.int .u8 op2, .int .u8 byo2, .int .i64 d2, .int .i64 e_2, .int .i64 a2, .int .i64 b2, .int .i64 f2, .int .i64 cell2, .int .u64 imm2, .slice AA2 m2 ac2, .int .i64 next2, .int .i64 els2]] w fun e w' => e = .returned (.bool false) ∧ Below w.heap.size w w' := by
  obtain ⟨NC, hNC⟩ : ∃ NC : Array Value, NC = #[.int .u8 op, .int .u8 byo, .int .i64 d, .int .i64 e_, .int .i64 a, .int .i64 b, .int .i64 f, .int .i64 cell, .int .u64 imm, .slice AA m ac, .int .i64 next, .int .i64 els] := ⟨_, rfl⟩
  obtain ⟨ND, hND⟩ : ∃ ND : Array Value, ND = #[.int .u8 op2, .int .u8 byo2, .int .i64 d2, .int .i64 e_2, .int .i64 a2, .int .i64 b2, .int .i64 f2, .int .i64 cell2, .int .u64 imm2, .slice AA2 m2 ac2, .int .i64 next2, .int .i64 els2] := ⟨_, rfl⟩
  rw [← hNC, ← hND]
  have hb := ((Below.refl w.heap.size w).alloc (Nat.le_refl _) (.cells NC 38)).alloc (by simp) (.cells ND 38)
  have hNs : NC.size = 12 := by rw [hNC]; rfl
  have hDs : ND.size = 12 := by rw [hND]; rfl
  have kn0 : NC[0]? = some (.int .u8 op) := by rw [hNC]; rfl
  have kd0 : ND[0]? = some (.int .u8 op2) := by rw [hND]; rfl
  have hbk : (op == op2) = false := by simp [q]
  have Hb := Lib.hid hb
  have HNC := Lib.hid hNC
  have HND := Lib.hid hND
  have HNs := Lib.hid hNs
  have HDs := Lib.hid hDs
  have Hq := Lib.hid q
  clear q hDs hNs hND hNC hb
  go_enter Try.func37, Try.ntmps37
  go_wp2_with fail
  go_ret
  exact ⟨rfl, Hb.out⟩
set_option maxRecDepth 100000 in
set_option maxHeartbeats 4000000 in
theorem sameNode_no1 (w : World) (op byo d e_ a b f cell imm next els byo2 d2 e_2 a2 b2 f2 cell2 imm2 next2 els2 : Int) (AA AA2 : Option Addr) (m ac m2 ac2 : Nat) (q : byo ≠ byo2) :
    Calls Try.prog 37 #[.agg #[.int .u8 op, .int .u8 byo, .int .i64 d, .int .i64 e_, .int .i64 a, .int .i64 b, .int .i64 f, .int .i64 cell, .int .u64 imm, .slice AA m ac, .int .i64 next, .int .i64 els], .agg #[.int .u8 op, .int .u8 byo2, .int .i64 d2, .int .i64 e_2, .int .i64 a2, .int .i64 b2, .int .i64 f2, .int .i64 cell2, .int .u64 imm2, .slice AA2 m2 ac2, .int .i64 next2, .int .i64 els2]] w fun e w' => e = .returned (.bool false) ∧ Below w.heap.size w w' := by
  obtain ⟨NC, hNC⟩ : ∃ NC : Array Value, NC = #[.int .u8 op, .int .u8 byo, .int .i64 d, .int .i64 e_, .int .i64 a, .int .i64 b, .int .i64 f, .int .i64 cell, .int .u64 imm, .slice AA m ac, .int .i64 next, .int .i64 els] := ⟨_, rfl⟩
  obtain ⟨ND, hND⟩ : ∃ ND : Array Value, ND = #[.int .u8 op, .int .u8 byo2, .int .i64 d2, .int .i64 e_2, .int .i64 a2, .int .i64 b2, .int .i64 f2, .int .i64 cell2, .int .u64 imm2, .slice AA2 m2 ac2, .int .i64 next2, .int .i64 els2] := ⟨_, rfl⟩
  rw [← hNC, ← hND]
  have hb := ((Below.refl w.heap.size w).alloc (Nat.le_refl _) (.cells NC 38)).alloc (by simp) (.cells ND 38)
  have hNs : NC.size = 12 := by rw [hNC]; rfl
  have hDs : ND.size = 12 := by rw [hND]; rfl
  have kn0 : NC[0]? = some (.int .u8 op) := by rw [hNC]; rfl
  have kd0 : ND[0]? = some (.int .u8 op) := by rw [hND]; rfl
  have kn1 : NC[1]? = some (.int .u8 byo) := by rw [hNC]; rfl
  have kd1 : ND[1]? = some (.int .u8 byo2) := by rw [hND]; rfl
  have hbk : (byo == byo2) = false := by simp [q]
  have Hb := Lib.hid hb
  have HNC := Lib.hid hNC
  have HND := Lib.hid hND
  have HNs := Lib.hid hNs
  have HDs := Lib.hid hDs
  have Hq := Lib.hid q
  clear q hDs hNs hND hNC hb
  go_enter Try.func37, Try.ntmps37
  go_wp2_with fail
  go_ret
  exact ⟨rfl, Hb.out⟩
set_option maxRecDepth 100000 in
set_option maxHeartbeats 4000000 in
theorem sameNode_no2 (w : World) (op byo d e_ a b f cell imm next els d2 e_2 a2 b2 f2 cell2 imm2 next2 els2 : Int) (AA AA2 : Option Addr) (m ac m2 ac2 : Nat) (q : d ≠ d2) :
    Calls Try.prog 37 #[.agg #[.int .u8 op, .int .u8 byo, .int .i64 d, .int .i64 e_, .int .i64 a, .int .i64 b, .int .i64 f, .int .i64 cell, .int .u64 imm, .slice AA m ac, .int .i64 next, .int .i64 els], .agg #[.int .u8 op, .int .u8 byo, .int .i64 d2, .int .i64 e_2, .int .i64 a2, .int .i64 b2, .int .i64 f2, .int .i64 cell2, .int .u64 imm2, .slice AA2 m2 ac2, .int .i64 next2, .int .i64 els2]] w fun e w' => e = .returned (.bool false) ∧ Below w.heap.size w w' := by
  obtain ⟨NC, hNC⟩ : ∃ NC : Array Value, NC = #[.int .u8 op, .int .u8 byo, .int .i64 d, .int .i64 e_, .int .i64 a, .int .i64 b, .int .i64 f, .int .i64 cell, .int .u64 imm, .slice AA m ac, .int .i64 next, .int .i64 els] := ⟨_, rfl⟩
  obtain ⟨ND, hND⟩ : ∃ ND : Array Value, ND = #[.int .u8 op, .int .u8 byo, .int .i64 d2, .int .i64 e_2, .int .i64 a2, .int .i64 b2, .int .i64 f2, .int .i64 cell2, .int .u64 imm2, .slice AA2 m2 ac2, .int .i64 next2, .int .i64 els2] := ⟨_, rfl⟩
  rw [← hNC, ← hND]
  have hb := ((Below.refl w.heap.size w).alloc (Nat.le_refl _) (.cells NC 38)).alloc (by simp) (.cells ND 38)
  have hNs : NC.size = 12 := by rw [hNC]; rfl
  have hDs : ND.size = 12 := by rw [hND]; rfl
  have kn0 : NC[0]? = some (.int .u8 op) := by rw [hNC]; rfl
  have kd0 : ND[0]? = some (.int .u8 op) := by rw [hND]; rfl
  have kn1 : NC[1]? = some (.int .u8 byo) := by rw [hNC]; rfl
  have kd1 : ND[1]? = some (.int .u8 byo) := by rw [hND]; rfl
  have kn2 : NC[2]? = some (.int .i64 d) := by rw [hNC]; rfl
  have kd2 : ND[2]? = some (.int .i64 d2) := by rw [hND]; rfl
  have hbk : (d == d2) = false := by simp [q]
  have Hb := Lib.hid hb
  have HNC := Lib.hid hNC
  have HND := Lib.hid hND
  have HNs := Lib.hid hNs
  have HDs := Lib.hid hDs
  have Hq := Lib.hid q
  clear q hDs hNs hND hNC hb
  go_enter Try.func37, Try.ntmps37
  go_wp2_with fail
  go_ret
  exact ⟨rfl, Hb.out⟩
set_option maxRecDepth 100000 in
set_option maxHeartbeats 4000000 in
theorem sameNode_no3 (w : World) (op byo d e_ a b f cell imm next els e_2 a2 b2 f2 cell2 imm2 next2 els2 : Int) (AA AA2 : Option Addr) (m ac m2 ac2 : Nat) (q : e_ ≠ e_2) :
    Calls Try.prog 37 #[.agg #[.int .u8 op, .int .u8 byo, .int .i64 d, .int .i64 e_, .int .i64 a, .int .i64 b, .int .i64 f, .int .i64 cell, .int .u64 imm, .slice AA m ac, .int .i64 next, .int .i64 els], .agg #[.int .u8 op, .int .u8 byo, .int .i64 d, .int .i64 e_2, .int .i64 a2, .int .i64 b2, .int .i64 f2, .int .i64 cell2, .int .u64 imm2, .slice AA2 m2 ac2, .int .i64 next2, .int .i64 els2]] w fun e w' => e = .returned (.bool false) ∧ Below w.heap.size w w' := by
  obtain ⟨NC, hNC⟩ : ∃ NC : Array Value, NC = #[.int .u8 op, .int .u8 byo, .int .i64 d, .int .i64 e_, .int .i64 a, .int .i64 b, .int .i64 f, .int .i64 cell, .int .u64 imm, .slice AA m ac, .int .i64 next, .int .i64 els] := ⟨_, rfl⟩
  obtain ⟨ND, hND⟩ : ∃ ND : Array Value, ND = #[.int .u8 op, .int .u8 byo, .int .i64 d, .int .i64 e_2, .int .i64 a2, .int .i64 b2, .int .i64 f2, .int .i64 cell2, .int .u64 imm2, .slice AA2 m2 ac2, .int .i64 next2, .int .i64 els2] := ⟨_, rfl⟩
  rw [← hNC, ← hND]
  have hb := ((Below.refl w.heap.size w).alloc (Nat.le_refl _) (.cells NC 38)).alloc (by simp) (.cells ND 38)
  have hNs : NC.size = 12 := by rw [hNC]; rfl
  have hDs : ND.size = 12 := by rw [hND]; rfl
  have kn0 : NC[0]? = some (.int .u8 op) := by rw [hNC]; rfl
  have kd0 : ND[0]? = some (.int .u8 op) := by rw [hND]; rfl
  have kn1 : NC[1]? = some (.int .u8 byo) := by rw [hNC]; rfl
  have kd1 : ND[1]? = some (.int .u8 byo) := by rw [hND]; rfl
  have kn2 : NC[2]? = some (.int .i64 d) := by rw [hNC]; rfl
  have kd2 : ND[2]? = some (.int .i64 d) := by rw [hND]; rfl
  have kn3 : NC[3]? = some (.int .i64 e_) := by rw [hNC]; rfl
  have kd3 : ND[3]? = some (.int .i64 e_2) := by rw [hND]; rfl
  have hbk : (e_ == e_2) = false := by simp [q]
  have Hb := Lib.hid hb
  have HNC := Lib.hid hNC
  have HND := Lib.hid hND
  have HNs := Lib.hid hNs
  have HDs := Lib.hid hDs
  have Hq := Lib.hid q
  clear q hDs hNs hND hNC hb
  go_enter Try.func37, Try.ntmps37
  go_wp2_with fail
  go_ret
  exact ⟨rfl, Hb.out⟩
set_option maxRecDepth 100000 in
set_option maxHeartbeats 4000000 in
theorem sameNode_no4 (w : World) (op byo d e_ a b f cell imm next els a2 b2 f2 cell2 imm2 next2 els2 : Int) (AA AA2 : Option Addr) (m ac m2 ac2 : Nat) (q : a ≠ a2) :
    Calls Try.prog 37 #[.agg #[.int .u8 op, .int .u8 byo, .int .i64 d, .int .i64 e_, .int .i64 a, .int .i64 b, .int .i64 f, .int .i64 cell, .int .u64 imm, .slice AA m ac, .int .i64 next, .int .i64 els], .agg #[.int .u8 op, .int .u8 byo, .int .i64 d, .int .i64 e_, .int .i64 a2, .int .i64 b2, .int .i64 f2, .int .i64 cell2, .int .u64 imm2, .slice AA2 m2 ac2, .int .i64 next2, .int .i64 els2]] w fun e w' => e = .returned (.bool false) ∧ Below w.heap.size w w' := by
  obtain ⟨NC, hNC⟩ : ∃ NC : Array Value, NC = #[.int .u8 op, .int .u8 byo, .int .i64 d, .int .i64 e_, .int .i64 a, .int .i64 b, .int .i64 f, .int .i64 cell, .int .u64 imm, .slice AA m ac, .int .i64 next, .int .i64 els] := ⟨_, rfl⟩
  obtain ⟨ND, hND⟩ : ∃ ND : Array Value, ND = #[.int .u8 op, .int .u8 byo, .int .i64 d, .int .i64 e_, .int .i64 a2, .int .i64 b2, .int .i64 f2, .int .i64 cell2, .int .u64 imm2, .slice AA2 m2 ac2, .int .i64 next2, .int .i64 els2] := ⟨_, rfl⟩
  rw [← hNC, ← hND]
  have hb := ((Below.refl w.heap.size w).alloc (Nat.le_refl _) (.cells NC 38)).alloc (by simp) (.cells ND 38)
  have hNs : NC.size = 12 := by rw [hNC]; rfl
  have hDs : ND.size = 12 := by rw [hND]; rfl
  have kn0 : NC[0]? = some (.int .u8 op) := by rw [hNC]; rfl
  have kd0 : ND[0]? = some (.int .u8 op) := by rw [hND]; rfl
  have kn1 : NC[1]? = some (.int .u8 byo) := by rw [hNC]; rfl
  have kd1 : ND[1]? = some (.int .u8 byo) := by rw [hND]; rfl
  have kn2 : NC[2]? = some (.int .i64 d) := by rw [hNC]; rfl
  have kd2 : ND[2]? = some (.int .i64 d) := by rw [hND]; rfl
  have kn3 : NC[3]? = some (.int .i64 e_) := by rw [hNC]; rfl
  have kd3 : ND[3]? = some (.int .i64 e_) := by rw [hND]; rfl
  have kn4 : NC[4]? = some (.int .i64 a) := by rw [hNC]; rfl
  have kd4 : ND[4]? = some (.int .i64 a2) := by rw [hND]; rfl
  have hbk : (a == a2) = false := by simp [q]
  have Hb := Lib.hid hb
  have HNC := Lib.hid hNC
  have HND := Lib.hid hND
  have HNs := Lib.hid hNs
  have HDs := Lib.hid hDs
  have Hq := Lib.hid q
  clear q hDs hNs hND hNC hb
  go_enter Try.func37, Try.ntmps37
  go_wp2_with fail
  go_ret
  exact ⟨rfl, Hb.out⟩
set_option maxRecDepth 100000 in
set_option maxHeartbeats 4000000 in
theorem sameNode_no5 (w : World) (op byo d e_ a b f cell imm next els b2 f2 cell2 imm2 next2 els2 : Int) (AA AA2 : Option Addr) (m ac m2 ac2 : Nat) (q : b ≠ b2) :
    Calls Try.prog 37 #[.agg #[.int .u8 op, .int .u8 byo, .int .i64 d, .int .i64 e_, .int .i64 a, .int .i64 b, .int .i64 f, .int .i64 cell, .int .u64 imm, .slice AA m ac, .int .i64 next, .int .i64 els], .agg #[.int .u8 op, .int .u8 byo, .int .i64 d, .int .i64 e_, .int .i64 a, .int .i64 b2, .int .i64 f2, .int .i64 cell2, .int .u64 imm2, .slice AA2 m2 ac2, .int .i64 next2, .int .i64 els2]] w fun e w' => e = .returned (.bool false) ∧ Below w.heap.size w w' := by
  obtain ⟨NC, hNC⟩ : ∃ NC : Array Value, NC = #[.int .u8 op, .int .u8 byo, .int .i64 d, .int .i64 e_, .int .i64 a, .int .i64 b, .int .i64 f, .int .i64 cell, .int .u64 imm, .slice AA m ac, .int .i64 next, .int .i64 els] := ⟨_, rfl⟩
  obtain ⟨ND, hND⟩ : ∃ ND : Array Value, ND = #[.int .u8 op, .int .u8 byo, .int .i64 d, .int .i64 e_, .int .i64 a, .int .i64 b2, .int .i64 f2, .int .i64 cell2, .int .u64 imm2, .slice AA2 m2 ac2, .int .i64 next2, .int .i64 els2] := ⟨_, rfl⟩
  rw [← hNC, ← hND]
  have hb := ((Below.refl w.heap.size w).alloc (Nat.le_refl _) (.cells NC 38)).alloc (by simp) (.cells ND 38)
  have hNs : NC.size = 12 := by rw [hNC]; rfl
  have hDs : ND.size = 12 := by rw [hND]; rfl
  have kn0 : NC[0]? = some (.int .u8 op) := by rw [hNC]; rfl
  have kd0 : ND[0]? = some (.int .u8 op) := by rw [hND]; rfl
  have kn1 : NC[1]? = some (.int .u8 byo) := by rw [hNC]; rfl
  have kd1 : ND[1]? = some (.int .u8 byo) := by rw [hND]; rfl
  have kn2 : NC[2]? = some (.int .i64 d) := by rw [hNC]; rfl
  have kd2 : ND[2]? = some (.int .i64 d) := by rw [hND]; rfl
  have kn3 : NC[3]? = some (.int .i64 e_) := by rw [hNC]; rfl
  have kd3 : ND[3]? = some (.int .i64 e_) := by rw [hND]; rfl
  have kn4 : NC[4]? = some (.int .i64 a) := by rw [hNC]; rfl
  have kd4 : ND[4]? = some (.int .i64 a) := by rw [hND]; rfl
  have kn5 : NC[5]? = some (.int .i64 b) := by rw [hNC]; rfl
  have kd5 : ND[5]? = some (.int .i64 b2) := by rw [hND]; rfl
  have hbk : (b == b2) = false := by simp [q]
  have Hb := Lib.hid hb
  have HNC := Lib.hid hNC
  have HND := Lib.hid hND
  have HNs := Lib.hid hNs
  have HDs := Lib.hid hDs
  have Hq := Lib.hid q
  clear q hDs hNs hND hNC hb
  go_enter Try.func37, Try.ntmps37
  go_wp2_with fail
  go_ret
  exact ⟨rfl, Hb.out⟩
end Go.Proofs.Ytfjalejlbegkeaa
