/- Walks of ir's sameNode: nodes that differ, second part. Conditions: the nodes lie in memory. -/
import Derived.Test.YtfjalejlbegkeaaIrReads
set_option linter.unusedVariables false
set_option linter.unusedSimpArgs false
namespace Go.Proofs.Ytfjalejlbegkeaa
open Go.RowKit

set_option maxRecDepth 100000 in
set_option maxHeartbeats 4000000 in
theorem sameNode_no6 (w : World) (op byo d e_ a b f cell imm next els f2 cell2 imm2 next2 els2 : Int) (AA AA2 : Option Addr) (m ac m2 ac2 : Nat) (q : f ≠ f2) :
    Calls Try.prog 37 #[.agg #[.int .u8 op, .int .u8 byo, .int .i64 d, .int .i64 e_, .int .i64 a, .int .i64 b, .int .i64 f, .int .i64 cell, .int .u64 imm, .slice AA m ac, .int .i64 next, .int .i64 els], .agg #[.int .u8 op, .int .u8 byo, .int .i64 d, .int .i64 e_, .int .i64 a, .int .i64 b, .int .i64 f2, .int .i64 cell2, .int .u64 imm2, .slice AA2 m2 ac2, .int .i64 next2, .int .i64 els2]] w fun e w' => e = .returned (.bool false) ∧ Below w.heap.size w w' := by
  obtain ⟨NC, hNC⟩ : ∃ NC : Array Value, NC = #[.int .u8 op, .int .u8 byo, .int .i64 d, .int .i64 e_, .int .i64 a, .int .i64 b, .int .i64 f, .int .i64 cell, .int .u64 imm, .slice AA m ac, .int .i64 next, .int .i64 els] := ⟨_, rfl⟩
  obtain ⟨ND, hND⟩ : ∃ ND : Array Value, ND = #[.int .u8 op, .int .u8 byo, .int .i64 d, .int .i64 e_, .int .i64 a, .int .i64 b, .int .i64 f2, .int .i64 cell2, .int .u64 imm2, .slice AA2 m2 ac2, .int .i64 next2, .int .i64 els2] := ⟨_, rfl⟩
  rw [← hNC, ← hND]
  have hb := ((Below.refl w.heap.size w).alloc (Nat.le_refl _) (.cells NC 38)).alloc (by simp) (.cells ND 38)
  have hNs : NC.size = 12 := by rw [hNC]; rfl
  have hDs : ND.size = 12 := by rw [hND]; rfl
  have kn0 : NC[0]? = some (.int .u8 op) := by rw [hNC]; rfl
  have kd0 : ND[0]? = some (.int .u8 op) := by rw [hND]; rfl
  have kn1 : NC[1]? = some (.int .u8 byo) := by rw [hNC]; rfl
  have kd1 : ND[1]? = some (.int .u8 byo) := by rw [hND]; rfl
  have kn2 : NC[2]? = some (.int .i64 d) := by rw [hNC]; rfl
  have kd2 : ND[2]? = some (.int .i64 d) := by rw [hND]; rfl
  have kn3 : NC[3]? = some (.int .i64 e_) := by rw [hNC]; rfl
  have kd3 : ND[3]? = some (.int .i64 e_) := by rw [hND]; rfl
  have kn4 : NC[4]? = some (.int .i64 a) := by rw [hNC]; rfl
  have kd4 : ND[4]? = some (.int .i64 a) := by rw [hND]; rfl
  have kn5 : NC[5]? = some (.int .i64 b) := by rw [hNC]; rfl
  have kd5 : ND[5]? = some (.int .i64 b) := by rw [hND]; rfl
  have kn6 : NC[6]? = some (.int .i64 f) := by rw [hNC]; rfl
  have kd6 : ND[6]? = some (.int .i64 f2) := by rw [hND]; rfl
  have hbk : (f == f2) = false := by simp [q]
  have Hb := Lib.hid hb
  have HNC := Lib.hid hNC
  have HND := Lib.hid hND
  have HNs := Lib.hid hNs
  have HDs := Lib.hid hDs
  have Hq := Lib.hid q
  clear q hDs hNs hND hNC hb
  go_enter Try.func37, Try.ntmps37
  go_wp2_with fail
  go_ret
  exact ⟨rfl, Hb.out⟩
set_option maxRecDepth 100000 in
set_option maxHeartbeats 4000000 in
theorem sameNode_no7 (w : World) (op byo d e_ a b f cell imm next els cell2 imm2 next2 els2 : Int) (AA AA2 : Option Addr) (m ac m2 ac2 : Nat) (q : cell ≠ cell2) :
    Calls Try.prog 37 #[.agg #[.int .u8 op, .int .u8 byo, .int .i64 d, .int .i64 e_, .int .i64 a, .int .i64 b, .int .i64 f, .int .i64 cell, .int .u64 imm, .slice AA m ac, .int .i64 next, .int .i64 els], .agg #[.int .u8 op, .int .u8 byo, .int .i64 d, .int .i64 e_, .int .i64 a, .int .i64 b, .int .i64 f, .int .i64 cell2, .int .u64 imm2, .slice AA2 m2 ac2, .int .i64 next2, .int .i64 els2]] w fun e w' => e = .returned (.bool false) ∧ Below w.heap.size w w' := by
  obtain ⟨NC, hNC⟩ : ∃ NC : Array Value, NC = #[.int .u8 op, .int .u8 byo, .int .i64 d, .int .i64 e_, .int .i64 a, .int .i64 b, .int .i64 f, .int .i64 cell, .int .u64 imm, .slice AA m ac, .int .i64 next, .int .i64 els] := ⟨_, rfl⟩
  obtain ⟨ND, hND⟩ : ∃ ND : Array Value, ND = #[.int .u8 op, .int .u8 byo, .int .i64 d, .int .i64 e_, .int .i64 a, .int .i64 b, .int .i64 f, .int .i64 cell2, .int .u64 imm2, .slice AA2 m2 ac2, .int .i64 next2, .int .i64 els2] := ⟨_, rfl⟩
  rw [← hNC, ← hND]
  have hb := ((Below.refl w.heap.size w).alloc (Nat.le_refl _) (.cells NC 38)).alloc (by simp) (.cells ND 38)
  have hNs : NC.size = 12 := by rw [hNC]; rfl
  have hDs : ND.size = 12 := by rw [hND]; rfl
  have kn0 : NC[0]? = some (.int .u8 op) := by rw [hNC]; rfl
  have kd0 : ND[0]? = some (.int .u8 op) := by rw [hND]; rfl
  have kn1 : NC[1]? = some (.int .u8 byo) := by rw [hNC]; rfl
  have kd1 : ND[1]? = some (.int .u8 byo) := by rw [hND]; rfl
  have kn2 : NC[2]? = some (.int .i64 d) := by rw [hNC]; rfl
  have kd2 : ND[2]? = some (.int .i64 d) := by rw [hND]; rfl
  have kn3 : NC[3]? = some (.int .i64 e_) := by rw [hNC]; rfl
  have kd3 : ND[3]? = some (.int .i64 e_) := by rw [hND]; rfl
  have kn4 : NC[4]? = some (.int .i64 a) := by rw [hNC]; rfl
  have kd4 : ND[4]? = some (.int .i64 a) := by rw [hND]; rfl
  have kn5 : NC[5]? = some (.int .i64 b) := by rw [hNC]; rfl
  have kd5 : ND[5]? = some (.int .i64 b) := by rw [hND]; rfl
  have kn6 : NC[6]? = some (.int .i64 f) := by rw [hNC]; rfl
  have kd6 : ND[6]? = some (.int .i64 f) := by rw [hND]; rfl
  have kn7 : NC[7]? = some (.int .i64 cell) := by rw [hNC]; rfl
  have kd7 : ND[7]? = some (.int .i64 cell2) := by rw [hND]; rfl
  have hbk : (cell == cell2) = false := by simp [q]
  have Hb := Lib.hid hb
  have HNC := Lib.hid hNC
  have HND := Lib.hid hND
  have HNs := Lib.hid hNs
  have HDs := Lib.hid hDs
  have Hq := Lib.hid q
  clear q hDs hNs hND hNC hb
  go_enter Try.func37, Try.ntmps37
  go_wp2_with fail
  go_ret
  exact ⟨rfl, Hb.out⟩
set_option maxRecDepth 100000 in
set_option maxHeartbeats 4000000 in
theorem sameNode_no8 (w : World) (op byo d e_ a b f cell imm next els imm2 next2 els2 : Int) (AA AA2 : Option Addr) (m ac m2 ac2 : Nat) (q : imm ≠ imm2) :
    Calls Try.prog 37 #[.agg #[.int .u8 op, .int .u8 byo, .int .i64 d, .int .i64 e_, .int .i64 a, .int .i64 b, .int .i64 f, .int .i64 cell, .int .u64 imm, .slice AA m ac, .int .i64 next, .int .i64 els], .agg #[.int .u8 op, .int .u8 byo, .int .i64 d, .int .i64 e_, .int .i64 a, .int .i64 b, .int .i64 f, .int .i64 cell, .int .u64 imm2, .slice AA2 m2 ac2, .int .i64 next2, .int .i64 els2]] w fun e w' => e = .returned (.bool false) ∧ Below w.heap.size w w' := by
  obtain ⟨NC, hNC⟩ : ∃ NC : Array Value, NC = #[.int .u8 op, .int .u8 byo, .int .i64 d, .int .i64 e_, .int .i64 a, .int .i64 b, .int .i64 f, .int .i64 cell, .int .u64 imm, .slice AA m ac, .int .i64 next, .int .i64 els] := ⟨_, rfl⟩
  obtain ⟨ND, hND⟩ : ∃ ND : Array Value, ND = #[.int .u8 op, .int .u8 byo, .int .i64 d, .int .i64 e_, .int .i64 a, .int .i64 b, .int .i64 f, .int .i64 cell, .int .u64 imm2, .slice AA2 m2 ac2, .int .i64 next2, .int .i64 els2] := ⟨_, rfl⟩
  rw [← hNC, ← hND]
  have hb := ((Below.refl w.heap.size w).alloc (Nat.le_refl _) (.cells NC 38)).alloc (by simp) (.cells ND 38)
  have hNs : NC.size = 12 := by rw [hNC]; rfl
  have hDs : ND.size = 12 := by rw [hND]; rfl
  have kn0 : NC[0]? = some (.int .u8 op) := by rw [hNC]; rfl
  have kd0 : ND[0]? = some (.int .u8 op) := by rw [hND]; rfl
  have kn1 : NC[1]? = some (.int .u8 byo) := by rw [hNC]; rfl
  have kd1 : ND[1]? = some (.int .u8 byo) := by rw [hND]; rfl
  have kn2 : NC[2]? = some (.int .i64 d) := by rw [hNC]; rfl
  have kd2 : ND[2]? = some (.int .i64 d) := by rw [hND]; rfl
  have kn3 : NC[3]? = some (.int .i64 e_) := by rw [hNC]; rfl
  have kd3 : ND[3]? = some (.int .i64 e_) := by rw [hND]; rfl
  have kn4 : NC[4]? = some (.int .i64 a) := by rw [hNC]; rfl
  have kd4 : ND[4]? = some (.int .i64 a) := by rw [hND]; rfl
  have kn5 : NC[5]? = some (.int .i64 b) := by rw [hNC]; rfl
  have kd5 : ND[5]? = some (.int .i64 b) := by rw [hND]; rfl
  have kn6 : NC[6]? = some (.int .i64 f) := by rw [hNC]; rfl
  have kd6 : ND[6]? = some (.int .i64 f) := by rw [hND]; rfl
  have kn7 : NC[7]? = some (.int .i64 cell) := by rw [hNC]; rfl
  have kd7 : ND[7]? = some (.int .i64 cell) := by rw [hND]; rfl
  have kn8 : NC[8]? = some (.int .u64 imm) := by rw [hNC]; rfl
  have kd8 : ND[8]? = some (.int .u64 imm2) := by rw [hND]; rfl
  have hbk : (imm == imm2) = false := by simp [q]
  have Hb := Lib.hid hb
  have HNC := Lib.hid hNC
  have HND := Lib.hid hND
  have HNs := Lib.hid hNs
  have HDs := Lib.hid hDs
  have Hq := Lib.hid q
  clear q hDs hNs hND hNC hb
  go_enter Try.func37, Try.ntmps37
  go_wp2_with fail
  go_ret
  exact ⟨rfl, Hb.out⟩
set_option maxRecDepth 100000 in
set_option maxHeartbeats 4000000 in
theorem sameNode_no9 (w : World) (op byo d e_ a b f cell imm next els next2 els2 : Int) (AA AA2 : Option Addr) (m ac m2 ac2 : Nat) (q : next ≠ next2) :
    Calls Try.prog 37 #[.agg #[.int .u8 op, .int .u8 byo, .int .i64 d, .int .i64 e_, .int .i64 a, .int .i64 b, .int .i64 f, .int .i64 cell, .int .u64 imm, .slice AA m ac, .int .i64 next, .int .i64 els], .agg #[.int .u8 op, .int .u8 byo, .int .i64 d, .int .i64 e_, .int .i64 a, .int .i64 b, .int .i64 f, .int .i64 cell, .int .u64 imm, .slice AA2 m2 ac2, .int .i64 next2, .int .i64 els2]] w fun e w' => e = .returned (.bool false) ∧ Below w.heap.size w w' := by
  obtain ⟨NC, hNC⟩ : ∃ NC : Array Value, NC = #[.int .u8 op, .int .u8 byo, .int .i64 d, .int .i64 e_, .int .i64 a, .int .i64 b, .int .i64 f, .int .i64 cell, .int .u64 imm, .slice AA m ac, .int .i64 next, .int .i64 els] := ⟨_, rfl⟩
  obtain ⟨ND, hND⟩ : ∃ ND : Array Value, ND = #[.int .u8 op, .int .u8 byo, .int .i64 d, .int .i64 e_, .int .i64 a, .int .i64 b, .int .i64 f, .int .i64 cell, .int .u64 imm, .slice AA2 m2 ac2, .int .i64 next2, .int .i64 els2] := ⟨_, rfl⟩
  rw [← hNC, ← hND]
  have hb := ((Below.refl w.heap.size w).alloc (Nat.le_refl _) (.cells NC 38)).alloc (by simp) (.cells ND 38)
  have hNs : NC.size = 12 := by rw [hNC]; rfl
  have hDs : ND.size = 12 := by rw [hND]; rfl
  have kn0 : NC[0]? = some (.int .u8 op) := by rw [hNC]; rfl
  have kd0 : ND[0]? = some (.int .u8 op) := by rw [hND]; rfl
  have kn1 : NC[1]? = some (.int .u8 byo) := by rw [hNC]; rfl
  have kd1 : ND[1]? = some (.int .u8 byo) := by rw [hND]; rfl
  have kn2 : NC[2]? = some (.int .i64 d) := by rw [hNC]; rfl
  have kd2 : ND[2]? = some (.int .i64 d) := by rw [hND]; rfl
  have kn3 : NC[3]? = some (.int .i64 e_) := by rw [hNC]; rfl
  have kd3 : ND[3]? = some (.int .i64 e_) := by rw [hND]; rfl
  have kn4 : NC[4]? = some (.int .i64 a) := by rw [hNC]; rfl
  have kd4 : ND[4]? = some (.int .i64 a) := by rw [hND]; rfl
  have kn5 : NC[5]? = some (.int .i64 b) := by rw [hNC]; rfl
  have kd5 : ND[5]? = some (.int .i64 b) := by rw [hND]; rfl
  have kn6 : NC[6]? = some (.int .i64 f) := by rw [hNC]; rfl
  have kd6 : ND[6]? = some (.int .i64 f) := by rw [hND]; rfl
  have kn7 : NC[7]? = some (.int .i64 cell) := by rw [hNC]; rfl
  have kd7 : ND[7]? = some (.int .i64 cell) := by rw [hND]; rfl
  have kn8 : NC[8]? = some (.int .u64 imm) := by rw [hNC]; rfl
  have kd8 : ND[8]? = some (.int .u64 imm) := by rw [hND]; rfl
  have kn10 : NC[10]? = some (.int .i64 next) := by rw [hNC]; rfl
  have kd10 : ND[10]? = some (.int .i64 next2) := by rw [hND]; rfl
  have hbk : (next == next2) = false := by simp [q]
  have Hb := Lib.hid hb
  have HNC := Lib.hid hNC
  have HND := Lib.hid hND
  have HNs := Lib.hid hNs
  have HDs := Lib.hid hDs
  have Hq := Lib.hid q
  clear q hDs hNs hND hNC hb
  go_enter Try.func37, Try.ntmps37
  go_wp2_with fail
  go_ret
  exact ⟨rfl, Hb.out⟩
set_option maxRecDepth 100000 in
set_option maxHeartbeats 4000000 in
theorem sameNode_no10 (w : World) (op byo d e_ a b f cell imm next els els2 : Int) (AA AA2 : Option Addr) (m ac m2 ac2 : Nat) (q : els ≠ els2) :
    Calls Try.prog 37 #[.agg #[.int .u8 op, .int .u8 byo, .int .i64 d, .int .i64 e_, .int .i64 a, .int .i64 b, .int .i64 f, .int .i64 cell, .int .u64 imm, .slice AA m ac, .int .i64 next, .int .i64 els], .agg #[.int .u8 op, .int .u8 byo, .int .i64 d, .int .i64 e_, .int .i64 a, .int .i64 b, .int .i64 f, .int .i64 cell, .int .u64 imm, .slice AA2 m2 ac2, .int .i64 next, .int .i64 els2]] w fun e w' => e = .returned (.bool false) ∧ Below w.heap.size w w' := by
  obtain ⟨NC, hNC⟩ : ∃ NC : Array Value, NC = #[.int .u8 op, .int .u8 byo, .int .i64 d, .int .i64 e_, .int .i64 a, .int .i64 b, .int .i64 f, .int .i64 cell, .int .u64 imm, .slice AA m ac, .int .i64 next, .int .i64 els] := ⟨_, rfl⟩
  obtain ⟨ND, hND⟩ : ∃ ND : Array Value, ND = #[.int .u8 op, .int .u8 byo, .int .i64 d, .int .i64 e_, .int .i64 a, .int .i64 b, .int .i64 f, .int .i64 cell, .int .u64 imm, .slice AA2 m2 ac2, .int .i64 next, .int .i64 els2] := ⟨_, rfl⟩
  rw [← hNC, ← hND]
  have hb := ((Below.refl w.heap.size w).alloc (Nat.le_refl _) (.cells NC 38)).alloc (by simp) (.cells ND 38)
  have hNs : NC.size = 12 := by rw [hNC]; rfl
  have hDs : ND.size = 12 := by rw [hND]; rfl
  have kn0 : NC[0]? = some (.int .u8 op) := by rw [hNC]; rfl
  have kd0 : ND[0]? = some (.int .u8 op) := by rw [hND]; rfl
  have kn1 : NC[1]? = some (.int .u8 byo) := by rw [hNC]; rfl
  have kd1 : ND[1]? = some (.int .u8 byo) := by rw [hND]; rfl
  have kn2 : NC[2]? = some (.int .i64 d) := by rw [hNC]; rfl
  have kd2 : ND[2]? = some (.int .i64 d) := by rw [hND]; rfl
  have kn3 : NC[3]? = some (.int .i64 e_) := by rw [hNC]; rfl
  have kd3 : ND[3]? = some (.int .i64 e_) := by rw [hND]; rfl
  have kn4 : NC[4]? = some (.int .i64 a) := by rw [hNC]; rfl
  have kd4 : ND[4]? = some (.int .i64 a) := by rw [hND]; rfl
  have kn5 : NC[5]? = some (.int .i64 b) := by rw [hNC]; rfl
  have kd5 : ND[5]? = some (.int .i64 b) := by rw [hND]; rfl
  have kn6 : NC[6]? = some (.int .i64 f) := by rw [hNC]; rfl
  have kd6 : ND[6]? = some (.int .i64 f) := by rw [hND]; rfl
  have kn7 : NC[7]? = some (.int .i64 cell) := by rw [hNC]; rfl
  have kd7 : ND[7]? = some (.int .i64 cell) := by rw [hND]; rfl
  have kn8 : NC[8]? = some (.int .u64 imm) := by rw [hNC]; rfl
  have kd8 : ND[8]? = some (.int .u64 imm) := by rw [hND]; rfl
  have kn10 : NC[10]? = some (.int .i64 next) := by rw [hNC]; rfl
  have kd10 : ND[10]? = some (.int .i64 next) := by rw [hND]; rfl
  have kn11 : NC[11]? = some (.int .i64 els) := by rw [hNC]; rfl
  have kd11 : ND[11]? = some (.int .i64 els2) := by rw [hND]; rfl
  have hbk : (els == els2) = false := by simp [q]
  have Hb := Lib.hid hb
  have HNC := Lib.hid hNC
  have HND := Lib.hid hND
  have HNs := Lib.hid hNs
  have HDs := Lib.hid hDs
  have Hq := Lib.hid q
  clear q hDs hNs hND hNC hb
  go_enter Try.func37, Try.ntmps37
  go_wp2_with fail
  go_ret
  exact ⟨rfl, Hb.out⟩
end Go.Proofs.Ytfjalejlbegkeaa
