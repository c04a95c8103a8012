/- The kinds that an operation asks for, in the document's words, and that they say what the checker says. No condition. -/
import Derived.Test.YtncpehhfjkncoaaIrRHead
set_option linter.unusedVariables false
set_option linter.unusedSimpArgs false
namespace Go.Proofs.Ytncpehhfjkncoaa
open Go.RowKit

def wantA (op : Int) : Array UInt8 :=
  if op = 1 then #[110, 45, 45, 45] else if op = 2 then #[61, 45, 61, 45] else if op = 3 then #[110, 45, 110, 110] else if op = 4 then #[110, 45, 45, 45] else if op = 5 then #[45, 45, 110, 45]
  else if op = 6 then #[112, 45, 45, 45] else if op = 7 then #[110, 45, 112, 45] else if op = 8 then #[45, 45, 112, 110] else if op = 9 then #[45, 45, 110, 45] else if op = 10 then #[45, 45, 45, 45]
  else if op = 11 then #[45, 45, 45, 45] else if op = 12 then #[45, 45, 45, 45] else if op = 13 then #[45, 45, 45, 45] else if op = 14 then #[45, 45, 110, 45] else if op = 15 then #[110, 110, 45, 45]
  else if op = 16 then #[110, 45, 45, 45] else if op = 17 then #[45, 45, 110, 45] else #[45, 45, 110, 45]
theorem op_cases {op : Int} (h1 : 1 ≤ op) (h2 : op ≤ 18) : op = 1 ∨ op = 2 ∨ op = 3 ∨ op = 4 ∨ op = 5 ∨ op = 6 ∨ op = 7 ∨ op = 8 ∨ op = 9 ∨ op = 10 ∨ op = 11 ∨ op = 12 ∨ op = 13 ∨ op = 14 ∨ op = 15 ∨ op = 16 ∨ op = 17 ∨ op = 18 := by omega
theorem ite_size {c : Prop} [Decidable c] {a b : Array UInt8} (ha : a.size = 4) (hb : b.size = 4) : (if c then a else b).size = 4 := by
  split
  · exact ha
  · exact hb
theorem wantA_size (op : Int) : (wantA op).size = 4 := by
  unfold wantA
  repeat (refine ite_size rfl ?_)
  rfl
set_option maxRecDepth 100000 in
set_option maxHeartbeats 4000000 in
theorem want_any (w : World) (op : Int) (h1 : 1 ≤ op) (h2 : op ≤ 18) :
    Calls Try.prog 36 #[.int .u8 op] w fun e w' => e = .returned (.string ⟨wantA op⟩) ∧ Below w.heap.size w w' := by
  rcases op_cases h1 h2 with e | e | e | e | e | e | e | e | e | e | e | e | e | e | e | e | e | e
  all_goals
    subst e
    clear h1 h2
    go_enter Try.func36, Try.ntmps36
    go_wp2_with fail
    go_ret
    exact ⟨rfl, (Below.refl _ _).alloc (Nat.le_refl _) _⟩
def chk (g : GraphD) (bound : Bool) (c : Nat) (p : Int) : Bool := if c = 110 then fitsB g bound 0 p else if c = 112 then fitsB g bound 1 p else true
def wantB (g : GraphD) (bound : Bool) (x : NodeD) : Bool := (List.range 4).all fun j => chk g bound ((wantA x.op).getD j 0).toNat ([x.d, x.e, x.a, x.b].getD j 0)
def tailB (gs : List GraphD) (g : GraphD) (bound : Bool) (x : NodeD) : Bool :=
  if x.op = 2 then (fitsB g bound 0 x.d && fitsB g bound 0 x.a) || (fitsB g bound 1 x.d && fitsB g bound 1 x.a)
  else if x.op = 3 then decide (7 ≤ x.byo) && decide (x.byo ≤ 20)
  else if x.op = 4 ∨ x.op = 5 ∨ x.op = 6 then cellB g x.cell
  else if x.op = 15 then decide (x.d ≠ x.e)
  else if x.op = 12 then (if x.a = -1 then !g.result else g.result && fitsB g bound 0 x.a)
  else if x.op = 13 then argsB gs g bound x
  else if x.op = 11 then argsB gs g bound x && (decide (x.d = -1) || ((match gs[x.f.toNat]? with | none => false | some f => f.result) && fitsB g bound 0 x.d && (!bound || decide (x.d = 0))))
  else true
theorem op_want (gs : List GraphD) (g : GraphD) (bound : Bool) (x : NodeD) (h1 : 1 ≤ x.op) (h2 : x.op ≤ 18) : opB gs g bound x = (wantB g bound x && tailB gs g bound x) := by
  obtain ⟨op, byo, d, e_, a, b, f, cell, imm, args, next, els⟩ := x
  simp only at h1 h2
  have hr : List.range 4 = [0, 1, 2, 3] := rfl
  have e1 : decide (a ≠ -1) = !decide (a = -1) := by simp
  rcases op_cases h1 h2 with h | h | h | h | h | h | h | h | h | h | h | h | h | h | h | h | h | h
  all_goals
    subst h
    simp only [opB, wantB, tailB, hr, wantA, isB, chk, List.all_cons, List.all_nil]
    simp
  all_goals try (generalize fitsB g bound 0 d = A)
  all_goals try (generalize fitsB g bound 0 a = B)
  all_goals try (generalize fitsB g bound 1 a = B1)
  all_goals try (generalize fitsB g bound 1 d = A1)
  all_goals try (generalize fitsB g bound 0 b = C)
  all_goals try (generalize fitsB g bound 0 e_ = D)
  all_goals try (generalize cellB g cell = E)
  all_goals try (generalize argsB gs g bound _ = F)
  all_goals first
    | exact Bool.and_comm _ _
    | ((by_cases ha : a = -1 <;> simp [ha]); done)
    | ((cases A <;> simp); done)
    | ((cases hq : gs[f.toNat]? <;> cases A <;> simp); done)
end Go.Proofs.Ytncpehhfjkncoaa
