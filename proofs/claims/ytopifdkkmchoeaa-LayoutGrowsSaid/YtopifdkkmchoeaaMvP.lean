/- Moves of words as plain data: what they are in memory, which are right, and how they are laid one after the other. No condition. -/
import Derived.Test.YtopifdkkmchoeaaWords2
set_option linter.unusedVariables false
set_option linter.unusedSimpArgs false
namespace Go.Proofs.Ytopifdkkmchoeaa
open Go.RowKit

abbrev Mv := Int × Int
def mcell (m : Mv) : List Value := [.int .i64 m.1, .int .i64 m.2]
def mcells (ms : List Mv) : List Value := ms.flatMap mcell
theorem mcells_nil : mcells [] = [] := rfl
theorem mcells_cons (m : Mv) (ms : List Mv) : mcells (m :: ms) = .int .i64 m.1 :: .int .i64 m.2 :: mcells ms := rfl
theorem mcells_append (a b : List Mv) : mcells (a ++ b) = mcells a ++ mcells b := by simp [mcells]
theorem mcells_len (ms : List Mv) : (mcells ms).length = ms.length * 2 := by
  induction ms with
  | nil => rfl
  | cons m r ih => rw [mcells_cons]; simp [ih]; omega
theorem mcells_get (ms : List Mv) (k : Nat) (m : Mv) (h : ms[k]? = some m) : (mcells ms)[k * 2]? = some (.int .i64 m.1) ∧ (mcells ms)[k * 2 + 1]? = some (.int .i64 m.2) := by
  induction ms generalizing k with
  | nil => simp at h
  | cons x r ih =>
    rw [mcells_cons]
    cases k with
    | zero => simp at h; subst h; exact ⟨rfl, rfl⟩
    | succ k =>
      have h' := ih k (by simpa using h)
      rw [show (k + 1) * 2 = k * 2 + 1 + 1 by omega]
      simpa using h'
theorem mcells_one (ms : List Mv) : ∀ u ∈ mcells ms, u.oneCell' = true := by
  intro u hu
  obtain ⟨m, _, hm⟩ := List.mem_flatMap.1 hu
  simp [mcell] at hm
  rcases hm with rfl | rfl <;> rfl
theorem mcells_set (ms : List Mv) (k : Nat) (m : Mv) (v : Int) (h : ms[k]? = some m) : (mcells ms).set (k * 2 + 1) (.int .i64 v) = mcells (ms.set k (m.1, v)) := by
  induction ms generalizing k with
  | nil => simp at h
  | cons x r ih =>
    rw [mcells_cons]
    cases k with
    | zero => simp at h; subst h; rfl
    | succ k =>
      have h' := ih k (by simpa using h)
      rw [show (k + 1) * 2 + 1 = k * 2 + 1 + 1 + 1 by omega, List.set_cons_succ, List.set_cons_succ, h', List.set_cons_succ, mcells_cons]
/-- which moves are right -/
def goodM (s : Int) (m : Mv) : Prop := 0 ≤ m.1 ∧ 0 ≤ m.2 ∧ m.1 ≠ s ∧ m.2 ≠ s
instance (s : Int) (m : Mv) : Decidable (goodM s m) := by unfold goodM; infer_instance
def okM (ms : List Mv) (s : Int) : Prop := (∀ m ∈ ms, goodM s m) ∧ (ms.map (·.1)).Nodup ∧ 0 ≤ s
instance (ms : List Mv) (s : Int) : Decidable (okM ms s) := by unfold okM; infer_instance
/-- the first whose to nobody asks for any more -/
def freeM (left : List Mv) (m : Mv) : Bool := !left.any fun n => n.2 == m.1
def lineM : Nat → List Mv → Int → List Mv
  | 0, _, _ => []
  | _, [], _ => []
  | fuel + 1, m :: r, s => match (m :: r).findIdx? (freeM (m :: r)) with
    | some i => (m :: r)[i]! :: lineM fuel ((m :: r).eraseIdx i) s
    | none => (s, m.1) :: lineM fuel ((m :: r).map fun n => if n.2 == m.1 then (n.1, s) else n) s
end Go.Proofs.Ytopifdkkmchoeaa
