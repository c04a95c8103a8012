/- What the document's reader makes of bytes is what decP says: it checks later, the answer is the same. No condition but bytes. -/
import Derived.Test.YtcaefdfdngecdaaRefNext
set_option linter.unusedVariables false
set_option linter.unusedSimpArgs false
namespace Go.Proofs.Ytcaefdfdngecdaa
open Go.RowKit

def rawL : Nat → List Int → Option (List Int × List Int)
  | 0, r => some ([], r)
  | n + 1, r => (num 1 r).bind fun p => (rawL n p.2).bind fun q => some (p.1 :: q.1, q.2)
def chkF (a b d : Int) (ks : List Int) : Bool := ks.any (fun l => decide (1 < l)) || decide (1 < d) || decide (b < a)
def rdT (a b : Int) (ks : List Int) (d e : Int) (g : Int × List Int) : Option (FuncD × List Int) := (decIs g.1.toNat g.2).bind fun h => if chkF a b d ks then none else some (⟨a, ks, d == 1, keepOf e, h.1⟩, h.2)
def rdF (r : List Int) : Option (FuncD × List Int) :=
  (num 1 r).bind fun a => (num 1 a.2).bind fun b => (rawL b.1.toNat b.2).bind fun c => (num 1 c.2).bind fun d => (num 1 d.2).bind fun e => (num 2 e.2).bind fun g => rdT a.1 b.1 c.1 d.1 e.1 g
theorem decL_raw (n : Nat) (r : List Int) : decL n r = (rawL n r).bind fun c => if c.1.any (fun l => decide (1 < l)) then none else some c := by
  induction n generalizing r with
  | zero => simp [decL, rawL]
  | succ n ih =>
    rw [decL, rawL]
    cases num 1 r with
    | none => rfl
    | some p =>
      simp only [Option.bind_some]
      rw [ih]
      cases rawL n p.2 with
      | none => simp
      | some q =>
        simp only [Option.bind_some, List.any_cons]
        by_cases hd : 1 < p.1 <;> by_cases ha : (q.1.any fun l => decide (1 < l)) = true <;> simp [hd, ha]
theorem decF_rd (r : List Int) : decF r = rdF r := by
  unfold decF rdF
  cases num 1 r with
  | none => rfl
  | some a =>
    simp only [Option.bind_some]
    cases num 1 a.2 with
    | none => rfl
    | some b =>
      simp only [Option.bind_some]
      rw [decL_raw]
      cases rawL b.1.toNat b.2 with
      | none => simp
      | some c =>
        simp only [Option.bind_some]
        unfold rdT chkF tail2 tail3
        by_cases hb : b.1 < a.1 <;> by_cases ha : (c.1.any fun l => decide (1 < l)) = true
        all_goals
          cases h1 : num 1 c.2 with
          | none => simp [hb, ha, h1]
          | some d =>
            cases h2 : num 1 d.2 with
            | none => by_cases hd : 1 < d.1 <;> simp [hb, ha, h1, h2, hd]
            | some e =>
              cases h3 : num 2 e.2 with
              | none => by_cases hd : 1 < d.1 <;> simp [hb, ha, h1, h2, h3, hd]
              | some g =>
                cases h4 : decIs g.1.toNat g.2 with
                | none => by_cases hd : 1 < d.1 <;> simp [hb, ha, h1, h2, h3, h4, hd]
                | some h => by_cases hd : 1 < d.1 <;> simp [hb, ha, h1, h2, h3, h4, hd]
theorem rdT_bind {β : Type} (a b : Int) (ks : List Int) (d e : Int) (g : Int × List Int) (K : FuncD × List Int → Option β) : (rdT a b ks d e g).bind K = (decIs g.1.toNat g.2).bind fun h => if chkF a b d ks then none else K (⟨a, ks, d == 1, keepOf e, h.1⟩, h.2) := by
  unfold rdT
  cases decIs g.1.toNat g.2 with
  | none => rfl
  | some h =>
    simp only [Option.bind_some]
    cases chkF a b d ks <;> simp
theorem rdF_bind {β : Type} (r : List Int) (K : FuncD × List Int → Option β) : (decF r).bind K =
    (num 1 r).bind fun a => (num 1 a.2).bind fun b => (rawL b.1.toNat b.2).bind fun c => (num 1 c.2).bind fun d => (num 1 d.2).bind fun e => (num 2 e.2).bind fun g => (decIs g.1.toNat g.2).bind fun h =>
      if chkF a.1 b.1 d.1 c.1 then none else K (⟨a.1, c.1, d.1 == 1, keepOf e.1, h.1⟩, h.2) := by
  rw [decF_rd]
  unfold rdF
  simp only [Option.bind_assoc, rdT_bind]
theorem rawL_step {β : Type} {D : Option β} {bad : Bool} {n : Nat} {ks r : List Int} {G : List Int × List Int → Option β} (h : D = if bad then none else (rawL (n + 1) r).bind fun q => G (ks ++ q.1, q.2)) :
    D = if bad then none else (num 1 r).bind fun p => (rawL n p.2).bind fun q => G (ks ++ [p.1] ++ q.1, q.2) := by
  rw [h, rawL]
  cases num 1 r with
  | none => rfl
  | some p =>
    simp only [Option.bind_some]
    cases rawL n p.2 <;> simp
theorem decP_ref (xs : List Int) (hb : ∀ x ∈ xs, Byte x) : decP xs = (num 1 xs).bind fun a => (num 1 a.2).bind fun b => if decide (a.1 ≠ 87) || decide (b.1 ≠ 76) then none else (num 1 b.2).bind fun n => if decide (n.1 = 0) then none else (decFs n.1.toNat n.2).bind endP := by
  unfold decP
  match xs, hb with
  | [], _ => rfl
  | [x], _ => simp [num]
  | x :: y :: r, hb =>
    obtain ⟨x0, x1⟩ := hb x (by simp)
    obtain ⟨y0, y1⟩ := hb y (by simp)
    have e2 : num 2 (x :: y :: r) = some (x + 256 * y, r) := by simp [num, leV]
    have e1 : num 1 (x :: y :: r) = some (x, y :: r) := num_one x (y :: r) x0 x1
    have e3 : num 1 (y :: r) = some (y, r) := num_one y r y0 y1
    rw [e2, e1]
    simp only [Option.bind_some, e3]
    have eh : headBad (x + 256 * y) = fun n => (decide (x ≠ 87) || decide (y ≠ 76)) || decide (n = 0) := by
      funext n
      unfold headBad
      congr 1
      rw [Bool.eq_iff_iff]
      simp only [decide_eq_true_eq, Bool.or_eq_true]
      omega
    rw [eh]
    cases num 1 r with
    | none => simp
    | some n =>
      simp only [Option.bind_some]
      cases (decide (x ≠ 87) || decide (y ≠ 76)) <;> simp
/-- a bad first byte: no program -/
theorem st_none {α β : Type} {D : Option β} {bad : Bool} {X : Option α} {G : α → Option β} (hD : D = if bad then none else X.bind G) (hG : ∀ a, G a = none) : D = none := by
  cases bad
  · rw [hD]; cases X <;> simp [hG]
  · rw [hD]; rfl
/-- when the tape has ended, no program -/
theorem st_end {β : Type} {D X : Option β} {p : Int} (hD : D = if decide (p < 0) then none else X) (hp : p < 0) : D = none := by
  rw [hD, decide_eq_true hp]; rfl
theorem st_go {β : Type} {D X : Option β} {p : Int} (hD : D = if decide (p < 0) then none else X) (hp : ¬ p < 0) : D = X := by
  rw [hD, decide_eq_false hp]; rfl
end Go.Proofs.Ytcaefdfdngecdaa
