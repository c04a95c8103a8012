/- What bytes say, read one by one. No condition. -/
import Derived.Test.YtcaefdfdngecdaaDec1
set_option linter.unusedVariables false
set_option linter.unusedSimpArgs false
namespace Go.Proofs.Ytcaefdfdngecdaa
open Go.RowKit

def decL : Nat → List Int → Option (List Int × List Int)
  | 0, r => some ([], r)
  | n + 1, r => (num 1 r).bind fun p => if decide (1 < p.1) then none else (decL n p.2).bind fun q => some (p.1 :: q.1, q.2)
def decI (r : List Int) : Option (InstrD × List Int) :=
  (num 1 r).bind fun p => if decide (widthV p.1 < 0) then none else
    if widthV p.1 = 8 then (num 8 p.2).bind fun q => some (⟨p.1, 0, q.1⟩, q.2) else (num (widthV p.1).toNat p.2).bind fun q => some (⟨p.1, q.1, 0⟩, q.2)
def decIs : Nat → List Int → Option (List InstrD × List Int)
  | 0, r => some ([], r)
  | n + 1, r => (decI r).bind fun p => (decIs n p.2).bind fun q => some (p.1 :: q.1, q.2)
def keepOf (v : Int) : Int := if v = 255 then -1 else v
def tail3 (p : Int) (ks : List Int) (d e : Int) (g : Int × List Int) : Option (FuncD × List Int) := (decIs g.1.toNat g.2).bind fun h => some (⟨p, ks, d == 1, keepOf e, h.1⟩, h.2)
def tail2 (p : Int) (c : List Int × List Int) : Option (FuncD × List Int) :=
  (num 1 c.2).bind fun d => if decide (1 < d.1) then none else (num 1 d.2).bind fun e => (num 2 e.2).bind fun g => tail3 p c.1 d.1 e.1 g
def decF (r : List Int) : Option (FuncD × List Int) :=
  (num 1 r).bind fun a => (num 1 a.2).bind fun b => if decide (b.1 < a.1) then none else (decL b.1.toNat b.2).bind fun c => tail2 a.1 c
theorem decL_step {β : Type} {D : Option β} {bad : Bool} {n : Nat} {ks r : List Int} {G : List Int × List Int → Option β} (h : D = if bad then none else (decL (n + 1) r).bind fun q => G (ks ++ q.1, q.2)) :
    D = if bad then none else (num 1 r).bind fun p => if decide (1 < p.1) then none else (decL n p.2).bind fun q => G (ks ++ [p.1] ++ q.1, q.2) := by
  rw [h, decL]
  cases num 1 r with
  | none => rfl
  | some p =>
    simp only [Option.bind_some]
    cases hd : decide (1 < p.1)
    · cases decL n p.2 <;> simp
    · simp
theorem decIs_step {β : Type} {D : Option β} {bad : Bool} {n : Nat} {ks : List InstrD} {r : List Int} {G : List InstrD × List Int → Option β} (h : D = if bad then none else (decIs (n + 1) r).bind fun q => G (ks ++ q.1, q.2)) :
    D = if bad then none else (decI r).bind fun p => (decIs n p.2).bind fun q => G (ks ++ [p.1] ++ q.1, q.2) := by
  rw [h, decIs]
  cases decI r with
  | none => rfl
  | some p =>
    simp only [Option.bind_some]
    cases decIs n p.2 <;> simp
theorem decI_none {β : Type} {D : Option β} {G : InstrD × List Int → Option β} {badB : Bool} {o : Int} {rA rB : List Int} (hD : D = if false then none else (decI rA).bind G) (hs : (if false then none else num 1 rA) = if badB then none else some (o, rB)) (hw : widthV o = -1) : D = none := by
  simp only [Bool.false_eq_true, if_false] at hD hs
  rw [hD, decI, hs]
  cases badB <;> simp [hw]
theorem decI_8 {β : Type} {D : Option β} {G : InstrD × List Int → Option β} {badB badC : Bool} {o v : Int} {rA rB rC : List Int} (hD : D = if false then none else (decI rA).bind G) (hs : (if false then none else num 1 rA) = if badB then none else some (o, rB)) (hw : widthV o = 8)
    (hs2 : (if badB then none else num 8 rB) = if badC then none else some (v, rC)) : D = if badC then none else G (⟨o, 0, v⟩, rC) := by
  simp only [Bool.false_eq_true, if_false] at hD hs
  rw [hD, decI, hs]
  cases badB
  · simp only [Bool.false_eq_true, if_false] at hs2
    simp only [Bool.false_eq_true, if_false, Option.bind_some, hw, hs2]
    cases badC <;> simp
  · cases badC <;> simp at hs2 ⊢
theorem decI_k {β : Type} {D : Option β} {G : InstrD × List Int → Option β} {badB badC : Bool} {o v : Int} {k : Nat} {rA rB rC : List Int} (hD : D = if false then none else (decI rA).bind G) (hs : (if false then none else num 1 rA) = if badB then none else some (o, rB)) (hw : widthV o = k) (hk : k ≤ 2)
    (hs2 : (if badB then none else num k rB) = if badC then none else some (v, rC)) : D = if badC then none else G (⟨o, v, 0⟩, rC) := by
  simp only [Bool.false_eq_true, if_false] at hD hs
  rw [hD, decI, hs]
  have e1 : decide ((k : Int) < 0) = false := by simp
  have e2 : ¬ (k : Int) = 8 := by omega
  cases badB
  · simp only [Bool.false_eq_true, if_false] at hs2
    simp only [Bool.false_eq_true, if_false, Option.bind_some, hw, e1, if_neg e2, Int.toNat_natCast, hs2]
    cases badC <;> simp
  · cases badC <;> simp at hs2 ⊢
theorem wf_of {o ar im : Int} (h0 : 0 ≤ o) (h1 : o ≤ 255) (h2 : -9223372036854775808 ≤ ar) (h3 : ar ≤ 9223372036854775807) (h4 : 0 ≤ im) (h5 : im < 18446744073709551616) : InstrD.Wf ⟨o, ar, im⟩ := ⟨h0, h1, ⟨h2, h3⟩, ⟨h4, h5⟩⟩
end Go.Proofs.Ytcaefdfdngecdaa
