/- Programs read from bytes, plain; and functions that a call made, kept while other rows grow. No condition. -/
import Derived.Test.YtcaefdfdngecdaaPlainDec
import Derived.Test.YtcaefdfdngecdaaBnd
set_option linter.unusedVariables false
set_option linter.unusedSimpArgs false
namespace Go.Proofs.Ytcaefdfdngecdaa
open Go.RowKit

def decFs : Nat → List Int → Option (List FuncD × List Int)
  | 0, r => some ([], r)
  | n + 1, r => (decF r).bind fun p => (decFs n p.2).bind fun q => some (p.1 :: q.1, q.2)
def endP (q : List FuncD × List Int) : Option (List FuncD) := if decide (0 < q.2.length) then none else some q.1
def headBad (h n : Int) : Bool := decide (h ≠ 19543) || decide (n = 0)
def decP (r : List Int) : Option (List FuncD) := (num 2 r).bind fun a => (num 1 a.2).bind fun b => if headBad a.1 b.1 then none else (decFs b.1.toNat b.2).bind endP
theorem decFs_step {β : Type} {D : Option β} {bad : Bool} {n : Nat} {ks : List FuncD} {r : List Int} {G : List FuncD × List Int → Option β} (h : D = if bad then none else (decFs (n + 1) r).bind fun q => G (ks ++ q.1, q.2)) :
    D = if bad then none else (decF r).bind fun p => (decFs n p.2).bind fun q => G (ks ++ [p.1] ++ q.1, q.2) := by
  rw [h, decFs]
  cases decF r with
  | none => rfl
  | some p =>
    simp only [Option.bind_some]
    cases decFs n p.2 <;> simp
theorem Reads.keepBlk {w w' : World} {B B' size n : Nat} {A : Option Addr} {xs : List Value} (h : Reads w B size A n xs) (hB : B ≤ B') (hk : ∀ ad, A = some ad → ∀ p : Addr, p.block = ad.block → w'.cell? p = w.cell? p) : Reads w' B' size A n xs :=
  ⟨h.1, fun hn => by
    obtain ⟨ad, e, hb, hc⟩ := h.2 hn
    exact ⟨ad, e, by omega, fun j u hu => (hk ad e _ (block_of_add ad j)).trans (hc j u hu)⟩⟩
/-- a function that a call made: its rows lie at 'lo' or above, and not in 'row' -/
def FuncOwn (w : World) (lo : Nat) (row : Option Nat) (cs : List Value) (f : FuncD) : Prop :=
  ∃ lv cv, cs = fcells f lv cv ∧ KindsAt w w.heap.size lv f.locals ∧ CodeAt w w.heap.size cv f.code ∧ (∀ k, lv.ownBlock = some k → lo ≤ k ∧ k < w.heap.size ∧ row ≠ some k) ∧ (∀ k, cv.ownBlock = some k → lo ≤ k ∧ k < w.heap.size ∧ row ≠ some k)
theorem FuncOwn.kept {w w' : World} {lo : Nat} {row row' g : Option Nat} {cs : List Value} {f : FuncD} (h : FuncOwn w lo row cs f) (hg : w.grownBy w' g) (hne : ∀ k, lo ≤ k → k < w.heap.size → row ≠ some k → g ≠ some k ∧ row' ≠ some k) : FuncOwn w' lo row' cs f := by
  obtain ⟨lv, cv, h1, ⟨A, n, c, rfl, a1, a2, a3, a4⟩, ⟨A', n', c', rfl, b1, b2, b3, b4⟩, h4, h5⟩ := h
  have hs := hg.size
  refine ⟨_, _, h1, ⟨A, n, c, rfl, a1, a2, a3, a4.keepBlk hs fun ad e p hp => ?_⟩, ⟨A', n', c', rfl, b1, b2, b3, b4.keepBlk hs fun ad e p hp => ?_⟩, fun k hk => ?_, fun k hk => ?_⟩
  · obtain ⟨x1, x2, x3⟩ := h4 ad.block (by rw [e]; rfl)
    exact World.cell?_of_block (by rw [hp]; exact hg.block _ x2 (Ne.symm (hne _ x1 x2 x3).1))
  · obtain ⟨x1, x2, x3⟩ := h5 ad.block (by rw [e]; rfl)
    exact World.cell?_of_block (by rw [hp]; exact hg.block _ x2 (Ne.symm (hne _ x1 x2 x3).1))
  · obtain ⟨x1, x2, x3⟩ := h4 k hk
    exact ⟨x1, by omega, (hne _ x1 x2 x3).2⟩
  · obtain ⟨x1, x2, x3⟩ := h5 k hk
    exact ⟨x1, by omega, (hne _ x1 x2 x3).2⟩
theorem FuncOwn.at_ {w : World} {lo : Nat} {row : Option Nat} {cs : List Value} {f : FuncD} (h : FuncOwn w lo row cs f) : FuncAt w w.heap.size cs f := by
  obtain ⟨lv, cv, h1, h2, h3, _⟩ := h
  exact ⟨lv, cv, h1, h2, h3⟩
theorem grown_setCell (w : World) (p : Addr) (u : Value) : w.grownBy (w.setCell p u) (some p.block) := only_setCell (g := p.block) (World.grownBy.refl w _) (.inl rfl) u
end Go.Proofs.Ytcaefdfdngecdaa
