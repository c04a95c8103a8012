/- ChipLoops: the machine's states while it multiplies by adding; each step leads to the next. Conditions: the machine lies in memory. -/
import Derived.Test.YtnnlhhokljjghaaFirstM
import Derived.Test.YtnnlhhokljjghaaStepA
import Derived.Test.YtnnlhhokljjghaaStepB
import Derived.Test.YtnnlhhokljjghaaStepC
import Derived.Test.YtnnlhhokljjghaaStepG
import Derived.Test.YtnnlhhokljjghaaStepJ
set_option linter.unusedVariables false
set_option linter.unusedSimpArgs false
namespace Go.Proofs.Ytnnlhhokljjghaa
open Go.RowKit

def loopL (k a b : Int) : List MInstD := [⟨1, 1, 0, 0, k⟩, ⟨1, 2, 0, 0, a⟩, ⟨2, 2, 0, 0, b⟩, ⟨8, 0, 1, 0, 7⟩, ⟨39, 0, 0, 2, 0⟩, ⟨6, 1, 1, 0, -1⟩, ⟨7, 0, 0, 0, 3⟩, ⟨13, 0, 0, 0, 5⟩]
def regs3 (r0 r1 r2 : Int) : List Int := [r0, r1, r2, 0, 0, 0, 0, 0, 0, 0, 0, 0, 0, 0, 8, 0]
def LoopInv (k : Nat) (v : Int) (i : Nat) (r0 r1 r2 : Int) (pc : Nat) : Prop :=
  (i = 0 ∧ pc = 0 ∧ r0 = 0) ∨ (i = 1 ∧ pc = 1 ∧ r0 = 0 ∧ r1 = k) ∨ (i = 2 ∧ pc = 2 ∧ r0 = 0 ∧ r1 = k ∧ r2 % 4294967296 = v % 4294967296) ∨
  (∃ t, t ≤ k ∧ i = 3 + 4 * t ∧ pc = 3 ∧ r0 = t * v % 18446744073709551616 ∧ r1 = k - t ∧ r2 = v) ∨
  (∃ t, t < k ∧ i = 4 + 4 * t ∧ pc = 4 ∧ r0 = t * v % 18446744073709551616 ∧ r1 = k - t ∧ r2 = v) ∨
  (∃ t, t < k ∧ i = 5 + 4 * t ∧ pc = 5 ∧ r0 = (t + 1) * v % 18446744073709551616 ∧ r1 = k - t ∧ r2 = v) ∨
  (∃ t, t < k ∧ i = 6 + 4 * t ∧ pc = 6 ∧ r0 = (t + 1) * v % 18446744073709551616 ∧ r1 = k - t - 1 ∧ r2 = v) ∨
  (i = 4 + 4 * k ∧ pc = 7 ∧ r0 = k * v % 18446744073709551616)
def LoopSt (w : World) (lo p : Nat) (A : Option Addr) (c : Nat) (sv : Value) (k : Nat) (v a b : Int) (i : Nat) : Prop :=
  ∃ r0 r1 r2 pc, ChipAt w lo p (.slice A (loopL k a b).length c) sv (regs3 r0 r1 r2) (pc : Nat) 8 [] ∧ CodeM w lo A c (loopL k a b) ∧ LoopInv k v i r0 r1 r2 pc
theorem loop_step {w : World} {lo p : Nat} {A : Option Addr} {c : Nat} {sv : Value} {k : Nat} {v a b : Int} {i : Nat} (hk : k < 500) (hv : U64 v) (ha : a % 4294967296 = v % 4294967296) (hb : b % 4294967296 = v / 4294967296)
    (h : LoopSt w lo p A c sv k v a b i) (hi : i < 4 + 4 * k) :
    Calls Try.prog 16 #[.pointer (some ⟨p, 0, none⟩)] w fun e w' => e = .returned (.agg #[.int .i64 0, .int .i64 0, .int .i64 0, .int .i64 0, .int .i64 0]) ∧ LoopSt w' lo p A c sv k v a b (i + 1) ∧ Below lo w w' := by
  unfold U64 at hv
  obtain ⟨r0, r1, r2, pc, hC, hM, hs⟩ := h
  have fin : ∀ {r0' r1' r2' : Int} {pc' : Nat} {e : Ending} {w' : World}, StepTo w lo p (.slice A (loopL k a b).length c) sv 8 0 0 0 0 0 (regs3 r0' r1' r2') (pc' : Nat) [] e w' → LoopInv k v (i + 1) r0' r1' r2' pc' →
      e = .returned (.agg #[.int .i64 0, .int .i64 0, .int .i64 0, .int .i64 0, .int .i64 0]) ∧ LoopSt w' lo p A c sv k v a b (i + 1) ∧ Below lo w w' := fun h1 h2 =>
    ⟨h1.1, ⟨_, _, _, _, h1.2.1, hM.below (hC.keepP h1.2.2) hC.loLt, h2⟩, hC.keepP h1.2.2⟩
  rcases hs with ⟨rfl, rfl, rfl⟩ | ⟨rfl, rfl, rfl, rfl⟩ | ⟨rfl, rfl, rfl, rfl, h2⟩ | ⟨t, ht, rfl, rfl, h0, h1, h2⟩ | ⟨t, ht, rfl, rfl, h0, h1, h2⟩ | ⟨t, ht, rfl, rfl, h0, h1, h2⟩ | ⟨t, ht, rfl, rfl, h0, h1, h2⟩ | ⟨rfl, _⟩
  · refine (step_li hC hM (Nat.le_refl _) rfl (i := ⟨1, 1, 0, 0, k⟩) rfl rfl).mono fun e w' h => fin (r0' := 0) (r1' := k % 18446744073709551616) (r2' := r2) (pc' := 1) h (.inr (.inl ⟨rfl, rfl, rfl, by omega⟩))
  · refine (step_li hC hM (Nat.le_refl _) rfl (i := ⟨1, 2, 0, 0, a⟩) rfl rfl).mono fun e w' h => fin (r0' := 0) (r1' := k) (r2' := a % 18446744073709551616) (pc' := 2) h (.inr (.inr (.inl ⟨rfl, rfl, rfl, rfl, by omega⟩)))
  · refine (step_hi hC hM (Nat.le_refl _) rfl (i := ⟨2, 2, 0, 0, b⟩) rfl rfl).mono fun e w' h => fin (r0' := 0) (r1' := k) (r2' := r2 % 4294967296 + b % 4294967296 * 4294967296) (pc' := 3) h (.inr (.inr (.inr (.inl ⟨0, by omega, by omega, rfl, by simp, by omega, by omega⟩))))
  · by_cases htk : t < k
    · refine (step_bz1 hC hM (Nat.le_refl _) rfl (i := ⟨8, 0, 1, 0, 7⟩) rfl (show r1 ≠ 0 by omega) rfl).mono fun e w' h => fin (pc' := 4) h (.inr (.inr (.inr (.inr (.inl ⟨t, htk, by omega, rfl, h0, h1, h2⟩)))))
    · refine (step_bz0 hC hM (Nat.le_refl _) rfl (i := ⟨8, 0, 1, 0, 7⟩) rfl (show r1 = 0 by omega) rfl).mono fun e w' h => fin (pc' := 7) h (.inr (.inr (.inr (.inr (.inr (.inr (.inr ⟨by omega, rfl, by rw [h0, show t = k by omega]⟩)))))))
  · refine (step_alu_ok hC hM (Nat.le_refl _) rfl (i := ⟨39, 0, 0, 2, 0⟩) rfl ⟨by decide, by decide⟩ (by show doE 7 r2 = 0; simp [doE])).mono fun e w' h => fin (r0' := doV 7 r0 r2) (r1' := r1) (r2' := r2) (pc' := 5) h (.inr (.inr (.inr (.inr (.inr (.inl ⟨t, ht, by omega, rfl, ?_, h1, h2⟩))))))
    rw [h0, h2]
    rw [show doV 7 ((t : Int) * v % 18446744073709551616) v = IntKind.u64.wrap ((t : Int) * v % 18446744073709551616 + v) from rfl, IntKind.wrap_u64, Int.emod_add_emod, Int.add_mul, Int.one_mul]
  · refine (step_addi hC hM (Nat.le_refl _) rfl (i := ⟨6, 1, 1, 0, -1⟩) rfl rfl).mono fun e w' h => fin (r0' := r0) (r1' := (r1 + -1) % 18446744073709551616) (r2' := r2) (pc' := 6) h (.inr (.inr (.inr (.inr (.inr (.inr (.inl ⟨t, ht, by omega, rfl, h0, by omega, h2⟩)))))))
  · refine (step_jmp hC hM (Nat.le_refl _) rfl (i := ⟨7, 0, 0, 0, 3⟩) rfl rfl).mono fun e w' h => fin (pc' := 3) h (.inr (.inr (.inr (.inl ⟨t + 1, by omega, by omega, rfl, by rw [h0]; simp, by omega, h2⟩))))
  · omega
end Go.Proofs.Ytnnlhhokljjghaa
