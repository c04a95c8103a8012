/- Programs of bytecode as plain data, and how they lie in memory. No condition. -/
import Derived.Test.YtcaefdfdngecdaaWords
import Derived.Test.YtcaefdfdngecdaaPlainWord
import Derived.WalkKit
set_option linter.unusedVariables false
set_option linter.unusedSimpArgs false
namespace Go.Proofs.Ytcaefdfdngecdaa
open Go.RowKit

structure InstrD where
  op : Int
  arg : Int
  imm : Int
structure FuncD where
  params : Int
  locals : List Int
  result : Bool
  keep : Int
  code : List InstrD
def I64 (a : Int) : Prop := -9223372036854775808 ≤ a ∧ a ≤ 9223372036854775807
structure InstrD.Wf (i : InstrD) : Prop where
  op0 : 0 ≤ i.op
  op1 : i.op ≤ 255
  arg : I64 i.arg
  imm : U64 i.imm
structure FuncD.Wf (f : FuncD) : Prop where
  params : I64 f.params
  locals : ∀ k ∈ f.locals, 0 ≤ k ∧ k ≤ 255
  keep : I64 f.keep
  code : ∀ i ∈ f.code, i.Wf
def icells (i : InstrD) : List Value := [.int .u8 i.op, .int .i64 i.arg, .int .u64 i.imm]
def fcells (f : FuncD) (lv cv : Value) : List Value := [.int .i64 f.params, lv, .bool f.result, .int .i64 f.keep, cv]
def kindVals (l : List Int) : List Value := l.map (Value.int .u8)
/-- kinds in a slice -/
def KindsAt (w : World) (B : Nat) (v : Value) (ks : List Int) : Prop := ∃ A n c, v = .slice A n c ∧ n ≤ c ∧ c ≤ maxLen ∧ ks.length = n ∧ Reads w B 1 A n (kindVals ks)
/-- instructions in a slice -/
def CodeAt (w : World) (B : Nat) (v : Value) (is : List InstrD) : Prop := ∃ A n c, v = .slice A n c ∧ n ≤ c ∧ c ≤ maxLen ∧ is.length = n ∧ Reads w B 3 A n (is.flatMap icells)
/-- a function's five cells -/
def FuncAt (w : World) (B : Nat) (cs : List Value) (f : FuncD) : Prop := ∃ lv cv, cs = fcells f lv cv ∧ KindsAt w B lv f.locals ∧ CodeAt w B cv f.code
/-- functions in a slice -/
def FuncsAt (w : World) (B : Nat) (v : Value) (fs : List FuncD) : Prop := ∃ A n c, ∃ css : List (List Value), v = .slice A n c ∧ n ≤ c ∧ c ≤ maxLen ∧ fs.length = n ∧ css.length = n ∧ Reads w B 5 A n css.flatten ∧
  ∀ (i : Nat) f, fs[i]? = some f → ∃ cs, css[i]? = some cs ∧ FuncAt w B cs f

section
variable {w w' : World} {B B' : Nat} {v : Value}
theorem KindsAt.keep {ks : List Int} (h : KindsAt w B v ks) (hk : ∀ p : Addr, p.block < B → w'.cell? p = w.cell? p) : KindsAt w' B v ks := by
  obtain ⟨A, n, c, h1, h2, h3, h4, h5⟩ := h
  exact ⟨A, n, c, h1, h2, h3, h4, h5.keep hk⟩
theorem CodeAt.keep {is : List InstrD} (h : CodeAt w B v is) (hk : ∀ p : Addr, p.block < B → w'.cell? p = w.cell? p) : CodeAt w' B v is := by
  obtain ⟨A, n, c, h1, h2, h3, h4, h5⟩ := h
  exact ⟨A, n, c, h1, h2, h3, h4, h5.keep hk⟩
theorem FuncAt.keep {cs : List Value} {f : FuncD} (h : FuncAt w B cs f) (hk : ∀ p : Addr, p.block < B → w'.cell? p = w.cell? p) : FuncAt w' B cs f := by
  obtain ⟨lv, cv, h1, h2, h3⟩ := h
  exact ⟨lv, cv, h1, h2.keep hk, h3.keep hk⟩
theorem FuncsAt.keep {fs : List FuncD} (h : FuncsAt w B v fs) (hk : ∀ p : Addr, p.block < B → w'.cell? p = w.cell? p) : FuncsAt w' B v fs := by
  obtain ⟨A, n, c, css, h1, h2, h3, h4, h5, h6, h7⟩ := h
  refine ⟨A, n, c, css, h1, h2, h3, h4, h5, h6.keep hk, fun i f hf => ?_⟩
  obtain ⟨cs, h8, h9⟩ := h7 i f hf
  exact ⟨cs, h8, h9.keep hk⟩
theorem KindsAt.more {ks : List Int} (h : KindsAt w B v ks) (hB : B ≤ B') : KindsAt w B' v ks := by
  obtain ⟨A, n, c, h1, h2, h3, h4, h5⟩ := h
  exact ⟨A, n, c, h1, h2, h3, h4, h5.more hB⟩
theorem CodeAt.more {is : List InstrD} (h : CodeAt w B v is) (hB : B ≤ B') : CodeAt w B' v is := by
  obtain ⟨A, n, c, h1, h2, h3, h4, h5⟩ := h
  exact ⟨A, n, c, h1, h2, h3, h4, h5.more hB⟩
theorem FuncAt.more {cs : List Value} {f : FuncD} (h : FuncAt w B cs f) (hB : B ≤ B') : FuncAt w B' cs f := by
  obtain ⟨lv, cv, h1, h2, h3⟩ := h
  exact ⟨lv, cv, h1, h2.more hB, h3.more hB⟩
theorem FuncsAt.more {fs : List FuncD} (h : FuncsAt w B v fs) (hB : B ≤ B') : FuncsAt w B' v fs := by
  obtain ⟨A, n, c, css, h1, h2, h3, h4, h5, h6, h7⟩ := h
  refine ⟨A, n, c, css, h1, h2, h3, h4, h5, h6.more hB, fun i f hf => ?_⟩
  obtain ⟨cs, h8, h9⟩ := h7 i f hf
  exact ⟨cs, h8, h9.more hB⟩
theorem KindsAt.below {ks : List Int} (h : KindsAt w B v ks) (hb : Below B w w') : KindsAt w' B v ks := h.keep fun _ hp => hb.cell hp
theorem CodeAt.below {is : List InstrD} (h : CodeAt w B v is) (hb : Below B w w') : CodeAt w' B v is := h.keep fun _ hp => hb.cell hp
theorem FuncAt.below {cs : List Value} {f : FuncD} (h : FuncAt w B cs f) (hb : Below B w w') : FuncAt w' B cs f := h.keep fun _ hp => hb.cell hp
theorem FuncsAt.below {fs : List FuncD} (h : FuncsAt w B v fs) (hb : Below B w w') : FuncsAt w' B v fs := h.keep fun _ hp => hb.cell hp
end
theorem flatMap_three (is : List InstrD) (k : Nat) (i : InstrD) (h : is[k]? = some i) : (is.flatMap icells)[k * 3]? = some (.int .u8 i.op) ∧ (is.flatMap icells)[k * 3 + 1]? = some (.int .i64 i.arg) ∧ (is.flatMap icells)[k * 3 + 2]? = some (.int .u64 i.imm) := by
  induction is generalizing k with
  | nil => simp at h
  | cons x r ih =>
    cases k with
    | zero => simp at h; subst h; simp [icells]
    | succ k =>
      have h' := ih k (by simpa using h)
      have e : (k + 1) * 3 = k * 3 + 3 := by omega
      rw [e]
      simpa [List.flatMap_cons, icells, Nat.add_assoc] using h'
theorem flatten_five (css : List (List Value)) (k : Nat) (cs : List Value) (h : css[k]? = some cs) (h5 : ∀ c ∈ css, c.length = 5) (j : Nat) (hj : j < 5) : css.flatten[k * 5 + j]? = cs[j]? := by
  induction css generalizing k with
  | nil => simp at h
  | cons x r ih =>
    have hx := h5 x List.mem_cons_self
    cases k with
    | zero =>
      simp at h; subst h
      rw [List.flatten_cons, Nat.zero_mul, Nat.zero_add, List.getElem?_append_left (by omega)]
    | succ k =>
      have h' := ih k (by simpa using h) (fun c hc => h5 c (List.mem_cons_of_mem _ hc))
      rw [List.flatten_cons, List.getElem?_append_right (by omega), hx, show (k + 1) * 5 + j - 5 = k * 5 + j by omega]
      exact h'
end Go.Proofs.Ytcaefdfdngecdaa
