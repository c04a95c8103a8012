/- A script of calls, a place, that came in as arguments, as plain data. No condition. -/
import Derived.Test.YtnnlhhokljjghaaOpenM
import Derived.Test.YtnnlhhokljjghaaPlaysL
set_option linter.unusedVariables false
set_option linter.unusedSimpArgs false
namespace Go.Proofs.Ytnnlhhokljjghaa
open Go.ChangeShapes Go.WideShapes Go.ChangeAt Go.RowKit Go.Deep

section
variable {H : Type} {enc : TypeId × Value → H} {w : World}
theorem open_op {fuel : Nat} {cs : List Value} {x : DataW H × List MemPlace} (h : DataW.trod enc Try.prog w 0 (fun _ => true) true fuel 66 cs = some x) (hs : Small Try.prog 66 x.1) : ∃ o : OpD, cs = opCells o ∧ OpIn w o := by
  obtain ⟨hl, hf⟩ := open_fields Try.underlying66 (by kernel_rfl) (by kernel_rfl) h hs
  obtain ⟨v0, n0, y0, h0, t0, _⟩ := hf 0 _ rfl
  obtain ⟨v1, n1, y1, h1, t1, _⟩ := hf 1 _ rfl
  obtain ⟨v2, n2, y2, h2, t2, _⟩ := hf 2 _ rfl
  obtain ⟨v3, n3, y3, h3, t3, _⟩ := hf 3 _ rfl
  obtain ⟨v4, n4, y4, h4, t4, s4⟩ := hf 4 _ rfl
  obtain ⟨a0, e0, _, w0⟩ := DataW.trod_int Try.underlying3 t0
  obtain ⟨a1, e1, _, w1⟩ := DataW.trod_int Try.underlying3 t1
  obtain ⟨a2, e2, _, w2⟩ := DataW.trod_int Try.underlying39 t2
  obtain ⟨a3, e3, _, w3⟩ := DataW.trod_int Try.underlying39 t3
  obtain ⟨A, n, c, zs, e4, hr, hzl, hn, hc, hb, hw⟩ := open_nums Try.underlying23 Try.underlying5 (by kernel_rfl) (by kernel_rfl) t4 s4 (by_ := 1)
  obtain rfl := one_cell e0
  obtain rfl := one_cell e1
  obtain rfl := one_cell e2
  obtain rfl := one_cell e3
  obtain rfl := one_cell e4
  match cs, hl with
  | [c0, c1, c2, c3, c4], _ =>
    simp only [List.getElem?_cons_zero, List.getElem?_cons_succ, Option.some.injEq] at h0 h1 h2 h3 h4
    subst h0 h1 h2 h3 h4
    exact ⟨⟨a0, a1, a2, a3, A, n, c, zs⟩, rfl, ⟨bounds_i64 w0, bounds_i64 w1, u64_of_wf w2, u64_of_wf w3, hr, hzl, fun z hz => by have h := bounds_u8 (hw z hz); omega, hn, hc, by simp only; omega⟩⟩
theorem flatten_ops : ∀ (css : List (List Value)) (is : List OpD), css.length = is.length → (∀ (i : Nat) a, is[i]? = some a → ∃ cs', css[i]? = some cs' ∧ cs' = opCells a) → css.flatten = is.flatMap opCells
  | [], [], _, _ => rfl
  | c :: cs, i :: is, hl, h => by
    obtain ⟨c', h1, h2⟩ := h 0 i rfl
    simp only [List.getElem?_cons_zero, Option.some.injEq] at h1
    rw [List.flatten_cons, List.flatMap_cons, h1, h2, flatten_ops cs is (by simpa using hl) fun k a ha => h (k + 1) a (by simpa using ha)]
theorem open_ops {base : Nat} {v : Value} {d : DataW H} {p : List MemPlace} (hv : Value.okWide Try.prog w .any base 61 v) (h : DataW.Trod enc Try.prog w 0 (fun _ => true) true 61 v d p) (hs : Small Try.prog 61 d) :
    ∃ (A : Option Addr) (n c : Nat) (l : List OpD), v = .slice A n c ∧ Reads w w.heap.size 5 A n (l.flatMap opCells) ∧ l.length = n ∧ n ≤ c ∧ c ≤ maxLen ∧ n ≤ 140737488351232 ∧ ∀ o ∈ l, OpIn w o := by
  obtain ⟨A0, n0, c0, rfl⟩ := okWide_slice Try.underlying61 hv
  obtain ⟨fuel, hf⟩ := h
  have hf' : DataW.trod enc Try.prog w 0 (fun _ => true) true fuel 61 [.slice A0 n0 c0] = some (d, p) := hf
  obtain ⟨A, n, c, css, is, e, hn, hc, hr, h1, h2, h3, h4, h5⟩ := open_rows Try.underlying61 (by kernel_rfl) (by kernel_rfl) (by omega) (fun cs (o : OpD) => cs = opCells o ∧ OpIn w o) (fun _ _ _ a b _ => open_op a b) hf' hs (size := 5) (by_ := 56)
  have e := one_cell e
  rw [e]
  refine ⟨A, n, c, is, rfl, ?_, h2, hn, hc, by omega, fun i hi => ?_⟩
  · rw [← flatten_ops css is (by omega) fun k a ha => by
      obtain ⟨cs', q1, q2, _⟩ := h5 k a ha
      exact ⟨cs', q1, q2⟩]
    exact h4
  · obtain ⟨k, hk, rfl⟩ := List.getElem_of_mem hi
    obtain ⟨_, _, _, q⟩ := h5 k _ (List.getElem?_eq_getElem hk)
    exact q
theorem open_place {r : Reach} {b0 : Nat} {v : Value} {d : DataW H} {p : List MemPlace} (hv : Value.okWide Try.prog w r b0 60 v) (h : DataW.Trod enc Try.prog w 0 (fun _ => true) true 60 v d p) (hs : Small Try.prog 60 d) :
    ∃ base size : Int, v = .agg #[.int .u64 base, .int .i64 size] ∧ U64 base ∧ -9223372036854775808 ≤ size ∧ size ≤ 9223372036854775807 := by
  obtain ⟨cs, rfl, hsz⟩ := okWide_struct Try.underlying60 hv
  obtain ⟨fuel, hf⟩ := h
  obtain ⟨hl, hff⟩ := open_fields Try.underlying60 (by kernel_rfl) (by kernel_rfl) hf hs
  obtain ⟨v0, n0, y0, h0, t0, _⟩ := hff 0 _ rfl
  obtain ⟨v1, n1, y1, h1, t1, _⟩ := hff 1 _ rfl
  obtain ⟨a0, e0, _, w0⟩ := DataW.trod_int Try.underlying39 t0
  obtain ⟨a1, e1, _, w1⟩ := DataW.trod_int Try.underlying3 t1
  obtain rfl := one_cell e0
  obtain rfl := one_cell e1
  obtain ⟨l⟩ := cs
  match l, hl with
  | [c0, c1], _ =>
    simp [Value.cells] at h0 h1
    subst h0 h1
    exact ⟨a0, a1, rfl, u64_of_wf w0, bounds_i64 w1⟩
end
end Go.Proofs.Ytnnlhhokljjghaa
