/- A program of bytecode that came in as an argument, as plain data. No condition. -/
import Derived.Test.YtcaefdfdngecdaaOpenP
import Derived.Test.YtcaefdfdngecdaaData
set_option linter.unusedVariables false
set_option linter.unusedSimpArgs false
namespace Go.Proofs.Ytcaefdfdngecdaa
open Go.ChangeShapes Go.WideShapes Go.ChangeAt Go.RowKit Go.Deep

section
variable {H : Type} {enc : TypeId × Value → H} {w : World}
theorem one_of {v : Value} {u : Value} (h : [v] = [u]) : v = u := by injection h
theorem open_instr {fuel : Nat} {cs : List Value} {x : DataW H × List MemPlace} (h : DataW.trod enc Try.prog w 0 (fun _ => true) true fuel 49 cs = some x) (hs : Small Try.prog 49 x.1) : ∃ i : InstrD, cs = icells i ∧ i.Wf := by
  obtain ⟨hl, hf⟩ := open_fields Try.underlying49 (by kernel_rfl) (by kernel_rfl) h hs
  obtain ⟨v0, n0, y0, h0, t0, _⟩ := hf 0 _ rfl
  obtain ⟨v1, n1, y1, h1, t1, _⟩ := hf 1 _ rfl
  obtain ⟨v2, n2, y2, h2, t2, _⟩ := hf 2 _ rfl
  obtain ⟨a0, e0, _, w0⟩ := DataW.trod_int Try.underlying46 t0
  obtain ⟨a1, e1, _, w1⟩ := DataW.trod_int Try.underlying3 t1
  obtain ⟨a2, e2, _, w2⟩ := DataW.trod_int Try.underlying47 t2
  obtain rfl := one_of e0
  obtain rfl := one_of e1
  obtain rfl := one_of e2
  match cs, hl with
  | [c0, c1, c2], _ =>
    simp only [List.getElem?_cons_zero, List.getElem?_cons_succ, Option.some.injEq] at h0 h1 h2
    subst h0 h1 h2
    exact ⟨⟨a0, a1, a2⟩, rfl, (bounds_u8 w0).1, (bounds_u8 w0).2, bounds_i64 w1, by have := bounds_u64 w2; unfold U64; simp only; omega⟩
theorem flatten_icells : ∀ (css : List (List Value)) (is : List InstrD), css.length = is.length → (∀ (i : Nat) a, is[i]? = some a → ∃ cs', css[i]? = some cs' ∧ cs' = icells a) → css.flatten = is.flatMap icells
  | [], [], _, _ => rfl
  | c :: cs, i :: is, hl, h => by
    obtain ⟨c', h1, h2⟩ := h 0 i rfl
    simp only [List.getElem?_cons_zero, Option.some.injEq] at h1
    rw [List.flatten_cons, List.flatMap_cons, h1, h2, flatten_icells cs is (by simpa using hl) fun k a ha => h (k + 1) a (by simpa using ha)]
theorem open_instrs {fuel : Nat} {v : Value} {x : DataW H × List MemPlace} (h : DataW.trod enc Try.prog w 0 (fun _ => true) true fuel 43 [v] = some x) (hs : Small Try.prog 43 x.1) :
    ∃ is : List InstrD, CodeAt w w.heap.size v is ∧ (∀ i ∈ is, i.Wf) ∧ is.length * 24 ≤ 140737488351232 := by
  obtain ⟨A, n, c, css, is, e, hn, hc, hr, h1, h2, h3, h4, h5⟩ := open_rows Try.underlying43 (by kernel_rfl) (by kernel_rfl) (by omega) (fun cs (i : InstrD) => cs = icells i ∧ i.Wf) (fun _ _ _ a b _ => open_instr a b) h hs (size := 3) (by_ := 24)
  obtain rfl := one_of e
  refine ⟨is, ⟨A, n, c, rfl, hn, hc, h2, ?_⟩, fun i hi => ?_, by omega⟩
  · rw [← flatten_icells css is (by omega) fun k a ha => by
      obtain ⟨cs', q1, q2, _⟩ := h5 k a ha
      exact ⟨cs', q1, q2⟩]
    exact h4
  · obtain ⟨k, hk, rfl⟩ := List.getElem_of_mem hi
    obtain ⟨_, _, _, q⟩ := h5 k _ (List.getElem?_eq_getElem hk)
    exact q
theorem open_kinds {fuel : Nat} {v : Value} {x : DataW H × List MemPlace} (h : DataW.trod enc Try.prog w 0 (fun _ => true) true fuel 42 [v] = some x) (hs : Small Try.prog 42 x.1) :
    ∃ ks : List Int, KindsAt w w.heap.size v ks ∧ (∀ k ∈ ks, 0 ≤ k ∧ k ≤ 255) ∧ ks.length ≤ 140737488351232 := by
  obtain ⟨A, n, c, zs, e, hr, hl, hn, hc, hb, hw⟩ := open_nums Try.underlying42 Try.underlying51 (by kernel_rfl) (by kernel_rfl) h hs (by_ := 1)
  obtain rfl := one_of e
  exact ⟨zs, ⟨A, n, c, rfl, hn, hc, hl, hr⟩, fun k hk => bounds_u8 (hw k hk), by omega⟩
/-- a function that came in: its numbers fit, its rows are within the reach -/
def FuncIn (w : World) (cs : List Value) (f : FuncD) : Prop := FuncAt w w.heap.size cs f ∧ f.Wf ∧ f.locals.length ≤ 140737488351232 ∧ f.code.length * 24 ≤ 140737488351232
theorem open_func {fuel : Nat} {cs : List Value} {x : DataW H × List MemPlace} (h : DataW.trod enc Try.prog w 0 (fun _ => true) true fuel 45 cs = some x) (hs : Small Try.prog 45 x.1) : ∃ f : FuncD, FuncIn w cs f := by
  obtain ⟨hl, hf⟩ := open_fields Try.underlying45 (by kernel_rfl) (by kernel_rfl) h hs
  obtain ⟨v0, n0, y0, h0, t0, s0⟩ := hf 0 _ rfl
  obtain ⟨v1, n1, y1, h1, t1, s1⟩ := hf 1 _ rfl
  obtain ⟨v2, n2, y2, h2, t2, s2⟩ := hf 2 _ rfl
  obtain ⟨v3, n3, y3, h3, t3, s3⟩ := hf 3 _ rfl
  obtain ⟨v4, n4, y4, h4, t4, s4⟩ := hf 4 _ rfl
  obtain ⟨a0, e0, _, w0⟩ := DataW.trod_int Try.underlying3 t0
  obtain ⟨ks, k1, k2, k3⟩ := open_kinds t1 s1
  obtain ⟨a2, e2, _⟩ := DataW.trod_bool Try.underlying4 t2
  obtain ⟨a3, e3, _, w3⟩ := DataW.trod_int Try.underlying3 t3
  obtain ⟨is, i1, i2, i3⟩ := open_instrs t4 s4
  obtain rfl := one_of e0
  obtain rfl := one_of e2
  obtain rfl := one_of e3
  match cs, hl with
  | [c0, c1, c2, c3, c4], _ =>
    simp only [List.getElem?_cons_zero, List.getElem?_cons_succ, Option.some.injEq] at h0 h1 h2 h3 h4
    subst h0 h1 h2 h3 h4
    exact ⟨⟨a0, ks, a2, a3, is⟩, ⟨_, _, rfl, k1, i1⟩, ⟨bounds_i64 w0, k2, bounds_i64 w3, i2⟩, k3, i3⟩
/-- functions that came in -/
def FuncsIn (w : World) (v : Value) (fs : List FuncD) : Prop := FuncsAt w w.heap.size v fs ∧ (∀ f ∈ fs, f.Wf ∧ f.locals.length ≤ 140737488351232 ∧ f.code.length * 24 ≤ 140737488351232) ∧ fs.length * 72 ≤ 140737488351232
theorem open_funcs {fuel : Nat} {v : Value} {x : DataW H × List MemPlace} (h : DataW.trod enc Try.prog w 0 (fun _ => true) true fuel 24 [v] = some x) (hs : Small Try.prog 24 x.1) : ∃ fs : List FuncD, FuncsIn w v fs := by
  obtain ⟨A, n, c, css, fs, e, hn, hc, hr, h1, h2, h3, h4, h5⟩ := open_rows Try.underlying24 (by kernel_rfl) (by kernel_rfl) (by omega) (FuncIn w) (fun _ _ _ a b _ => open_func a b) h hs (size := 5) (by_ := 72)
  obtain rfl := one_of e
  refine ⟨fs, ⟨A, n, c, css, rfl, hn, hc, h2, h1, h4, fun i f hf => ?_⟩, fun f hf => ?_, by omega⟩
  · obtain ⟨cs, q1, q2⟩ := h5 i f hf
    exact ⟨cs, q1, q2.1⟩
  · obtain ⟨k, hk, rfl⟩ := List.getElem_of_mem hf
    obtain ⟨_, _, q⟩ := h5 k _ (List.getElem?_eq_getElem hk)
    exact q.2
theorem open_program {r : Reach} {b0 : Nat} {v : Value} {d : DataW H} {p : List MemPlace} (hv : Value.okWide Try.prog w r b0 26 v) (h : DataW.Trod enc Try.prog w 0 (fun _ => true) true 26 v d p) (hs : Small Try.prog 26 d) :
    ∃ (fv : Value) (fs : List FuncD), v = .agg #[fv] ∧ FuncsIn w fv fs := by
  obtain ⟨cs, rfl, hsz⟩ := okWide_struct Try.underlying26 hv
  obtain ⟨fuel, hf⟩ := h
  obtain ⟨hl, hff⟩ := open_fields Try.underlying26 (by kernel_rfl) (by kernel_rfl) hf hs
  obtain ⟨v0, n0, y0, h0, t0, s0⟩ := hff 0 _ rfl
  obtain ⟨fs, hfs⟩ := open_funcs t0 s0
  obtain ⟨l⟩ := cs
  match l, hl with
  | [c0], _ =>
    simp [Value.cells] at h0
    subst h0
    exact ⟨_, fs, rfl, hfs⟩
end
end Go.Proofs.Ytcaefdfdngecdaa
