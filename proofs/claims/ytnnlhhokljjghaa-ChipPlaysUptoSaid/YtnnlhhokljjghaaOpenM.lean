/- Lists of instructions that came in as arguments, as plain data, with the bound on how much came in. No condition. -/
import Derived.Test.YtnnlhhokljjghaaOpenP
import Derived.Test.YtnnlhhokljjghaaGood
set_option linter.unusedVariables false
set_option linter.unusedSimpArgs false
namespace Go.Proofs.Ytnnlhhokljjghaa
open Go.ChangeShapes Go.WideShapes Go.ChangeAt Go.RowKit Go.Deep

section
variable {H : Type} {enc : TypeId × Value → H} {w : World}
theorem bulk_one {H : Type} (d : DataW H) : 1 ≤ Rows.uptoBulk d := by
  cases d with
  | lit l => cases l <;> simp [Rows.uptoBulk]
  | nil => simp [Rows.uptoBulk]
  | ptr d => simp [Rows.uptoBulk]
  | slice elems spare => simp [Rows.uptoBulk]
  | agg parts => simp [Rows.uptoBulk]
  | iface t d => simp [Rows.uptoBulk]
  | map entries => simp [Rows.uptoBulk]
  | held h => simp [Rows.uptoBulk]
theorem bulk_part {H : Type} {d : DataW H} {l : List (DataW H)} (h : d ∈ l) : Rows.uptoBulk d ≤ Rows.uptoBulkAll l := by
  induction l with
  | nil => cases h
  | cons x r ih =>
    simp only [Rows.uptoBulkAll]
    cases List.mem_cons.1 h with
    | inl e => subst e; omega
    | inr e => have := ih e; omega
theorem bulk_length {H : Type} (l : List (DataW H)) : l.length ≤ Rows.uptoBulkAll l := by
  induction l with
  | nil => simp [Rows.uptoBulkAll]
  | cons x r ih => have := bulk_one x; simp only [Rows.uptoBulkAll, List.length_cons]; omega
theorem bulk_max {H : Type} {l : List (DataW H)} (hk : Rows.uptoSmall H l = true) : Rows.uptoBulkAll l ≤ 1048576 := of_decide_eq_true hk
/-- a slice's places, counted by its bulk -/
theorem bulk_slice {P : Program} {t e fuel : Nat} (ht : P.underlying t = some (.slice e)) {A : Option Addr} {n c : Nat} {x : DataW H × List MemPlace} (h : DataW.trod enc P w 0 (fun _ => true) true fuel t [.slice A n c] = some x) : n ≤ Rows.uptoBulk x.1 := by
  rcases open_slice ht h with ⟨e1, rfl⟩ | ⟨ad, len, cap, m, n', D, Pl, e1, hb, hl, hm, hmm, rfl, hi⟩
  · injection e1 with e1
    injection e1 with _ e2 _
    omega
  · injection e1 with e1
    injection e1 with _ e2 _
    subst e2
    simp only [Rows.uptoBulk]
    have h1 := bulk_length ((List.range n).map D)
    rw [List.length_map, List.length_range] at h1
    omega
theorem one_cell {v u : Value} (h : [v] = [u]) : v = u := by injection h
theorem open_min {fuel : Nat} {cs : List Value} {x : DataW H × List MemPlace} (h : DataW.trod enc Try.prog w 0 (fun _ => true) true fuel 30 cs = some x) (hs : Small Try.prog 30 x.1) : ∃ i : MInstD, cs = mcells i ∧ i.Wf := by
  obtain ⟨hl, hf⟩ := open_fields Try.underlying30 (by kernel_rfl) (by kernel_rfl) h hs
  obtain ⟨v0, n0, y0, h0, t0, _⟩ := hf 0 _ rfl
  obtain ⟨v1, n1, y1, h1, t1, _⟩ := hf 1 _ rfl
  obtain ⟨v2, n2, y2, h2, t2, _⟩ := hf 2 _ rfl
  obtain ⟨v3, n3, y3, h3, t3, _⟩ := hf 3 _ rfl
  obtain ⟨v4, n4, y4, h4, t4, _⟩ := hf 4 _ rfl
  obtain ⟨a0, e0, _, w0⟩ := DataW.trod_int Try.underlying28 t0
  obtain ⟨a1, e1, _, w1⟩ := DataW.trod_int Try.underlying3 t1
  obtain ⟨a2, e2, _, w2⟩ := DataW.trod_int Try.underlying3 t2
  obtain ⟨a3, e3, _, w3⟩ := DataW.trod_int Try.underlying3 t3
  obtain ⟨a4, e4, _, w4⟩ := DataW.trod_int Try.underlying21 t4
  obtain rfl := one_cell e0
  obtain rfl := one_cell e1
  obtain rfl := one_cell e2
  obtain rfl := one_cell e3
  obtain rfl := one_cell e4
  match cs, hl with
  | [c0, c1, c2, c3, c4], _ =>
    simp only [List.getElem?_cons_zero, List.getElem?_cons_succ, Option.some.injEq] at h0 h1 h2 h3 h4
    subst h0 h1 h2 h3 h4
    exact ⟨⟨a0, a1, a2, a3, a4⟩, rfl, bounds_u8 w0, bounds_i64 w1, bounds_i64 w2, bounds_i64 w3, bounds_i32 w4⟩
theorem flatten_mcells : ∀ (css : List (List Value)) (is : List MInstD), css.length = is.length → (∀ (i : Nat) a, is[i]? = some a → ∃ cs', css[i]? = some cs' ∧ cs' = mcells a) → css.flatten = is.flatMap mcells
  | [], [], _, _ => rfl
  | c :: cs, i :: is, hl, h => by
    obtain ⟨c', h1, h2⟩ := h 0 i rfl
    simp only [List.getElem?_cons_zero, Option.some.injEq] at h1
    rw [List.flatten_cons, List.flatMap_cons, h1, h2, flatten_mcells cs is (by simpa using hl) fun k a ha => h (k + 1) a (by simpa using ha)]
theorem open_mins {base : Nat} {v : Value} {d : DataW H} {p : List MemPlace} (hv : Value.okWide Try.prog w .any base 22 v) (h : DataW.Trod enc Try.prog w 0 (fun _ => true) true 22 v d p) (hs : Small Try.prog 22 d) :
    ∃ (A : Option Addr) (n c : Nat) (l : List MInstD), v = .slice A n c ∧ Reads w w.heap.size 5 A n (l.flatMap mcells) ∧ l.length = n ∧ n ≤ c ∧ c ≤ maxLen ∧ c * 40 ≤ 140737488351232 ∧ (∀ i ∈ l, i.Wf) ∧ n ≤ Rows.uptoBulk d := by
  obtain ⟨A0, n0, c0, rfl⟩ := okWide_slice Try.underlying22 hv
  obtain ⟨fuel, hf⟩ := h
  have hf' : DataW.trod enc Try.prog w 0 (fun _ => true) true fuel 22 [.slice A0 n0 c0] = some (d, p) := hf
  obtain ⟨A, n, c, css, is, e, hn, hc, hr, h1, h2, h3, h4, h5⟩ := open_rows Try.underlying22 (by kernel_rfl) (by kernel_rfl) (by omega) (fun cs (i : MInstD) => cs = mcells i ∧ i.Wf) (fun _ _ _ a b _ => open_min a b) hf' hs (size := 5) (by_ := 40)
  have hb := bulk_slice Try.underlying22 hf'
  have e := one_cell e
  rw [e]
  injection e with e1 e2 e3
  refine ⟨A, n, c, is, rfl, ?_, h2, hn, hc, hr, fun i hi => ?_, by rw [← e2]; exact hb⟩
  · rw [← flatten_mcells css is (by omega) fun k a ha => by
      obtain ⟨cs', q1, q2, _⟩ := h5 k a ha
      exact ⟨cs', q1, q2⟩]
    exact h4
  · obtain ⟨k, hk, rfl⟩ := List.getElem_of_mem hi
    obtain ⟨_, _, _, q⟩ := h5 k _ (List.getElem?_eq_getElem hk)
    exact q
end
end Go.Proofs.Ytnnlhhokljjghaa
