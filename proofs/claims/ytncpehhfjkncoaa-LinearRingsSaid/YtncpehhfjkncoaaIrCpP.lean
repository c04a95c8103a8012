/- Lemmas on rows of nodes that a call makes, each turned to a row of its own. No condition. -/
import Derived.Test.YtncpehhfjkncoaaIrRows
import Derived.Test.YtncpehhfjkncoaaLate
set_option linter.unusedVariables false
set_option linter.unusedSimpArgs false
namespace Go.Proofs.Ytncpehhfjkncoaa
open Go.RowKit

theorem own_set_at {w : World} {M size n g j c : Nat} {e : TypeId} {u : Value} {xs : List Value} (h : w.ownsRow M e size (.slice (some ⟨g, 0, none⟩) n c) n xs) (hj : j < n * size) : (w.setCell ⟨g, j, none⟩ u).ownsRow M e size (.slice (some ⟨g, 0, none⟩) n c) n (xs.set j u) := by
  rcases h.2 with ⟨h0, _⟩ | ⟨g', cap, cur, hv, hb, hh, h1, h2, h3, h4⟩
  · cases h0
  · injection hv with hv1 _ hv3
    injection hv1 with hv1
    injection hv1 with hv1
    subst hv1 hv3
    have hset : (w.setCell ⟨g, j, none⟩ u).heap[g]? = some (.cells (cur.setIfInBounds j u) e (0, 0)) := Blk.set_ (show Blk w g e cur from hh) j u
    refine ⟨by rw [List.length_set]; exact h.1, .inr ⟨g, c, _, rfl, hb, hset, h1, h2, by simpa using h3, ?_⟩⟩
    rw [Array.toList_setIfInBounds, ← h4, List.take_set]
theorem NodesMid.start {w : World} {base B : Nat} {v v0 : Value} {l : List NodeD} {n : Nat} {css : List (List Value)} (hn : l.length = n) (hc : css.length = n) (ho : w.ownsRow base 52 12 v n css.flatten) (h : ∀ (i : Nat) x, l[i]? = some x → ∃ cs, css[i]? = some cs ∧ NodeAt w B cs x) : NodesMid w base B 0 v l := by
  subst hn
  refine ⟨css, hc, ho, fun k x hx => ?_⟩
  obtain ⟨cs, q1, av, rfl, q2⟩ := h k x hx
  exact ⟨av, q1, fun h => absurd h (by omega), fun _ => q2⟩
theorem NodesMid.kept {w w' : World} {base B i : Nat} {v : Value} {l : List NodeD} {row : Option Nat} (h : NodesMid w base B i v l) (hg : w.grownBy w' row) (hr : Far w row) (hB : B ≤ w.heap.size) (hrB : ∀ g, row = some g → B ≤ g) : NodesMid w' base B i v l := by
  obtain ⟨css, h1, h2, h3⟩ := h
  refine ⟨css, h1, own_kept' h2 hg fun g e => (hr g e).imp id fun ⟨t, cs, a, _, _, b⟩ => ⟨t, cs, a, b⟩, fun k x hx => ?_⟩
  obtain ⟨av, q1, q2, q3⟩ := h3 k x hx
  refine ⟨av, q1, fun hk => IntsOwn.kept (q2 hk) hg hr, fun hk => ?_⟩
  obtain ⟨A, n, c, r1, r2, r3, r4, r5⟩ := q3 hk
  exact ⟨A, n, c, r1, r2, r3, r4, r5.grown hg hB hrB⟩
theorem NodesMid.fin {w : World} {base B : Nat} {v : Value} {l : List NodeD} (h : NodesMid w base B l.length v l) : NodesOwn w base v l := by
  obtain ⟨css, h1, h2, h3⟩ := h
  refine ⟨css, h1, h2, fun k x hx => ?_⟩
  obtain ⟨av, q1, q2, _⟩ := h3 k x hx
  exact ⟨av, q1, q2 (List.getElem?_eq_some_iff.1 hx).1⟩
theorem node_one (x : NodeD) {av : Value} (h : av.oneCell' = true) : ∀ u ∈ ncells x av, u.oneCell' = true := by
  intro u hu
  simp only [ncells, List.mem_cons, List.not_mem_nil, or_false] at hu
  rcases hu with rfl | rfl | rfl | rfl | rfl | rfl | rfl | rfl | rfl | rfl | rfl | rfl
  all_goals first | rfl | exact h
theorem nodes_one {w : World} {B : Nat} {css : List (List Value)} {l : List NodeD} (hc : css.length = l.length) (h : ∀ (i : Nat) x, l[i]? = some x → ∃ cs, css[i]? = some cs ∧ NodeAt w B cs x) : ∀ u ∈ css.flatten, u.oneCell' = true := by
  intro u hu
  obtain ⟨cs, hcs, hu⟩ := List.mem_flatten.1 hu
  obtain ⟨k, hk, rfl⟩ := List.getElem_of_mem hcs
  obtain ⟨cs', q1, av, rfl, q2⟩ := h k l[k] (List.getElem?_eq_getElem (by omega))
  rw [List.getElem?_eq_getElem hk] at q1
  injection q1 with q1
  rw [q1] at hu
  obtain ⟨A, n, c, rfl, _⟩ := q2
  exact node_one _ rfl u hu
theorem nums_one (k : IntKind) (l : List Int) : ∀ u ∈ l.map (Value.int k), u.oneCell' = true := by
  intro u hu
  obtain ⟨z, _, rfl⟩ := List.mem_map.1 hu
  rfl
theorem IntsOwn.far {w : World} {base g j : Nat} {v u : Value} {l : List Int} {t : TypeId} {cs : Array Value} (h : IntsOwn w base v l) (hg : Blk w g t cs) (ht : 3 ≠ t) : IntsOwn (w.setCell ⟨g, j, none⟩ u) base v l := ownsRow_setCell_other h (a := ⟨g, j, none⟩) (own_blk_ne h hg ht) u
theorem KindsOwn.far {w : World} {base g j : Nat} {v u : Value} {l : List Int} {t : TypeId} {cs : Array Value} (h : KindsOwn w base v l) (hg : Blk w g t cs) (ht : 79 ≠ t) : KindsOwn (w.setCell ⟨g, j, none⟩ u) base v l := ownsRow_setCell_other h (a := ⟨g, j, none⟩) (own_blk_ne h hg ht) u
theorem NodesMid.step {w : World} {base B k n g c : Nat} {u : Value} {l : List NodeD} {x : NodeD} (h : NodesMid w base B k (.slice (some ⟨g, 0, none⟩) n c) l) (hB : B ≤ base) (hx : l[k]? = some x) (hn : l.length = n) (ho : IntsOwn w base u x.args) :
    NodesMid (w.setCell ⟨g, k * 12 + 9, none⟩ u) base B (k + 1) (.slice (some ⟨g, 0, none⟩) n c) l := by
  obtain ⟨css, h1, h2, h3⟩ := h
  have hk : k < l.length := (List.getElem?_eq_some_iff.1 hx).1
  subst hn
  have hg : base ≤ g := by
    obtain ⟨g', cap, e, hb, _⟩ := own_form h2 (by omega)
    injection e with e
    injection e with e
    injection e with e
    omega
  obtain ⟨cs, hbk⟩ := own_blk h2 rfl
  have hl12 := ncells_len (P := fun _ _ _ => True) h1 fun i y hy => (h3 i y hy).imp fun a b => ⟨b.1, trivial⟩
  obtain ⟨av, q1, _, _⟩ := h3 k x hx
  have hset := own_set_at (u := u) h2 (j := k * 12 + 9) (by omega)
  rw [flatten_set12 css k x av u hl12 q1] at hset
  refine ⟨css.set k (ncells x u), by rw [List.length_set]; exact h1, hset, fun i y hy => ?_⟩
  by_cases hik : i = k
  · subst hik
    rw [hx] at hy
    injection hy with hy
    subst hy
    refine ⟨u, by rw [List.getElem?_set_self (by omega)], fun _ => IntsOwn.far ho hbk (by decide), fun h => absurd h (by omega)⟩
  · obtain ⟨av', r1, r2, r3⟩ := h3 i y hy
    refine ⟨av', by rw [List.getElem?_set_ne (Ne.symm hik)]; exact r1, fun h => ?_, fun h => ?_⟩
    · have h4 := r2 (by omega)
      exact IntsOwn.far h4 hbk (by decide)
    · obtain ⟨A, n, c', a1, a2, a3, a4, a5⟩ := r3 (by omega)
      exact ⟨A, n, c', a1, a2, a3, a4, a5.setCell (by simp only; omega) _⟩
theorem IntsOwn.base {w : World} {base base' : Nat} {v : Value} {l : List Int} (h : IntsOwn w base v l) (hb : base' ≤ base) : IntsOwn w base' v l := own_base h hb
theorem NodesOwn.base {w : World} {base base' : Nat} {v : Value} {l : List NodeD} (h : NodesOwn w base v l) (hb : base' ≤ base) : NodesOwn w base' v l := by
  obtain ⟨css, h1, h2, h3⟩ := h
  refine ⟨css, h1, own_base h2 hb, fun k x hx => ?_⟩
  obtain ⟨av, q1, q2⟩ := h3 k x hx
  exact ⟨av, q1, own_base q2 hb⟩
theorem GraphOwn.base {w : World} {base base' : Nat} {cs : List Value} {g : GraphD} (h : GraphOwn w base cs g) (hb : base' ≤ base) : GraphOwn w base' cs g := by
  obtain ⟨pv, kv, iv, nv, h1, h2, h3, h4, h5⟩ := h
  exact ⟨pv, kv, iv, nv, h1, own_base h2 hb, own_base h3 hb, own_base h4 hb, h5.base hb⟩

end Go.Proofs.Ytncpehhfjkncoaa
