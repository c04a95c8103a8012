/- Graphs whose rows a call has made, each its own. No condition. -/
import Derived.Test.YtncpehhfjkncoaaIrOnce
import Derived.Test.YtncpehhfjkncoaaIrReads
set_option linter.unusedVariables false
set_option linter.unusedSimpArgs false
namespace Go.Proofs.Ytncpehhfjkncoaa
open Go.RowKit

theorem infoKindr : (Try.prog.info? 79).map (fun i => (i.zero, i.size, i.bytes)) = some (some (.int .u8 0), 1, 1) := by kernel_rfl
theorem infoNode : (Try.prog.info? 52).map (fun i => (i.zero, i.size, i.bytes)) = some (some (.agg #[.int .u8 0, .int .u8 0, .int .i64 0, .int .i64 0, .int .i64 0, .int .i64 0, .int .i64 0, .int .i64 0, .int .u64 0, .slice none 0 0, .int .i64 0, .int .i64 0]), 12, 104) := by kernel_rfl
theorem infoGraph : (Try.prog.info? 48).map (fun i => (i.zero, i.size, i.bytes)) = some (some (.agg #[.slice none 0 0, .slice none 0 0, .int .i64 0, .slice none 0 0, .bool false, .int .i64 0, .slice none 0 0, .int .i64 0]), 8, 128) := by kernel_rfl
/-- numbers in a row of the call's own -/
abbrev IntsOwn (w : World) (base : Nat) (v : Value) (l : List Int) : Prop := w.ownsRow base 3 1 v l.length (l.map (Value.int .i64))
abbrev KindsOwn (w : World) (base : Nat) (v : Value) (l : List Int) : Prop := w.ownsRow base 79 1 v l.length (l.map (Value.int .u8))
/-- nodes in a row of the call's own; the first so many have rows of their own -/
def NodesMid (w : World) (base B i : Nat) (v : Value) (l : List NodeD) : Prop :=
  ∃ css : List (List Value), css.length = l.length ∧ w.ownsRow base 52 12 v l.length css.flatten ∧ ∀ (k : Nat) x, l[k]? = some x → ∃ av, css[k]? = some (ncells x av) ∧ (k < i → IntsOwn w base av x.args) ∧ (i ≤ k → NumsAt .i64 w B av x.args)
def NodesOwn (w : World) (base : Nat) (v : Value) (l : List NodeD) : Prop :=
  ∃ css : List (List Value), css.length = l.length ∧ w.ownsRow base 52 12 v l.length css.flatten ∧ ∀ (k : Nat) x, l[k]? = some x → ∃ av, css[k]? = some (ncells x av) ∧ IntsOwn w base av x.args
def GraphOwn (w : World) (base : Nat) (cs : List Value) (g : GraphD) : Prop :=
  ∃ pv kv iv nv, cs = gcells g pv kv iv nv ∧ IntsOwn w base pv g.params ∧ KindsOwn w base kv g.kinds ∧ IntsOwn w base iv g.init ∧ NodesOwn w base nv g.nodes
def GsOwn (w : World) (base : Nat) (css : List (List Value)) (gs : List GraphD) : Prop :=
  css.length = gs.length ∧ ∀ (i : Nat) g, gs[i]? = some g → ∃ cs, css[i]? = some cs ∧ GraphOwn w base cs g
section
variable {w w' : World} {base B i : Nat} {v : Value} {row : Option Nat}
/-- what a change may touch: new blocks, or one that is of another type -/
def Far (w : World) (row : Option Nat) : Prop := ∀ g, row = some g → w.heap.size ≤ g ∨ ∃ t cs, Blk w g t cs ∧ t ≠ 3 ∧ t ≠ 79 ∧ t ≠ 52
theorem Far.none_ (w : World) : Far w none := nofun
theorem Far.blk {g : Nat} {t : TypeId} {cs : Array Value} (h : Blk w g t cs) (h1 : t ≠ 3) (h2 : t ≠ 79) (h3 : t ≠ 52) : Far w (some g) := fun k e => by
  injection e with e; subst e; exact .inr ⟨t, cs, h, h1, h2, h3⟩
theorem IntsOwn.kept {l : List Int} (h : IntsOwn w base v l) (hg : w.grownBy w' row) (hr : Far w row) : IntsOwn w' base v l :=
  own_kept' h hg fun g e => (hr g e).imp id fun ⟨t, cs, a, b, _⟩ => ⟨t, cs, a, b⟩
theorem KindsOwn.kept {l : List Int} (h : KindsOwn w base v l) (hg : w.grownBy w' row) (hr : Far w row) : KindsOwn w' base v l :=
  own_kept' h hg fun g e => (hr g e).imp id fun ⟨t, cs, a, _, b, _⟩ => ⟨t, cs, a, b⟩
theorem NodesOwn.kept {l : List NodeD} (h : NodesOwn w base v l) (hg : w.grownBy w' row) (hr : Far w row) : NodesOwn w' base v l := by
  obtain ⟨css, h1, h2, h3⟩ := h
  refine ⟨css, h1, own_kept' h2 hg fun g e => (hr g e).imp id fun ⟨t, cs, a, _, _, b⟩ => ⟨t, cs, a, b⟩, fun k x hx => ?_⟩
  obtain ⟨av, q1, q2⟩ := h3 k x hx
  exact ⟨av, q1, IntsOwn.kept q2 hg hr⟩
theorem GraphOwn.kept {cs : List Value} {g : GraphD} (h : GraphOwn w base cs g) (hg : w.grownBy w' row) (hr : Far w row) : GraphOwn w' base cs g := by
  obtain ⟨pv, kv, iv, nv, h1, h2, h3, h4, h5⟩ := h
  exact ⟨pv, kv, iv, nv, h1, IntsOwn.kept h2 hg hr, KindsOwn.kept h3 hg hr, IntsOwn.kept h4 hg hr, NodesOwn.kept h5 hg hr⟩
theorem GsOwn.kept {css : List (List Value)} {gs : List GraphD} (h : GsOwn w base css gs) (hg : w.grownBy w' row) (hr : Far w row) : GsOwn w' base css gs :=
  ⟨h.1, fun i g hi => by
    obtain ⟨cs, h1, h2⟩ := h.2 i g hi
    exact ⟨cs, h1, h2.kept hg hr⟩⟩
theorem GsOwn.nil (w : World) (base : Nat) : GsOwn w base [] [] := ⟨rfl, by intro i f hf; simp at hf⟩
theorem GsOwn.snoc {css : List (List Value)} {gs : List GraphD} {cs : List Value} {g : GraphD} (h : GsOwn w base css gs) (hc : GraphOwn w base cs g) : GsOwn w base (css ++ [cs]) (gs ++ [g]) := by
  refine ⟨by simp [h.1], fun i f hf => ?_⟩
  rcases Nat.lt_or_ge i gs.length with hi | hi
  · rw [List.getElem?_append_left hi] at hf
    obtain ⟨cs', k1, k2⟩ := h.2 i f hf
    exact ⟨cs', by rw [List.getElem?_append_left (by rw [h.1]; exact hi)]; exact k1, k2⟩
  · rw [List.getElem?_append_right hi] at hf
    have h0 : i - gs.length = 0 := by
      have := (List.getElem?_eq_some_iff.1 hf).1
      simp at this; omega
    rw [h0] at hf
    simp only [List.getElem?_cons_zero, Option.some.injEq] at hf
    subst hf
    exact ⟨cs, by rw [List.getElem?_append_right (by rw [h.1]; exact hi), h.1, h0]; rfl, hc⟩
theorem IntsOwn.nums {l : List Int} (h : IntsOwn w base v l) : NumsAt .i64 w w.heap.size v l := by
  obtain ⟨A, c, rfl, h1, h2, h3⟩ := own_any h
  exact ⟨A, _, c, rfl, h1, h2, rfl, h3⟩
theorem KindsOwn.nums {l : List Int} (h : KindsOwn w base v l) : NumsAt .u8 w w.heap.size v l := by
  obtain ⟨A, c, rfl, h1, h2, h3⟩ := own_any h
  exact ⟨A, _, c, rfl, h1, h2, rfl, h3⟩
theorem ncells_len {css : List (List Value)} {l : List NodeD} {P : Nat → NodeD → Value → Prop} (hl : css.length = l.length) (h : ∀ (k : Nat) x, l[k]? = some x → ∃ av, css[k]? = some (ncells x av) ∧ P k x av) : ∀ c ∈ css, c.length = 12 := fun c hc => by
  obtain ⟨k, hk, rfl⟩ := List.getElem_of_mem hc
  obtain ⟨av, q, _⟩ := h k l[k] (List.getElem?_eq_getElem (by omega))
  rw [List.getElem?_eq_getElem hk] at q
  injection q with q
  rw [q]; rfl
theorem NodesOwn.at_ {l : List NodeD} (h : NodesOwn w base v l) : RowsAt 12 NodeAt w w.heap.size v l := by
  obtain ⟨css, h1, h2, h3⟩ := h
  obtain ⟨A, c, rfl, k1, k2, k3⟩ := own_any h2
  refine ⟨A, _, c, css, rfl, k1, k2, rfl, h1, ncells_len h1 h3, k3, fun i x hx => ?_⟩
  obtain ⟨av, q1, q2⟩ := h3 i x hx
  exact ⟨_, q1, av, rfl, IntsOwn.nums q2⟩
theorem GraphOwn.at_ {cs : List Value} {g : GraphD} (h : GraphOwn w base cs g) : GraphAt w w.heap.size cs g := by
  obtain ⟨pv, kv, iv, nv, h1, h2, h3, h4, h5⟩ := h
  exact ⟨pv, kv, iv, nv, h1, IntsOwn.nums h2, KindsOwn.nums h3, IntsOwn.nums h4, h5.at_⟩
theorem GraphOwn.len {cs : List Value} {g : GraphD} (h : GraphOwn w base cs g) : cs.length = 8 := by
  obtain ⟨pv, kv, iv, nv, rfl, _⟩ := h
  rfl
theorem GsOwn.len {css : List (List Value)} {gs : List GraphD} (h : GsOwn w base css gs) : ∀ c ∈ css, c.length = 8 := fun c hc => by
  obtain ⟨k, hk, rfl⟩ := List.getElem_of_mem hc
  have hk' : k < gs.length := by rw [← h.1]; exact hk
  obtain ⟨cs, q1, q2⟩ := h.2 k gs[k] (List.getElem?_eq_getElem hk')
  rw [List.getElem?_eq_getElem hk] at q1
  injection q1 with q1
  rw [q1]; exact q2.len
theorem GsOwn.at_ {css : List (List Value)} {gs : List GraphD} {base' : Nat} {e : TypeId} (h : GsOwn w base css gs) (ho : w.ownsRow base' e 8 v gs.length css.flatten) : GraphsAt w w.heap.size v gs := by
  obtain ⟨A, c, rfl, h1, h2, h3⟩ := own_any ho
  exact ⟨A, _, c, css, rfl, h1, h2, rfl, h.1, h.len, h3, fun i f hf => by
    obtain ⟨cs, k1, k2⟩ := h.2 i f hf
    exact ⟨cs, k1, k2.at_⟩⟩
end
/-- within the reach -/
structure GsSmall (gs : List GraphD) : Prop where
  each : ∀ g ∈ gs, g.params.length * 8 ≤ 140737488351232 ∧ g.kinds.length ≤ 140737488351232 ∧ g.init.length * 8 ≤ 140737488351232 ∧ g.nodes.length * 104 ≤ 140737488351232 ∧ ∀ x ∈ g.nodes, x.args.length * 8 ≤ 140737488351232
  len : gs.length * 128 ≤ 140737488351232
/-- what a copy leaves -/
def CopyPost (gs : List GraphD) (w : World) (e : Ending) (w' : World) : Prop :=
  Below w.heap.size w w' ∧ ∃ pv css, e = .returned (.agg #[pv]) ∧ w'.ownsRow w.heap.size 48 8 pv gs.length css.flatten ∧ GsOwn w' w.heap.size css gs
/-- what stands when so many graphs are copied -/
def CopyRel (w : World) (T U : Nat) (gs : List GraphD) (j : Nat) (wr : World) : Prop :=
  ∃ (css : List (List Value)) (pv : Value), wr.ownsRow w.heap.size 48 8 pv j css.flatten ∧ GsOwn wr w.heap.size css (gs.take j) ∧ Blk wr T 24 #[pv] ∧ Blk wr U 24 #[.slice none 0 0] ∧ Below w.heap.size w wr
/-- a node's row turned: its arguments' cell -/
theorem flatten_set12 : ∀ (css : List (List Value)) (k : Nat) (x : NodeD) (av u : Value), (∀ c ∈ css, c.length = 12) → css[k]? = some (ncells x av) → (css.flatten).set (k * 12 + 9) u = (css.set k (ncells x u)).flatten
  | [], k, x, av, u, _, h => by simp at h
  | c :: r, 0, x, av, u, hl, h => by
    simp at h; subst h
    rw [List.set_cons_zero, List.flatten_cons, List.flatten_cons, Nat.zero_mul, Nat.zero_add]
    rw [List.set_append_left _ _ (by simp [ncells])]
    rfl
  | c :: r, k + 1, x, av, u, hl, h => by
    have hc := hl c List.mem_cons_self
    have ih := flatten_set12 r k x av u (fun d hd => hl d (List.mem_cons_of_mem _ hd)) (by simpa using h)
    rw [List.set_cons_succ, List.flatten_cons, List.flatten_cons, ← ih]
    rw [List.set_append_right _ _ (by rw [hc]; omega)]
    congr 2
    rw [hc]; omega
end Go.Proofs.Ytncpehhfjkncoaa
