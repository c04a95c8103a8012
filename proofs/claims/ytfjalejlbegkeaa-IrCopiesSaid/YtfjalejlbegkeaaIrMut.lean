/- A copy of graphs whose numbers are overwritten: its shape stays, nothing below its rows turns. No condition. -/
import Derived.Test.YtfjalejlbegkeaaIrCopy
set_option linter.unusedVariables false
set_option linter.unusedSimpArgs false
namespace Go.Proofs.Ytfjalejlbegkeaa
open Go.RowKit

def IR (w : World) (M : Nat) (v : Value) (n : Nat) : Prop := ∃ xs, w.ownsRow M 3 1 v n xs ∧ ∀ (k : Nat) x, xs[k]? = some x → ∃ y, x = .int .i64 y
def KR (w : World) (M : Nat) (v : Value) (n : Nat) : Prop := ∃ xs, w.ownsRow M 46 1 v n xs ∧ ∀ (k : Nat) x, xs[k]? = some x → ∃ y, x = .int .u8 y
def NR (w : World) (M : Nat) (v : Value) (l : List NodeD) (av : Nat → Value) : Prop :=
  ∃ cs, w.ownsRow M 38 12 v l.length cs ∧ ∀ (k : Nat) x, l[k]? = some x → (∃ y, cs[k * 12 + 2]? = some (.int .i64 y)) ∧ cs[k * 12 + 9]? = some (av k) ∧ IR w M (av k) x.args.length
def GR (w : World) (M : Nat) (cs : List Value) (g : GraphD) (av : Nat → Value) : Prop :=
  ∃ pv kv iv nv, cs = gcells g pv kv iv nv ∧ IR w M pv g.params.length ∧ KR w M kv g.kinds.length ∧ IR w M iv g.init.length ∧ NR w M nv g.nodes av
/-- graphs whose numbers may have turned -/
def MInv (w : World) (M : Nat) (v : Value) (css : List (List Value)) (gs : List GraphD) (av : Nat → Nat → Value) : Prop :=
  css.length = gs.length ∧ w.ownsRow M 45 8 v gs.length css.flatten ∧ ∀ (i : Nat) g, gs[i]? = some g → ∃ cs, css[i]? = some cs ∧ GR w M cs g (av i)
section
variable {w w' : World} {M n g j : Nat} {v u : Value} {y : Int} {t : TypeId} {cs0 : Array Value} {l : List NodeD} {av : Nat → Value}
theorem IR.far (h : IR w M v n) (hg : Blk w g t cs0) (ht : 3 ≠ t) : IR (w.setCell ⟨g, j, none⟩ u) M v n := by
  obtain ⟨xs, h1, h2⟩ := h
  exact ⟨xs, ownsRow_setCell_other h1 (a := ⟨g, j, none⟩) (own_blk_ne h1 hg ht) u, h2⟩
theorem KR.far (h : KR w M v n) (hg : Blk w g t cs0) (ht : 46 ≠ t) : KR (w.setCell ⟨g, j, none⟩ u) M v n := by
  obtain ⟨xs, h1, h2⟩ := h
  exact ⟨xs, ownsRow_setCell_other h1 (a := ⟨g, j, none⟩) (own_blk_ne h1 hg ht) u, h2⟩
theorem IR.set_ (h : IR w M v n) : IR (w.setCell ⟨g, j, none⟩ (.int .i64 y)) M v n := by
  obtain ⟨xs, h1, h2⟩ := h
  obtain ⟨xs', h3, h4⟩ := own_set_any (g := g) (j := j) (u := .int .i64 y) h1
  refine ⟨xs', h3, fun k x hx => ?_⟩
  rcases h4 k x hx with h | ⟨h, _⟩
  · exact h2 k x h
  · exact ⟨y, h⟩
theorem KR.set_ (h : KR w M v n) : KR (w.setCell ⟨g, j, none⟩ (.int .u8 y)) M v n := by
  obtain ⟨xs, h1, h2⟩ := h
  obtain ⟨xs', h3, h4⟩ := own_set_any (g := g) (j := j) (u := .int .u8 y) h1
  refine ⟨xs', h3, fun k x hx => ?_⟩
  rcases h4 k x hx with h | ⟨h, _⟩
  · exact h2 k x h
  · exact ⟨y, h⟩
theorem NR.setI (h : NR w M v l av) (hg : Blk w g 3 cs0) : NR (w.setCell ⟨g, j, none⟩ (.int .i64 y)) M v l av := by
  obtain ⟨cs, h1, h2⟩ := h
  refine ⟨cs, ownsRow_setCell_other h1 (a := ⟨g, j, none⟩) (own_blk_ne h1 hg (by decide)) _, fun k x hx => ?_⟩
  obtain ⟨a1, a2, a3⟩ := h2 k x hx
  exact ⟨a1, a2, a3.set_⟩
theorem NR.setK (h : NR w M v l av) (hg : Blk w g 46 cs0) : NR (w.setCell ⟨g, j, none⟩ u) M v l av := by
  obtain ⟨cs, h1, h2⟩ := h
  refine ⟨cs, ownsRow_setCell_other h1 (a := ⟨g, j, none⟩) (own_blk_ne h1 hg (by decide)) _, fun k x hx => ?_⟩
  obtain ⟨a1, a2, a3⟩ := h2 k x hx
  exact ⟨a1, a2, a3.far hg (by decide)⟩
theorem NR.setN (h : NR w M v l av) (hg : Blk w g 38 cs0) {q : Nat} (hj : j = q * 12 + 2) : NR (w.setCell ⟨g, j, none⟩ (.int .i64 y)) M v l av := by
  obtain ⟨cs, h1, h2⟩ := h
  obtain ⟨xs', h3, h4⟩ := own_set_any (g := g) (j := j) (u := .int .i64 y) h1
  have hlen : xs'.length = cs.length := by rw [h3.1, h1.1]
  have hget : ∀ (k : Nat) x, cs[k]? = some x → ∃ x', xs'[k]? = some x' := fun k x hx => by
    have := (List.getElem?_eq_some_iff.1 hx).1
    exact ⟨xs'[k]'(by omega), List.getElem?_eq_getElem (by omega)⟩
  refine ⟨xs', h3, fun k x hx => ?_⟩
  obtain ⟨⟨p, a1⟩, a2, a3⟩ := h2 k x hx
  refine ⟨?_, ?_, a3.far hg (by decide)⟩
  · obtain ⟨x', hx'⟩ := hget _ _ a1
    rcases h4 _ x' hx' with h | ⟨h, _⟩
    · rw [a1] at h; injection h with h; exact ⟨p, by rw [hx', h]⟩
    · exact ⟨y, by rw [hx', h]⟩
  · obtain ⟨x', hx'⟩ := hget _ _ a2
    rcases h4 _ x' hx' with h | ⟨_, h, _⟩
    · rw [hx', ← h, a2]
    · omega
theorem IR.kept (h : IR w M v n) (hb : Below w.heap.size w w') : IR w' M v n := by
  obtain ⟨xs, h1, h2⟩ := h
  exact ⟨xs, own_kept' h1 (only_of_below hb none) nofun, h2⟩
theorem KR.kept (h : KR w M v n) (hb : Below w.heap.size w w') : KR w' M v n := by
  obtain ⟨xs, h1, h2⟩ := h
  exact ⟨xs, own_kept' h1 (only_of_below hb none) nofun, h2⟩
theorem NR.kept (h : NR w M v l av) (hb : Below w.heap.size w w') : NR w' M v l av := by
  obtain ⟨cs, h1, h2⟩ := h
  refine ⟨cs, own_kept' h1 (only_of_below hb none) nofun, fun k x hx => ?_⟩
  obtain ⟨a1, a2, a3⟩ := h2 k x hx
  exact ⟨a1, a2, a3.kept hb⟩
end
section
variable {w w' : World} {M g j : Nat} {v u : Value} {y : Int} {cs0 : Array Value} {css : List (List Value)} {gs : List GraphD} {av : Nat → Nat → Value}
theorem MInv.setI (h : MInv w M v css gs av) (hg : Blk w g 3 cs0) : MInv (w.setCell ⟨g, j, none⟩ (.int .i64 y)) M v css gs av := by
  obtain ⟨h0, h1, h2⟩ := h
  refine ⟨h0, ownsRow_setCell_other h1 (a := ⟨g, j, none⟩) (own_blk_ne h1 hg (by decide)) _, fun i x hx => ?_⟩
  obtain ⟨cs, q, pv, kv, iv, nv, a0, a1, a2, a3, a4⟩ := h2 i x hx
  exact ⟨cs, q, pv, kv, iv, nv, a0, a1.set_, a2.far hg (by decide), a3.set_, a4.setI hg⟩
theorem MInv.setK (h : MInv w M v css gs av) (hg : Blk w g 46 cs0) : MInv (w.setCell ⟨g, j, none⟩ (.int .u8 y)) M v css gs av := by
  obtain ⟨h0, h1, h2⟩ := h
  refine ⟨h0, ownsRow_setCell_other h1 (a := ⟨g, j, none⟩) (own_blk_ne h1 hg (by decide)) _, fun i x hx => ?_⟩
  obtain ⟨cs, q, pv, kv, iv, nv, a0, a1, a2, a3, a4⟩ := h2 i x hx
  exact ⟨cs, q, pv, kv, iv, nv, a0, a1.far hg (by decide), a2.set_, a3.far hg (by decide), a4.setK hg⟩
theorem MInv.setN (h : MInv w M v css gs av) (hg : Blk w g 38 cs0) {q : Nat} (hj : j = q * 12 + 2) : MInv (w.setCell ⟨g, j, none⟩ (.int .i64 y)) M v css gs av := by
  obtain ⟨h0, h1, h2⟩ := h
  refine ⟨h0, ownsRow_setCell_other h1 (a := ⟨g, j, none⟩) (own_blk_ne h1 hg (by decide)) _, fun i x hx => ?_⟩
  obtain ⟨cs, q', pv, kv, iv, nv, a0, a1, a2, a3, a4⟩ := h2 i x hx
  exact ⟨cs, q', pv, kv, iv, nv, a0, a1.far hg (by decide), a2.far hg (by decide), a3.far hg (by decide), a4.setN hg hj⟩
theorem MInv.kept (h : MInv w M v css gs av) (hb : Below w.heap.size w w') : MInv w' M v css gs av := by
  obtain ⟨h0, h1, h2⟩ := h
  refine ⟨h0, own_kept' h1 (only_of_below hb none) nofun, fun i x hx => ?_⟩
  obtain ⟨cs, q', pv, kv, iv, nv, a0, a1, a2, a3, a4⟩ := h2 i x hx
  exact ⟨cs, q', pv, kv, iv, nv, a0, a1.kept hb, a2.kept hb, a3.kept hb, a4.kept hb⟩
end
theorem IR.of_own {w : World} {M : Nat} {v : Value} {l : List Int} (h : IntsOwn w M v l) : IR w M v l.length := ⟨_, h, fun k x hx => by
  rw [List.getElem?_map, Option.map_eq_some_iff] at hx
  obtain ⟨y, _, rfl⟩ := hx
  exact ⟨y, rfl⟩⟩
theorem KR.of_own {w : World} {M : Nat} {v : Value} {l : List Int} (h : KindsOwn w M v l) : KR w M v l.length := ⟨_, h, fun k x hx => by
  rw [List.getElem?_map, Option.map_eq_some_iff] at hx
  obtain ⟨y, _, rfl⟩ := hx
  exact ⟨y, rfl⟩⟩
theorem NR.of_own {w : World} {M : Nat} {v : Value} {l : List NodeD} (h : NodesOwn w M v l) : ∃ av, NR w M v l av := by
  obtain ⟨css, h1, h2, h3⟩ := h
  have h12 := ncells_len (P := fun _ _ _ => True) h1 fun i y hy => (h3 i y hy).imp fun a b => ⟨b.1, trivial⟩
  refine ⟨fun k => (css.flatten[k * 12 + 9]?).getD undef, css.flatten, h2, fun k x hx => ?_⟩
  obtain ⟨av, q1, q2⟩ := h3 k x hx
  have c2 := flatten_get css 12 k _ q1 h12 2 (by omega)
  have c9 := flatten_get css 12 k _ q1 h12 9 (by omega)
  have e9 : (css.flatten[k * 12 + 9]?).getD undef = av := by rw [c9]; rfl
  refine ⟨⟨x.d, by rw [c2]; rfl⟩, ?_, ?_⟩
  · show css.flatten[k * 12 + 9]? = some ((css.flatten[k * 12 + 9]?).getD undef)
    rw [e9, c9]; rfl
  · show IR w M ((css.flatten[k * 12 + 9]?).getD undef) x.args.length
    rw [e9]; exact IR.of_own q2
theorem MInv.of_own {w : World} {M : Nat} {v : Value} {css : List (List Value)} {gs : List GraphD} (h : GsOwn w M css gs) (ho : w.ownsRow M 45 8 v gs.length css.flatten) : ∃ av, MInv w M v css gs av := by
  have hx : ∀ i : Nat, ∃ av : Nat → Value, ∀ g : GraphD, gs[i]? = some g → ∃ cs, css[i]? = some cs ∧ GR w M cs g av := fun i => by
    rcases hq : gs[i]? with _ | g
    · exact ⟨fun _ => undef, fun g hg => by cases hg⟩
    · obtain ⟨cs, q1, pv, kv, iv, nv, a0, a1, a2, a3, a4⟩ := h.2 i g hq
      obtain ⟨av, hav⟩ := NR.of_own a4
      refine ⟨av, fun g' hg' => ?_⟩
      injection hg' with hg'
      subst hg'
      exact ⟨cs, q1, pv, kv, iv, nv, a0, IR.of_own a1, KR.of_own a2, IR.of_own a3, hav⟩
  obtain ⟨av, hav⟩ := Classical.axiomOfChoice hx
  exact ⟨av, h.1, ho, fun i g hg => hav i g hg⟩
section
variable {w : World} {M k n c : Nat} {A : Option Addr}
theorem IR.row {m : Nat} (h : IR w M (.slice A n c) m) (hk : k < n) :
    ∃ g, A = some ⟨g, 0, none⟩ ∧ M ≤ g ∧ (∃ cs, Blk w g 3 cs) ∧ (∃ y, w.cell? ⟨g, k, none⟩ = some (.int .i64 y)) ∧ w.frozen? ⟨g, k, none⟩ = false := by
  obtain ⟨xs, h1, h2⟩ := h
  obtain ⟨rfl, g, rfl, hb, ⟨cs, hcs⟩, hc⟩ := own_row h1 (by omega)
  have hx : xs[k]? = some (xs[k]'(by have := h1.1; omega)) := List.getElem?_eq_getElem _
  obtain ⟨y, hy⟩ := h2 k _ hx
  have h9 := hc k _ hx
  rw [addr_zero, hy] at h9
  exact ⟨g, rfl, hb, ⟨cs, hcs⟩, ⟨y, h9⟩, Blk.frozen hcs k⟩
theorem KR.row {m : Nat} (h : KR w M (.slice A n c) m) (hk : k < n) :
    ∃ g, A = some ⟨g, 0, none⟩ ∧ M ≤ g ∧ (∃ cs, Blk w g 46 cs) ∧ (∃ y, w.cell? ⟨g, k, none⟩ = some (.int .u8 y)) ∧ w.frozen? ⟨g, k, none⟩ = false := by
  obtain ⟨xs, h1, h2⟩ := h
  obtain ⟨rfl, g, rfl, hb, ⟨cs, hcs⟩, hc⟩ := own_row h1 (by omega)
  have hx : xs[k]? = some (xs[k]'(by have := h1.1; omega)) := List.getElem?_eq_getElem _
  obtain ⟨y, hy⟩ := h2 k _ hx
  have h9 := hc k _ hx
  rw [addr_zero, hy] at h9
  exact ⟨g, rfl, hb, ⟨cs, hcs⟩, ⟨y, h9⟩, Blk.frozen hcs k⟩
theorem NR.row {l : List NodeD} {av : Nat → Value} {x : NodeD} (h : NR w M (.slice A n c) l av) (hx : l[k]? = some x) :
    ∃ g, A = some ⟨g, 0, none⟩ ∧ M ≤ g ∧ k < n ∧ (∃ cs, Blk w g 38 cs) ∧ (∃ y, w.cell? ⟨g, k * 12 + 2, none⟩ = some (.int .i64 y)) ∧ w.frozen? ⟨g, k * 12 + 2, none⟩ = false ∧ w.cell? ⟨g, k * 12 + 9, none⟩ = some (av k) ∧ IR w M (av k) x.args.length := by
  obtain ⟨cs, h1, h2⟩ := h
  have hkl : k < l.length := (List.getElem?_eq_some_iff.1 hx).1
  obtain ⟨A', c', e1, _⟩ := own_any h1
  injection e1 with e1 e2 e3
  have hn : 0 < n := by omega
  obtain ⟨e4, g, rfl, hb, ⟨cb, hcb⟩, hc⟩ := own_row h1 hn
  obtain ⟨⟨y, a1⟩, a2, a3⟩ := h2 k x hx
  have b1 := hc _ _ a1
  have b2 := hc _ _ a2
  rw [addr_zero] at b1 b2
  exact ⟨g, rfl, hb, by omega, ⟨cb, hcb⟩, ⟨y, b1⟩, Blk.frozen hcb _, b2, a3⟩
theorem IR.form {v : Value} {m : Nat} (h : IR w M v m) : ∃ A c, v = .slice A m c ∧ m ≤ c ∧ c ≤ maxLen := by
  obtain ⟨xs, h1, _⟩ := h
  obtain ⟨A, c, e, a, b, _⟩ := own_any h1
  exact ⟨A, c, e, a, b⟩
theorem KR.form {v : Value} {m : Nat} (h : KR w M v m) : ∃ A c, v = .slice A m c ∧ m ≤ c ∧ c ≤ maxLen := by
  obtain ⟨xs, h1, _⟩ := h
  obtain ⟨A, c, e, a, b, _⟩ := own_any h1
  exact ⟨A, c, e, a, b⟩
theorem NR.form {v : Value} {l : List NodeD} {av : Nat → Value} (h : NR w M v l av) : ∃ A c, v = .slice A l.length c ∧ l.length ≤ c ∧ c ≤ maxLen := by
  obtain ⟨xs, h1, _⟩ := h
  obtain ⟨A, c, e, a, b, _⟩ := own_any h1
  exact ⟨A, c, e, a, b⟩
end
end Go.Proofs.Ytfjalejlbegkeaa
