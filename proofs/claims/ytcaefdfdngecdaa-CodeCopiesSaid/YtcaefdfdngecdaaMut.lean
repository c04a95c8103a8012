/- A program's copy whose numbers are overwritten: its shape stays, nothing below its rows turns. No condition. -/
import Derived.Test.YtcaefdfdngecdaaRefCopy
import Derived.Test.YtcaefdfdngecdaaOpenP
set_option linter.unusedVariables false
set_option linter.unusedSimpArgs false
namespace Go.Proofs.Ytcaefdfdngecdaa
open Go.RowKit

theorem addr_zero (R k : Nat) : (⟨R, 0, none⟩ : Addr).add k = ⟨R, k, none⟩ := by
  unfold Addr.add
  by_cases h : k = 0
  · simp [h]
  · simp [h]
/-- a store anywhere: a row of the call's own stays one, at most that cell has turned -/
theorem own_set_any {w : World} {M size n g j : Nat} {e : TypeId} {v u : Value} {xs : List Value} (h : w.ownsRow M e size v n xs) :
    ∃ xs', (w.setCell ⟨g, j, none⟩ u).ownsRow M e size v n xs' ∧ ∀ (k : Nat) x, xs'[k]? = some x → xs[k]? = some x ∨ x = u ∧ k = j ∧ v.ownBlock = some g := by
  by_cases hv : v.ownBlock = some g
  · rcases h.2 with ⟨rfl, _⟩ | ⟨g', cap, cur, rfl, hb, hh, h1, h2, h3, h4⟩
    · cases hv
    · injection hv with hv
      simp only at hv
      subst hv
      have hset : (w.setCell ⟨g', j, none⟩ u).heap[g']? = some (.cells (cur.setIfInBounds j u) e (0, 0)) := Blk.set_ (show Blk w g' e cur from hh) j u
      have hlen : ((cur.setIfInBounds j u).toList.take (n * size)).length = n * size := by
        rw [List.length_take, Array.length_toList, Array.size_setIfInBounds, h3]
        exact Nat.min_eq_left (Nat.mul_le_mul_right _ h1)
      refine ⟨(cur.setIfInBounds j u).toList.take (n * size), ⟨hlen, .inr ⟨g', cap, _, rfl, hb, hset, h1, h2, by simpa using h3, rfl⟩⟩, fun k x hx => ?_⟩
      have hk : k < n * size := by
        have := (List.getElem?_eq_some_iff.1 hx).1
        omega
      rw [List.getElem?_take_of_lt hk, Array.toList_setIfInBounds] at hx
      by_cases hkj : k = j
      · subst hkj
        rw [List.getElem?_set_self' ] at hx
        cases hc : cur.toList[k]? with
        | none => rw [hc] at hx; simp at hx
        | some y => rw [hc] at hx; simp at hx; exact .inr ⟨hx.symm, rfl, rfl⟩
      · rw [List.getElem?_set_ne (Ne.symm hkj)] at hx
        left
        rw [← h4, List.getElem?_take_of_lt hk]
        exact hx
  · exact ⟨xs, ownsRow_setCell_other h (a := ⟨g, j, none⟩) hv u, fun k x hx => .inl hx⟩
def KRow (w : World) (M : Nat) (v : Value) : Prop := ∃ n xs, w.ownsRow M 51 1 v n xs ∧ ∀ (k : Nat) x, xs[k]? = some x → ∃ y, x = .int .u8 y
def IRow (w : World) (M : Nat) (v : Value) : Prop := ∃ n xs, w.ownsRow M 49 3 v n xs ∧ ∀ (k : Nat) x, xs[k * 3 + 1]? = some x → ∃ y, x = .int .i64 y
/-- a program whose numbers may have turned -/
def CInv (w : World) (M n : Nat) (v : Value) (L C : Nat → Value) : Prop :=
  ∃ cs, w.ownsRow M 45 5 v n cs ∧ ∀ i, i < n → (∃ p, cs[i * 5]? = some (.int .i64 p)) ∧ cs[i * 5 + 1]? = some (L i) ∧ cs[i * 5 + 4]? = some (C i) ∧ KRow w M (L i) ∧ IRow w M (C i)
theorem KRow.far {w : World} {M g j : Nat} {v u : Value} {t : TypeId} {cs : Array Value} (h : KRow w M v) (hg : Blk w g t cs) (ht : t ≠ 51) : KRow (w.setCell ⟨g, j, none⟩ u) M v := by
  obtain ⟨n, xs, h1, h2⟩ := h
  exact ⟨n, xs, ownsRow_setCell_other h1 (a := ⟨g, j, none⟩) (own_blk_ne h1 hg (Ne.symm ht)) u, h2⟩
theorem IRow.far {w : World} {M g j : Nat} {v u : Value} {t : TypeId} {cs : Array Value} (h : IRow w M v) (hg : Blk w g t cs) (ht : t ≠ 49) : IRow (w.setCell ⟨g, j, none⟩ u) M v := by
  obtain ⟨n, xs, h1, h2⟩ := h
  exact ⟨n, xs, ownsRow_setCell_other h1 (a := ⟨g, j, none⟩) (own_blk_ne h1 hg (Ne.symm ht)) u, h2⟩
theorem KRow.set_ {w : World} {M g j : Nat} {v : Value} {y : Int} (h : KRow w M v) : KRow (w.setCell ⟨g, j, none⟩ (.int .u8 y)) M v := by
  obtain ⟨n, xs, h1, h2⟩ := h
  obtain ⟨xs', h3, h4⟩ := own_set_any (g := g) (j := j) (u := .int .u8 y) h1
  refine ⟨n, xs', h3, fun k x hx => ?_⟩
  rcases h4 k x hx with h | ⟨h, _⟩
  · exact h2 k x h
  · exact ⟨y, h⟩
theorem IRow.set_ {w : World} {M g j : Nat} {v : Value} {y : Int} (h : IRow w M v) : IRow (w.setCell ⟨g, j, none⟩ (.int .i64 y)) M v := by
  obtain ⟨n, xs, h1, h2⟩ := h
  obtain ⟨xs', h3, h4⟩ := own_set_any (g := g) (j := j) (u := .int .i64 y) h1
  refine ⟨n, xs', h3, fun k x hx => ?_⟩
  rcases h4 _ x hx with h | ⟨h, _⟩
  · exact h2 k x h
  · exact ⟨y, h⟩
section
variable {w : World} {M n g j : Nat} {v : Value} {L C : Nat → Value} {y : Int} {cs0 : Array Value}
theorem CInv.setK (h : CInv w M n v L C) (hg : Blk w g 51 cs0) : CInv (w.setCell ⟨g, j, none⟩ (.int .u8 y)) M n v L C := by
  obtain ⟨cs, h1, h2⟩ := h
  refine ⟨cs, ownsRow_setCell_other h1 (a := ⟨g, j, none⟩) (own_blk_ne h1 hg (by decide)) _, fun i hi => ?_⟩
  obtain ⟨a1, a2, a3, a4, a5⟩ := h2 i hi
  exact ⟨a1, a2, a3, a4.set_, a5.far hg (by decide)⟩
theorem CInv.setI (h : CInv w M n v L C) (hg : Blk w g 49 cs0) : CInv (w.setCell ⟨g, j, none⟩ (.int .i64 y)) M n v L C := by
  obtain ⟨cs, h1, h2⟩ := h
  refine ⟨cs, ownsRow_setCell_other h1 (a := ⟨g, j, none⟩) (own_blk_ne h1 hg (by decide)) _, fun i hi => ?_⟩
  obtain ⟨a1, a2, a3, a4, a5⟩ := h2 i hi
  exact ⟨a1, a2, a3, a4.far hg (by decide), a5.set_⟩
theorem CInv.setF (h : CInv w M n v L C) (hg : Blk w g 45 cs0) {q : Nat} (hj : j = q * 5) : CInv (w.setCell ⟨g, j, none⟩ (.int .i64 y)) M n v L C := by
  obtain ⟨cs, h1, h2⟩ := h
  obtain ⟨xs', h3, h4⟩ := own_set_any (g := g) (j := j) (u := .int .i64 y) h1
  have hl : xs'.length = cs.length := by rw [h3.1, h1.1]
  have hget : ∀ (k : Nat) x, cs[k]? = some x → ∃ x', xs'[k]? = some x' := fun k x hx => by
    have := (List.getElem?_eq_some_iff.1 hx).1
    exact ⟨xs'[k]'(by omega), List.getElem?_eq_getElem (by omega)⟩
  refine ⟨xs', h3, fun i hi => ?_⟩
  obtain ⟨⟨p, a1⟩, a2, a3, a4, a5⟩ := h2 i hi
  refine ⟨?_, ?_, ?_, a4.far hg (by decide), a5.far hg (by decide)⟩
  · obtain ⟨x', hx'⟩ := hget _ _ a1
    rcases h4 _ x' hx' with h | ⟨h, _⟩
    · rw [a1] at h; injection h with h; exact ⟨p, by rw [hx', h]⟩
    · exact ⟨y, by rw [hx', h]⟩
  · obtain ⟨x', hx'⟩ := hget _ _ a2
    rcases h4 _ x' hx' with h | ⟨_, h, _⟩
    · rw [hx', ← h, a2]
    · omega
  · obtain ⟨x', hx'⟩ := hget _ _ a3
    rcases h4 _ x' hx' with h | ⟨_, h, _⟩
    · rw [hx', ← h, a3]
    · omega
end
theorem icells_at : ∀ (is : List InstrD) (k : Nat) x, (is.flatMap icells)[k * 3 + 1]? = some x → ∃ y, x = .int .i64 y
  | [], k, x, h => by simp at h
  | i :: is, 0, x, h => by simp [icells] at h; exact ⟨_, h.symm⟩
  | i :: is, k + 1, x, h => by
    have e : (k + 1) * 3 + 1 = k * 3 + 1 + 3 := by omega
    rw [List.flatMap_cons, e, List.getElem?_append_right (by simp [icells])] at h
    exact icells_at is k x (by simpa [icells] using h)
theorem CInv.of_rows {w : World} {M : Nat} {v : Value} {css : List (List Value)} {fs : List FuncD} (h : FsRows w M css fs) (ho : w.ownsRow M 45 5 v fs.length css.flatten) :
    ∃ L C, CInv w M fs.length v L C := by
  have h5 : ∀ c ∈ css, c.length = 5 := fun c hc => by
    obtain ⟨i, hi, rfl⟩ := List.getElem_of_mem hc
    have hi' : i < fs.length := by rw [← h.1]; exact hi
    obtain ⟨lv, cv, h1, _⟩ := h.2 i fs[i] (List.getElem?_eq_getElem hi')
    rw [List.getElem?_eq_getElem hi] at h1
    injection h1 with h1
    rw [h1]; rfl
  refine ⟨fun i => (css.flatten[i * 5 + 1]?).getD undef, fun i => (css.flatten[i * 5 + 4]?).getD undef, css.flatten, ho, fun i hi => ?_⟩
  obtain ⟨lv, cv, h1, h2, h3⟩ := h.2 i fs[i] (List.getElem?_eq_getElem hi)
  have c0 := flatten_five css i _ h1 h5 0 (by omega)
  have c1 := flatten_five css i _ h1 h5 1 (by omega)
  have c4 := flatten_five css i _ h1 h5 4 (by omega)
  simp only [fcells, Nat.add_zero, List.getElem?_cons_zero, List.getElem?_cons_succ] at c0 c1 c4
  have e1 : (css.flatten[i * 5 + 1]?).getD undef = lv := by rw [c1]; rfl
  have e4 : (css.flatten[i * 5 + 4]?).getD undef = cv := by rw [c4]; rfl
  simp only [e1, e4]
  refine ⟨⟨_, c0⟩, c1, c4, ?_, ?_⟩
  · exact ⟨_, _, h2, fun k x hx => by
      rw [kindVals, List.getElem?_map, Option.map_eq_some_iff] at hx
      obtain ⟨y, _, rfl⟩ := hx
      exact ⟨y, rfl⟩⟩
  · exact ⟨_, _, h3, fun k x hx => icells_at _ k x hx⟩
theorem CInv.kept {w w' : World} {M n : Nat} {v : Value} {L C : Nat → Value} (h : CInv w M n v L C) (hb : Below w.heap.size w w') : CInv w' M n v L C := by
  obtain ⟨cs, h1, h2⟩ := h
  refine ⟨cs, own_kept' h1 (only_of_below hb none) nofun, fun i hi => ?_⟩
  obtain ⟨a1, a2, a3, ⟨n1, x1, b1, b2⟩, ⟨n2, x2, d1, d2⟩⟩ := h2 i hi
  exact ⟨a1, a2, a3, ⟨n1, x1, own_kept' b1 (only_of_below hb none) nofun, b2⟩, ⟨n2, x2, own_kept' d1 (only_of_below hb none) nofun, d2⟩⟩
theorem KRow.form {w : World} {M : Nat} {v : Value} (h : KRow w M v) : ∃ A n c, v = .slice A n c ∧ n ≤ c ∧ c ≤ maxLen := by
  obtain ⟨n, xs, h1, _⟩ := h
  obtain ⟨A, c, e, a, b, _⟩ := own_any h1
  exact ⟨A, n, c, e, a, b⟩
theorem IRow.form {w : World} {M : Nat} {v : Value} (h : IRow w M v) : ∃ A n c, v = .slice A n c ∧ n ≤ c ∧ c ≤ maxLen := by
  obtain ⟨n, xs, h1, _⟩ := h
  obtain ⟨A, c, e, a, b, _⟩ := own_any h1
  exact ⟨A, n, c, e, a, b⟩
theorem own_row {w : World} {M size n' n c : Nat} {e : TypeId} {A : Option Addr} {xs : List Value} (h : w.ownsRow M e size (.slice A n c) n' xs) (hn : 0 < n) :
    n' = n ∧ ∃ g, A = some ⟨g, 0, none⟩ ∧ M ≤ g ∧ (∃ cs, Blk w g e cs) ∧ ∀ (j : Nat) u, xs[j]? = some u → w.cell? ((⟨g, 0, none⟩ : Addr).add j) = some u := by
  obtain ⟨A', c', e1, _⟩ := own_any h
  injection e1 with e1 e2 e3
  subst e2
  obtain ⟨g, cap, e4, hb, _⟩ := own_form h (by omega)
  injection e4 with e4
  subst e4
  exact ⟨rfl, g, rfl, hb, own_blk h rfl, h.cells (g := g) rfl⟩
theorem KRow.row {w : World} {M k n c : Nat} {A : Option Addr} (h : KRow w M (.slice A n c)) (hk : k < n) :
    ∃ g ad, A = some ad ∧ ad = ⟨g, 0, none⟩ ∧ M ≤ g ∧ (∃ cs, Blk w g 51 cs) ∧ (∃ y, w.cell? (ad.add k) = some (.int .u8 y)) ∧ w.frozen? (ad.add k) = false := by
  obtain ⟨n', xs, h1, h2⟩ := h
  obtain ⟨rfl, g, rfl, hb, ⟨cs, hcs⟩, hc⟩ := own_row h1 (by omega)
  have hx : xs[k]? = some (xs[k]'(by have := h1.1; omega)) := List.getElem?_eq_getElem _
  obtain ⟨y, hy⟩ := h2 k _ hx
  refine ⟨g, _, rfl, rfl, hb, ⟨cs, hcs⟩, ⟨y, by rw [← hy]; exact hc k _ hx⟩, by rw [addr_zero]; exact Blk.frozen hcs k⟩
theorem IRow.row {w : World} {M k n c : Nat} {A : Option Addr} (h : IRow w M (.slice A n c)) (hk : k < n) :
    ∃ g ad, A = some ad ∧ ad = ⟨g, 0, none⟩ ∧ M ≤ g ∧ (∃ cs, Blk w g 49 cs) ∧ (∃ y, w.cell? ⟨(ad.add (k * 3)).block, (ad.add (k * 3)).off + 1, none⟩ = some (.int .i64 y)) ∧ w.frozen? ⟨(ad.add (k * 3)).block, (ad.add (k * 3)).off + 1, none⟩ = false := by
  obtain ⟨n', xs, h1, h2⟩ := h
  obtain ⟨rfl, g, rfl, hb, ⟨cs, hcs⟩, hc⟩ := own_row h1 (by omega)
  have hx : xs[k * 3 + 1]? = some (xs[k * 3 + 1]'(by have := h1.1; omega)) := List.getElem?_eq_getElem _
  obtain ⟨y, hy⟩ := h2 k _ hx
  refine ⟨g, _, rfl, rfl, hb, ⟨cs, hcs⟩, ⟨y, ?_⟩, by rw [addr_zero]; exact Blk.frozen hcs _⟩
  rw [addr_sub _ _ 1 (by omega), ← hy]; exact hc _ _ hx
theorem CInv.row {w : World} {M i n c : Nat} {A : Option Addr} {L C : Nat → Value} (h : CInv w M n (.slice A n c) L C) (hi : i < n) :
    ∃ g ad, A = some ad ∧ ad = ⟨g, 0, none⟩ ∧ M ≤ g ∧ (∃ cs, Blk w g 45 cs) ∧ (∃ y, w.cell? (ad.add (i * 5)) = some (.int .i64 y)) ∧ w.frozen? (ad.add (i * 5)) = false ∧
      w.cell? ⟨(ad.add (i * 5)).block, (ad.add (i * 5)).off + 1, none⟩ = some (L i) ∧ w.cell? ⟨(ad.add (i * 5)).block, (ad.add (i * 5)).off + 4, none⟩ = some (C i) ∧ KRow w M (L i) ∧ IRow w M (C i) := by
  obtain ⟨xs, h1, h2⟩ := h
  obtain ⟨_, g, rfl, hb, ⟨cs, hcs⟩, hc⟩ := own_row h1 (by omega)
  obtain ⟨⟨p, a1⟩, a2, a3, a4, a5⟩ := h2 i hi
  refine ⟨g, _, rfl, rfl, hb, ⟨cs, hcs⟩, ⟨p, hc _ _ a1⟩, by rw [addr_zero]; exact Blk.frozen hcs _, ?_, ?_, a4, a5⟩
  · rw [addr_sub _ _ 1 (by omega)]; exact hc _ _ a2
  · rw [addr_sub _ _ 4 (by omega)]; exact hc _ _ a3
end Go.Proofs.Ytcaefdfdngecdaa
