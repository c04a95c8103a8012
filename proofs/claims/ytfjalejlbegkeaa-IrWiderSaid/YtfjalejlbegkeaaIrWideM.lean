/- A copy of graphs to which kinds and cells are added: what stands in memory. No condition. -/
import Derived.Test.YtfjalejlbegkeaaIrWideP
set_option linter.unusedVariables false
set_option linter.unusedSimpArgs false
namespace Go.Proofs.Ytfjalejlbegkeaa
open Go.RowKit

theorem flatten_set (size : Nat) : ∀ (css : List (List Value)) (k t : Nat) (cs : List Value) (u : Value), (∀ c ∈ css, c.length = size) → css[k]? = some cs → t < size → (css.flatten).set (k * size + t) u = (css.set k (cs.set t u)).flatten
  | [], k, t, cs, u, _, h, _ => by simp at h
  | c :: r, 0, t, cs, u, hl, h, ht => by
    simp at h; subst h
    rw [List.set_cons_zero, List.flatten_cons, List.flatten_cons, Nat.zero_mul, Nat.zero_add]
    rw [List.set_append_left _ _ (by rw [hl c List.mem_cons_self]; exact ht)]
  | c :: r, k + 1, t, cs, u, hl, h, ht => by
    have hc := hl c List.mem_cons_self
    have ih := flatten_set size r k t cs u (fun d hd => hl d (List.mem_cons_of_mem _ hd)) (by simpa using h) ht
    rw [List.set_cons_succ, List.flatten_cons, List.flatten_cons, ← ih]
    rw [List.set_append_right _ _ (by rw [hc, Nat.add_mul]; omega)]
    congr 2
    rw [hc, Nat.add_mul]; omega
def WInv (w : World) (base : Nat) (v : Value) (css : List (List Value)) (L : List GraphD) : Prop :=
  w.ownsRow base 45 8 v L.length css.flatten ∧ GsOwn w base css L ∧ KApart css
theorem WInv.kept {w w' : World} {base : Nat} {v : Value} {css : List (List Value)} {L : List GraphD} (h : WInv w base v css L) (hb : Below w.heap.size w w') : WInv w' base v css L :=
  ⟨own_kept' h.1 (only_of_below hb none) nofun, h.2.1.kept (only_of_below hb none) (Far.none_ _), h.2.2⟩
theorem kapart_set {css : List (List Value)} {i : Nat} {ci c' : List Value} (h : KApart css) (hi : css[i]? = some ci) (ha : ∀ a, (kvOf c').ownBlock = some a → (kvOf ci).ownBlock = some a ∨ ∀ (j : Nat) cj, css[j]? = some cj → (kvOf cj).ownBlock ≠ some a) : KApart (css.set i c') := by
  have hil := (List.getElem?_eq_some_iff.1 hi).1
  intro p q cp cq hpq hp hq a hpa hqa
  by_cases e1 : p = i
  · subst e1
    rw [List.getElem?_set_self hil] at hp
    injection hp with hp
    subst hp
    rw [List.getElem?_set_ne (by omega)] at hq
    rcases ha a hpa with h1 | h1
    · exact h p q ci cq hpq hi hq a h1 hqa
    · exact h1 q cq hq hqa
  · rw [List.getElem?_set_ne (Ne.symm e1)] at hp
    by_cases e2 : q = i
    · subst e2
      rw [List.getElem?_set_self hil] at hq
      injection hq with hq
      subst hq
      rcases ha a hqa with h1 | h1
      · exact h p q cp ci hpq hp hi a hpa h1
      · exact h1 p cp hp hpa
    · rw [List.getElem?_set_ne (Ne.symm e2)] at hq
      exact h p q cp cq hpq hp hq a hpa hqa
section
variable {w w1 : World} {base i n c gC : Nat} {css : List (List Value)} {L : List GraphD} {g : GraphD} {pv kv iv nv kv' : Value} {ks : List Int}
/-- a list of kinds grown, and laid back -/
theorem WInv.append (h : WInv w base (.slice (some ⟨gC, 0, none⟩) n c) css L) (hn : L.length = n) (hg : L[i]? = some g) (hc : css[i]? = some (gcells g pv kv iv nv)) (hgr : w.grownBy w1 kv.ownBlock) (hown : KindsOwn w1 base kv' ks) (hat : kv'.ownBlock = kv.ownBlock ∨ kv'.ownBlock = some w.heap.size) :
    WInv (w1.setCell ⟨gC, i * 8 + 1, none⟩ kv') base (.slice (some ⟨gC, 0, none⟩) n c) (css.set i (gcells ⟨g.params, ks, g.cells, g.init, g.result, g.keep, g.nodes, g.entry⟩ pv kv' iv nv)) (L.set i ⟨g.params, ks, g.cells, g.init, g.result, g.keep, g.nodes, g.entry⟩) := by
  obtain ⟨h1, h2, h3⟩ := h
  subst hn
  have hil : i < L.length := (List.getElem?_eq_some_iff.1 hg).1
  obtain ⟨cs0, q0, pv0, kv0, iv0, nv0, e0, a1, a2, a3, a4⟩ := h2.2 i g hg
  rw [hc] at q0
  injection q0 with q0
  rw [e0] at q0
  simp only [gcells, List.cons.injEq, and_true, true_and] at q0
  obtain ⟨rfl, rfl, rfl, rfl⟩ := q0
  obtain ⟨bG, hbG⟩ := own_blk h1 rfl
  have hrow : ∀ k, kv.ownBlock = some k → ∃ cs, Blk w k 46 cs := fun k e => own_blk a2 e
  have hI : ∀ {v : Value} {l : List Int}, IntsOwn w base v l → IntsOwn w1 base v l := fun h => own_kept' h hgr fun k e => by
    obtain ⟨cs, hb⟩ := hrow k e
    exact .inr ⟨_, cs, hb, by decide⟩
  have hN : ∀ {v : Value} {l : List NodeD}, NodesOwn w base v l → NodesOwn w1 base v l := fun ⟨cs, b1, b2, b3⟩ => ⟨cs, b1, own_kept' b2 hgr fun k e => by
    obtain ⟨cs, hb⟩ := hrow k e
    exact .inr ⟨_, cs, hb, by decide⟩, fun k x hx => by
    obtain ⟨av, r1, r2⟩ := b3 k x hx
    exact ⟨av, r1, hI r2⟩⟩
  have h1' := own_kept' h1 hgr fun k e => by
    obtain ⟨cs, hb⟩ := hrow k e
    exact .inr ⟨_, cs, hb, by decide⟩
  obtain ⟨bG1, hbG1⟩ := own_blk h1' rfl
  have hset := own_set_at (u := kv') h1' (j := i * 8 + 1) (by omega)
  rw [flatten_set 8 css i 1 _ kv' h2.len hc (by omega)] at hset
  have hfar := Far.blk hbG1 (by decide) (by decide) (by decide)
  refine ⟨by rw [List.length_set]; exact hset, ⟨by rw [List.length_set, List.length_set]; exact h2.1, fun j f hf => ?_⟩, ?_⟩
  · by_cases e : j = i
    · subst e
      rw [List.getElem?_set_self hil] at hf
      injection hf with hf
      subst hf
      refine ⟨_, List.getElem?_set_self (by rw [h2.1]; exact hil), _, _, _, _, rfl, (hI a1).far hbG1 (by decide), hown.far hbG1 (by decide), (hI a3).far hbG1 (by decide), (hN a4).kept (grown_setCell w1 ⟨gC, j * 8 + 1, none⟩ kv') hfar⟩
    · rw [List.getElem?_set_ne (Ne.symm e)] at hf
      obtain ⟨cs, r1, pv', kv2, iv', nv', rfl, b1, b2, b3, b4⟩ := h2.2 j f hf
      have hne : kv2.ownBlock = none ∨ kv2.ownBlock ≠ kv.ownBlock := by
        rcases hq : kv2.ownBlock with _ | k
        · exact .inl rfl
        · right
          intro h5
          rcases Nat.lt_or_ge j i with h6 | h6
          · exact h3 j i _ _ h6 r1 hc k hq h5.symm
          · exact h3 i j _ _ (by omega) hc r1 k h5.symm hq
      have b2' : KindsOwn w1 base kv2 f.kinds := World.ownsRow.kept b2 hgr hne
      exact ⟨_, by rw [List.getElem?_set_ne (Ne.symm e)]; exact r1, _, _, _, _, rfl, (hI b1).far hbG1 (by decide), b2'.far hbG1 (by decide), (hI b3).far hbG1 (by decide), (hN b4).kept (grown_setCell w1 ⟨gC, i * 8 + 1, none⟩ kv') hfar⟩
  · refine kapart_set h3 hc fun a ha => ?_
    have ha : kv'.ownBlock = some a := ha
    rcases hat with h5 | h5
    · left
      show kv.ownBlock = some a
      rw [← h5]; exact ha
    · right
      intro j cj hj hk
      have := h2.kvlt j cj hj a hk
      rw [h5] at ha
      injection ha with ha
      omega
theorem WInv.cells (h : WInv w base (.slice (some ⟨gC, 0, none⟩) n c) css L) (hn : L.length = n) (hg : L[i]? = some g) (hc : css[i]? = some (gcells g pv kv iv nv)) (m : Int) :
    WInv (w.setCell ⟨gC, i * 8 + 2, none⟩ (.int .i64 m)) base (.slice (some ⟨gC, 0, none⟩) n c) (css.set i (gcells ⟨g.params, g.kinds, m, g.init, g.result, g.keep, g.nodes, g.entry⟩ pv kv iv nv)) (L.set i ⟨g.params, g.kinds, m, g.init, g.result, g.keep, g.nodes, g.entry⟩) := by
  obtain ⟨h1, h2, h3⟩ := h
  subst hn
  have hil : i < L.length := (List.getElem?_eq_some_iff.1 hg).1
  obtain ⟨cs0, q0, pv0, kv0, iv0, nv0, e0, a1, a2, a3, a4⟩ := h2.2 i g hg
  rw [hc] at q0
  injection q0 with q0
  rw [e0] at q0
  simp only [gcells, List.cons.injEq, and_true, true_and] at q0
  obtain ⟨rfl, rfl, rfl, rfl⟩ := q0
  obtain ⟨bG, hbG⟩ := own_blk h1 rfl
  have hset := own_set_at (u := .int .i64 m) h1 (j := i * 8 + 2) (by omega)
  rw [flatten_set 8 css i 2 _ (.int .i64 m) h2.len hc (by omega)] at hset
  have hfar := Far.blk hbG (by decide) (by decide) (by decide)
  refine ⟨by rw [List.length_set]; exact hset, ⟨by rw [List.length_set, List.length_set]; exact h2.1, fun j f hf => ?_⟩, ?_⟩
  · by_cases e : j = i
    · subst e
      rw [List.getElem?_set_self hil] at hf
      injection hf with hf
      subst hf
      exact ⟨_, List.getElem?_set_self (by rw [h2.1]; exact hil), _, _, _, _, rfl, a1.far hbG (by decide), a2.far hbG (by decide), a3.far hbG (by decide), a4.kept (grown_setCell w ⟨gC, j * 8 + 2, none⟩ (.int .i64 m)) hfar⟩
    · rw [List.getElem?_set_ne (Ne.symm e)] at hf
      obtain ⟨cs, r1, r2⟩ := h2.2 j f hf
      exact ⟨cs, by rw [List.getElem?_set_ne (Ne.symm e)]; exact r1, r2.kept (grown_setCell w ⟨gC, i * 8 + 2, none⟩ (.int .i64 m)) hfar⟩
  · exact kapart_set h3 hc fun a ha => .inl ha
end
end Go.Proofs.Ytfjalejlbegkeaa
