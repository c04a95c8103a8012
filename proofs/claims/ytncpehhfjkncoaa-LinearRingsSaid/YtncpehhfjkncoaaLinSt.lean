/- The liner's state as it lies in memory, and what a change leaves of it. No condition. -/
import Derived.Test.YtncpehhfjkncoaaLinThru
import Derived.Test.YtncpehhfjkncoaaLinTail
import Derived.Test.YtncpehhfjkncoaaIrClone
set_option linter.unusedVariables false
set_option linter.unusedSimpArgs false
namespace Go.Proofs.Ytncpehhfjkncoaa
open Go.RowKit

/-- a change that touches no row of type e -/
def Other (w : World) (e : TypeId) (row : Option Nat) : Prop := ∀ g, row = some g → w.heap.size ≤ g ∨ ∀ cs, w.heap[g]? ≠ some (.cells cs e (0, 0))
section
variable {w w' : World} {base n size : Nat} {e e' : TypeId} {v : Value} {xs : List Value} {row : Option Nat}
theorem Other.none_ (w : World) (e : TypeId) : Other w e none := nofun
theorem Other.blk {g : Nat} {t : TypeId} {cs : Array Value} (h : Blk w g t cs) (hne : t ≠ e) : Other w e (some g) := fun k hk => by
  injection hk with hk
  subst hk
  refine .inr fun cs' h' => ?_
  unfold Blk at h
  rw [h] at h'
  injection h' with h'
  injection h' with _ h'
  exact hne h'
theorem Other.map {b m : Nat} {f : Nat → Option Nat} (h : IMap w b m f) (e : TypeId) : Other w e (some b) := fun k hk => by
  injection hk with hk
  subst hk
  exact .inr fun cs' h' => h.ne_blk (show Blk w b e cs' from h') rfl
theorem own_type (h : w.ownsRow base e size v n xs) {g : Nat} (hg : v.ownBlock = some g) : ∃ cur, w.heap[g]? = some (.cells cur e (0, 0)) := by
  rcases h.2 with ⟨rfl, _⟩ | ⟨g', cap, cur, rfl, _, hh, _⟩
  · cases hg
  · have : g' = g := by simpa [Value.ownBlock] using hg
    subst this
    exact ⟨cur, hh⟩
theorem Other.own (h : w.ownsRow base e' size v n xs) (hne : e' ≠ e) : Other w e v.ownBlock := fun g hg => by
  obtain ⟨cur, hh⟩ := own_type h hg
  refine .inr fun cs' h' => ?_
  rw [hh] at h'
  injection h' with h'
  injection h' with _ h'
  exact hne h'
theorem Other.tail (h : Tail w base e' v xs) (hne : e' ≠ e) : Other w e v.ownBlock := by
  obtain ⟨dead, g, k, n, c, C, rfl, h, _⟩ := h
  exact fun j hj => Other.own h hne j hj
theorem Other.ne (ho : Other w e row) (h : w.ownsRow base e size v n xs) : v.ownBlock = none ∨ v.ownBlock ≠ row := by
  rcases hv : v.ownBlock with _ | g
  · exact .inl rfl
  · refine .inr fun hr => ?_
    obtain ⟨cur, hh⟩ := own_type h hv
    rcases ho g hr.symm with h1 | h1
    · have := (h.lt g hv).2; omega
    · exact h1 cur hh
theorem Other.own_keep (ho : Other w e row) (h : w.ownsRow base e size v n xs) (hg : w.grownBy w' row) : w'.ownsRow base e size v n xs := h.kept hg (ho.ne h)
theorem Other.tail_keep (ho : Other w e row) (h : Tail w base e v xs) (hg : w.grownBy w' row) : Tail w' base e v xs := by
  have h' := h
  obtain ⟨dead, g, k, n, c, C, rfl, h2, _⟩ := h'
  refine h.kept hg ?_
  rcases ho.ne h2 with h3 | h3
  · cases h3
  · exact h3
end
/-- nodes in a row of the call's own, their arguments' rows apart from block T -/
def LNodes (w : World) (base : Nat) (T : Option Nat) (v : Value) (l : List NodeD) : Prop :=
  ∃ css : List (List Value), css.length = l.length ∧ w.ownsRow base 52 12 v l.length css.flatten ∧ ∀ (k : Nat) x, l[k]? = some x → ∃ av, css[k]? = some (ncells x av) ∧ IntsOwn w base av x.args ∧ ∀ g, av.ownBlock = some g → T ≠ some g
section
variable {w w' : World} {base : Nat} {T : Option Nat} {v : Value} {l : List NodeD} {row : Option Nat}
theorem LNodes.nil (w : World) (base : Nat) (T : Option Nat) : LNodes w base T (.slice none 0 0) [] := ⟨[], rfl, World.ownsRow_nil _ _ _ _, by intro k x h; simp at h⟩
theorem LNodes.nodes (h : LNodes w base T v l) : NodesOwn w base v l := by
  obtain ⟨css, h1, h2, h3⟩ := h
  exact ⟨css, h1, h2, fun k x hx => by
    obtain ⟨av, q1, q2, _⟩ := h3 k x hx
    exact ⟨av, q1, q2⟩⟩
theorem ints_keep {av : Value} {ys : List Int} (h : IntsOwn w base av ys) (hT : ∀ g, av.ownBlock = some g → T ≠ some g) (hg : w.grownBy w' row) (hr : Other w 3 row ∨ row = T) : IntsOwn w' base av ys := by
  rcases hr with hr | rfl
  · exact hr.own_keep h hg
  · refine World.ownsRow.kept h hg ?_
    rcases hv : av.ownBlock with _ | g
    · exact .inl rfl
    · exact .inr fun e => hT g hv e.symm
theorem LNodes.kept (h : LNodes w base T v l) (hg : w.grownBy w' row) (hn : Other w 52 row) (hr : Other w 3 row ∨ row = T) : LNodes w' base T v l := by
  obtain ⟨css, h1, h2, h3⟩ := h
  refine ⟨css, h1, hn.own_keep h2 hg, fun k x hx => ?_⟩
  obtain ⟨av, q1, q2, q3⟩ := h3 k x hx
  exact ⟨av, q1, ints_keep q2 q3 hg hr, q3⟩
theorem LNodes.turn {T' : Option Nat} (h : LNodes w base T v l) (hT : T' = T ∨ ∀ g, T' = some g → w.heap.size ≤ g) : LNodes w base T' v l := by
  obtain ⟨css, h1, h2, h3⟩ := h
  refine ⟨css, h1, h2, fun k x hx => ?_⟩
  obtain ⟨av, q1, q2, q3⟩ := h3 k x hx
  refine ⟨av, q1, q2, fun g hg => ?_⟩
  rcases hT with rfl | hT
  · exact q3 g hg
  · intro e
    have := hT g e
    have := (q2.lt g hg).2
    omega
/-- one more is laid at the end -/
theorem LNodes.snoc {v' : Value} {x : NodeD} {av : Value} {css : List (List Value)} (h1 : css.length = l.length) (h3 : ∀ (k : Nat) x, l[k]? = some x → ∃ av, css[k]? = some (ncells x av) ∧ IntsOwn w' base av x.args ∧ ∀ g, av.ownBlock = some g → T ≠ some g)
    (ho : w'.ownsRow base 52 12 v' (l.length + 1) (css.flatten ++ ncells x av)) (ha : IntsOwn w' base av x.args) (haT : ∀ g, av.ownBlock = some g → T ≠ some g) : LNodes w' base T v' (l ++ [x]) := by
  refine ⟨css ++ [ncells x av], by simp [h1], by simpa using ho, fun k y hy => ?_⟩
  rcases Nat.lt_or_ge k l.length with hk | hk
  · rw [List.getElem?_append_left hk] at hy
    obtain ⟨av', q1, q2⟩ := h3 k y hy
    exact ⟨av', by rw [List.getElem?_append_left (by omega)]; exact q1, q2⟩
  · rw [List.getElem?_append_right hk] at hy
    have h0 : k - l.length = 0 := by
      have := (List.getElem?_eq_some_iff.1 hy).1
      simp at this; omega
    rw [h0] at hy
    simp only [List.getElem?_cons_zero, Option.some.injEq] at hy
    subst hy
    exact ⟨av, by rw [List.getElem?_append_right (by omega), h1, h0]; rfl, ha, haT⟩
end
/-- the liner -/
structure LinAt (w : World) (base lp M : Nat) (ga : Addr) (N : Nat) (ov tv : Value) (s : LS) : Prop where
  blk : Blk w lp 72 #[.pointer (some ga), .map (some M), ov, tv]
  map : IMap w M (cardF s.at_ N) s.at_
  out : LNodes w base tv.ownBlock ov s.out
  todo : Tail w base 3 tv (s.todo.map fun i => Value.int .i64 (i : Nat))
  lo : base ≤ lp ∧ base ≤ M
section
variable {w w' : World} {base lp M N : Nat} {ga : Addr} {ov tv : Value} {s : LS}
theorem LinAt.below (h : LinAt w base lp M ga N ov tv s) (hb : Below w.heap.size w w') : LinAt w' base lp M ga N ov tv s :=
  ⟨h.blk.below hb h.blk.lt, h.map.below hb h.map.lt, h.out.kept (only_of_below hb none) (Other.none_ _ _) (.inl (Other.none_ _ _)), Other.tail_keep (Other.none_ _ _) h.todo (only_of_below hb none), h.lo⟩
/-- a store far from all of it -/
theorem LinAt.far (h : LinAt w base lp M ga N ov tv s) {p : Addr} (hp1 : lp ≠ p.block) {t : TypeId} {cs : Array Value} (hP : Blk w p.block t cs) (hov : ov.ownBlock ≠ some p.block) (ht : t ≠ 3) (u : Value) : LinAt (w.setCell p u) base lp M ga N ov tv s := by
  have hg := grown_setCell w p u
  have hi : Other w 3 (some p.block) := Other.blk hP ht
  refine ⟨h.blk.far hp1 u, h.map.set (h.map.ne_blk hP) u, ?_, hi.tail_keep h.todo hg, h.lo⟩
  obtain ⟨css, h1, h2, h3⟩ := h.out
  refine ⟨css, h1, h2.kept hg (.inr hov), fun k x hx => ?_⟩
  obtain ⟨av, q1, q2, q3⟩ := h3 k x hx
  exact ⟨av, q1, hi.own_keep q2 hg, q3⟩
/-- a node is put into the map -/
theorem LinAt.put (h : LinAt w base lp M ga N ov tv s) {i k : Nat} (hi : s.at_ i = none) (hN : i < N) (hm : IMap w' M (cardF s.at_ N + 1) (upd s.at_ i k)) (hg : w.grownBy w' (some M)) : LinAt w' base lp M ga N ov tv ⟨upd s.at_ i k, s.out, s.todo⟩ :=
  ⟨h.blk.grown hg (fun e => h.map.ne_blk h.blk (Option.some.inj e).symm), (cardF_upd hi hN).symm ▸ hm, h.out.kept hg (Other.map h.map _) (.inl (Other.map h.map _)), Other.tail_keep (Other.map h.map _) h.todo hg, h.lo⟩
/-- a node is laid at the end of the line -/
theorem LinAt.push (h : LinAt w base lp M ga N ov tv s) {v' : Value} {x : NodeD} {av : Value} {css : List (List Value)} (h1 : css.length = s.out.length) (ho0 : w.ownsRow base 52 12 ov s.out.length css.flatten)
    (h3 : ∀ (k : Nat) x, s.out[k]? = some x → ∃ av, css[k]? = some (ncells x av) ∧ IntsOwn w base av x.args ∧ ∀ g, av.ownBlock = some g → tv.ownBlock ≠ some g)
    (ha : IntsOwn w base av x.args) (haT : ∀ g, av.ownBlock = some g → tv.ownBlock ≠ some g)
    (ho : w'.ownsRow base 52 12 v' (s.out.length + 1) (css.flatten ++ ncells x av)) (hg : w.grownBy w' ov.ownBlock) :
    LinAt (w'.setCell ⟨lp, 2, none⟩ v') base lp M ga N v' tv ⟨s.at_, s.out ++ [x], s.todo⟩ := by
  have hL1 := h.blk.grown hg (fun e => own_blk_ne ho0 h.blk (by decide) e.symm)
  have hM1 := h.map.kept hg (h.map.ne_row ho0)
  have hgs := grown_setCell w' ⟨lp, 2, none⟩ v'
  have hi : Other w 3 ov.ownBlock := Other.own ho0 (by decide)
  have hi2 : Other w' 3 (some lp) := Other.blk hL1 (by decide)
  have hn2 : Other w' 52 (some lp) := Other.blk hL1 (by decide)
  refine ⟨by have := hL1.set_ 2 v'; simpa using this, hM1.set (hM1.ne_blk hL1) v', ?_, hi2.tail_keep (hi.tail_keep h.todo hg) hgs, h.lo⟩
  have hl : LNodes w' base tv.ownBlock v' (s.out ++ [x]) := LNodes.snoc h1 (fun k y hy => by
    obtain ⟨av', q1, q2, q3⟩ := h3 k y hy
    exact ⟨av', q1, hi.own_keep q2 hg, q3⟩) ho (hi.own_keep ha hg) haT
  exact hl.kept hgs hn2 (.inl hi2)
/-- one more is to be done -/
theorem LinAt.more (h : LinAt w base lp M ga N ov tv s) {v' : Value} {i : Nat} (hn : Tail w' base 3 v' (s.todo.map (fun i => Value.int .i64 (i : Nat)) ++ [.int .i64 (i : Nat)])) (hg : w.grownBy w' tv.ownBlock) (hat : v'.ownBlock = tv.ownBlock ∨ v'.ownBlock = some w.heap.size) :
    LinAt (w'.setCell ⟨lp, 3, none⟩ v') base lp M ga N ov v' ⟨s.at_, s.out, s.todo ++ [i]⟩ := by
  obtain ⟨gt, hgt, _, hgl⟩ := h.todo.block
  have hnN : Other w 52 tv.ownBlock := Other.tail h.todo (by decide)
  have hneL : some lp ≠ tv.ownBlock := fun e => by
    have ho := Other.tail (e := 72) h.todo (by decide)
    rcases ho lp e.symm with h1 | h1
    · have := h.blk.lt; omega
    · exact h1 _ h.blk
  have hneM : some M ≠ tv.ownBlock := fun e => by
    obtain ⟨dead, g, k, n, c, C, rfl, h2, _⟩ := h.todo
    exact h.map.ne_row h2 e
  have hL1 := h.blk.grown hg hneL
  have hM1 := h.map.kept hg hneM
  have hgs := grown_setCell w' ⟨lp, 3, none⟩ v'
  have hi2 : Other w' 3 (some lp) := Other.blk hL1 (by decide)
  have hn2 : Other w' 52 (some lp) := Other.blk hL1 (by decide)
  refine ⟨by have := hL1.set_ 3 v'; simpa using this, hM1.set (hM1.ne_blk hL1) v', ?_, by rw [List.map_append]; exact hi2.tail_keep hn hgs, h.lo⟩
  have hl1 : LNodes w' base v'.ownBlock ov s.out := by
    obtain ⟨css, h1, h2, h3⟩ := h.out
    refine ⟨css, h1, hnN.own_keep h2 hg, fun k x hx => ?_⟩
    obtain ⟨av, q1, q2, q3⟩ := h3 k x hx
    refine ⟨av, q1, ints_keep q2 q3 hg (.inr rfl), fun g hg' => ?_⟩
    rcases hat with e' | e'
    · rw [e']; exact q3 g hg'
    · rw [e']
      intro e
      injection e with e
      have := (q2.lt g hg').2
      omega
  exact hl1.kept hgs hn2 (.inl hi2)
end
end Go.Proofs.Ytncpehhfjkncoaa
