/- Graphs whose rows a call has made, each its own. No condition. Lemmas on rows of nodes that a call makes, each turned to a row of its own. No condition. Walks of slices.Clone at numbers, kinds and nodes. Conditions: the list lies in memory, within the reach. The liner's state as it lies in memory, and what a change leaves of it. No condition. -/
import Derived.Test.YtncpehhfjkncoaaPlAI
import Derived.Test.YtncpehhfjkncoaaPlAJ
import Derived.Test.YtncpehhfjkncoaaPlAA
import Derived.WalkSpells
import Derived.Test.YtncpehhfjkncoaaPlAH
set_option linter.unusedVariables false
set_option linter.unusedSimpArgs false
set_option maxRecDepth 100000
set_option maxHeartbeats 16000000
namespace Go.Proofs.Ytncpehhfjkncoaa
open Go.RowKit

theorem infoKindr : (Try.prog.info? 79).map (fun i => (i.zero, i.size, i.bytes)) = some (some (.int .u8 0), 1, 1) := by kernel_rfl
theorem infoNode : (Try.prog.info? 52).map (fun i => (i.zero, i.size, i.bytes)) = some (some (.agg #[.int .u8 0, .int .u8 0, .int .i64 0, .int .i64 0, .int .i64 0, .int .i64 0, .int .i64 0, .int .i64 0, .int .u64 0, .slice none 0 0, .int .i64 0, .int .i64 0]), 12, 104) := by kernel_rfl
theorem infoGraph : (Try.prog.info? 48).map (fun i => (i.zero, i.size, i.bytes)) = some (some (.agg #[.slice none 0 0, .slice none 0 0, .int .i64 0, .slice none 0 0, .bool false, .int .i64 0, .slice none 0 0, .int .i64 0]), 8, 128) := by kernel_rfl
/-- numbers in a row of the call's own -/
abbrev IntsOwn (w : World) (base : Nat) (v : Value) (l : List Int) : Prop := w.ownsRow base 3 1 v l.length (l.map (Value.int .i64))
abbrev KindsOwn (w : World) (base : Nat) (v : Value) (l : List Int) : Prop := w.ownsRow base 79 1 v l.length (l.map (Value.int .u8))
/-- nodes in a row of the call's own; the first so many have rows of their own -/
def NodesMid (w : World) (base B i : Nat) (v : Value) (l : List NodeD) : Prop :=
 ∃ css : List (List Value), css.length = l.length /\ w.ownsRow base 52 12 v l.length css.flatten /\ ∀ (k : Nat) x, l[k]? = some x -> ∃ av, css[k]? = some (ncells x av) /\ (k < i -> IntsOwn w base av x.args) /\ (i <= k -> NumsAt .i64 w B av x.args)
def NodesOwn (w : World) (base : Nat) (v : Value) (l : List NodeD) : Prop :=
 ∃ css : List (List Value), css.length = l.length /\ w.ownsRow base 52 12 v l.length css.flatten /\ ∀ (k : Nat) x, l[k]? = some x -> ∃ av, css[k]? = some (ncells x av) /\ IntsOwn w base av x.args
def GraphOwn (w : World) (base : Nat) (cs : List Value) (g : GraphD) : Prop :=
 ∃ pv kv iv nv, cs = gcells g pv kv iv nv /\ IntsOwn w base pv g.params /\ KindsOwn w base kv g.kinds /\ IntsOwn w base iv g.init /\ NodesOwn w base nv g.nodes
def GsOwn (w : World) (base : Nat) (css : List (List Value)) (gs : List GraphD) : Prop :=
 css.length = gs.length /\ ∀ (i : Nat) g, gs[i]? = some g -> ∃ cs, css[i]? = some cs /\ GraphOwn w base cs g
section
variable {w w' : World} {base B i : Nat} {v : Value} {row : Option Nat}
/-- what a change may touch: new blocks, or one that is of another type -/
def Far (w : World) (row : Option Nat) : Prop := ∀ g, row = some g -> w.heap.size <= g ∨ ∃ t cs, Blk w g t cs /\ t ≠ 3 /\ t ≠ 79 /\ t ≠ 52
theorem Far.none_ (w : World) : Far w none := nofun
theorem Far.blk {g : Nat} {t : TypeId} {cs : Array Value} (h : Blk w g t cs) (h1 : t ≠ 3) (h2 : t ≠ 79) (h3 : t ≠ 52) : Far w (some g) := fun k e => by
 injection e with e; subst e; exact .inr ⟨t, cs, h, h1, h2, h3⟩
theorem IntsOwn.kept {l : List Int} (h : IntsOwn w base v l) (hg : w.grownBy w' row) (hr : Far w row) : IntsOwn w' base v l :=
 own_kept' h hg fun g e => (hr g e).imp id fun ⟨t, cs, a, b, _⟩ => ⟨t, cs, a, b⟩
theorem KindsOwn.kept {l : List Int} (h : KindsOwn w base v l) (hg : w.grownBy w' row) (hr : Far w row) : KindsOwn w' base v l :=
 own_kept' h hg fun g e => (hr g e).imp id fun ⟨t, cs, a, _, b, _⟩ => ⟨t, cs, a, b⟩
theorem NodesOwn.kept {l : List NodeD} (h : NodesOwn w base v l) (hg : w.grownBy w' row) (hr : Far w row) : NodesOwn w' base v l := by
 obtain ⟨css, h1, h2, h3⟩ := h;refine ⟨css, h1, own_kept' h2 hg fun g e => (hr g e).imp id fun ⟨t, cs, a, _, _, b⟩ => ⟨t, cs, a, b⟩, fun k x hx => ?_⟩;obtain ⟨av, q1, q2⟩ := h3 k x hx;exact ⟨av, q1, IntsOwn.kept q2 hg hr⟩
theorem GraphOwn.kept {cs : List Value} {g : GraphD} (h : GraphOwn w base cs g) (hg : w.grownBy w' row) (hr : Far w row) : GraphOwn w' base cs g := by
 obtain ⟨pv, kv, iv, nv, h1, h2, h3, h4, h5⟩ := h;exact ⟨pv, kv, iv, nv, h1, IntsOwn.kept h2 hg hr, KindsOwn.kept h3 hg hr, IntsOwn.kept h4 hg hr, NodesOwn.kept h5 hg hr⟩
theorem GsOwn.kept {css : List (List Value)} {gs : List GraphD} (h : GsOwn w base css gs) (hg : w.grownBy w' row) (hr : Far w row) : GsOwn w' base css gs :=
 ⟨h.1, fun i g hi => by
  obtain ⟨cs, h1, h2⟩ := h.2 i g hi
  exact ⟨cs, h1, h2.kept hg hr⟩⟩
theorem GsOwn.nil (w : World) (base : Nat) : GsOwn w base [] [] := ⟨rfl, by intro i f hf; simp at hf⟩
theorem GsOwn.snoc {css : List (List Value)} {gs : List GraphD} {cs : List Value} {g : GraphD} (h : GsOwn w base css gs) (hc : GraphOwn w base cs g) : GsOwn w base (css ++ [cs]) (gs ++ [g]) := by
 refine ⟨by simp [h.1], fun i f hf => ?_⟩
 rcases Nat.lt_or_ge i gs.length with hi | hi
 ·rw [List.getElem?_append_left hi] at hf;obtain ⟨cs', k1, k2⟩ := h.2 i f hf;exact ⟨cs', by rw [List.getElem?_append_left (by rw [h.1]; exact hi)]; exact k1, k2⟩
 ·rw [List.getElem?_append_right hi] at hf
  have h0 : i - gs.length = 0 := by
   have := (List.getElem?_eq_some_iff.1 hf).1;simp at this; omega
  rw [h0] at hf;simp only [List.getElem?_cons_zero, Option.some.injEq] at hf;subst hf;exact ⟨cs, by rw [List.getElem?_append_right (by rw [h.1]; exact hi), h.1, h0]; rfl, hc⟩
theorem IntsOwn.nums {l : List Int} (h : IntsOwn w base v l) : NumsAt .i64 w w.heap.size v l := by
 obtain ⟨A, c, rfl, h1, h2, h3⟩ := own_any h;exact ⟨A, _, c, rfl, h1, h2, rfl, h3⟩
theorem KindsOwn.nums {l : List Int} (h : KindsOwn w base v l) : NumsAt .u8 w w.heap.size v l := by
 obtain ⟨A, c, rfl, h1, h2, h3⟩ := own_any h;exact ⟨A, _, c, rfl, h1, h2, rfl, h3⟩
theorem ncells_len {css : List (List Value)} {l : List NodeD} {P : Nat -> NodeD -> Value -> Prop} (hl : css.length = l.length) (h : ∀ (k : Nat) x, l[k]? = some x -> ∃ av, css[k]? = some (ncells x av) /\ P k x av) : ∀ c ∈ css, c.length = 12 := fun c hc => by
 obtain ⟨k, hk, rfl⟩ := List.getElem_of_mem hc;obtain ⟨av, q, _⟩ := h k l[k] (List.getElem?_eq_getElem (by omega));rw [List.getElem?_eq_getElem hk] at q;injection q with q;rw [q]; rfl
theorem NodesOwn.at_ {l : List NodeD} (h : NodesOwn w base v l) : RowsAt 12 NodeAt w w.heap.size v l := by
 obtain ⟨css, h1, h2, h3⟩ := h;obtain ⟨A, c, rfl, k1, k2, k3⟩ := own_any h2;refine ⟨A, _, c, css, rfl, k1, k2, rfl, h1, ncells_len h1 h3, k3, fun i x hx => ?_⟩;obtain ⟨av, q1, q2⟩ := h3 i x hx;exact ⟨_, q1, av, rfl, IntsOwn.nums q2⟩
theorem GraphOwn.at_ {cs : List Value} {g : GraphD} (h : GraphOwn w base cs g) : GraphAt w w.heap.size cs g := by
 obtain ⟨pv, kv, iv, nv, h1, h2, h3, h4, h5⟩ := h;exact ⟨pv, kv, iv, nv, h1, IntsOwn.nums h2, KindsOwn.nums h3, IntsOwn.nums h4, h5.at_⟩
theorem GraphOwn.len {cs : List Value} {g : GraphD} (h : GraphOwn w base cs g) : cs.length = 8 := by
 obtain ⟨pv, kv, iv, nv, rfl, _⟩ := h
 rfl
theorem GsOwn.len {css : List (List Value)} {gs : List GraphD} (h : GsOwn w base css gs) : ∀ c ∈ css, c.length = 8 := fun c hc => by
 obtain ⟨k, hk, rfl⟩ := List.getElem_of_mem hc
 have hk' : k < gs.length := by rw [<- h.1]; exact hk
 obtain ⟨cs, q1, q2⟩ := h.2 k gs[k] (List.getElem?_eq_getElem hk');rw [List.getElem?_eq_getElem hk] at q1;injection q1 with q1;rw [q1]; exact q2.len
theorem GsOwn.at_ {css : List (List Value)} {gs : List GraphD} {base' : Nat} {e : TypeId} (h : GsOwn w base css gs) (ho : w.ownsRow base' e 8 v gs.length css.flatten) : GraphsAt w w.heap.size v gs := by
 obtain ⟨A, c, rfl, h1, h2, h3⟩ := own_any ho
 exact ⟨A, _, c, css, rfl, h1, h2, rfl, h.1, h.len, h3, fun i f hf => by
  obtain ⟨cs, k1, k2⟩ := h.2 i f hf
  exact ⟨cs, k1, k2.at_⟩⟩
end
/-- within the reach -/
structure GsSmall (gs : List GraphD) : Prop where
 each : ∀ g ∈ gs, g.params.length * 8 <= 140737488351232 /\ g.kinds.length <= 140737488351232 /\ g.init.length * 8 <= 140737488351232 /\ g.nodes.length * 104 <= 140737488351232 /\ ∀ x ∈ g.nodes, x.args.length * 8 <= 140737488351232
 len : gs.length * 128 <= 140737488351232
/-- what a copy leaves -/
def CopyPost (gs : List GraphD) (w : World) (e : Ending) (w' : World) : Prop :=
 Below w.heap.size w w' /\ ∃ pv css, e = .returned (.agg #[pv]) /\ w'.ownsRow w.heap.size 48 8 pv gs.length css.flatten /\ GsOwn w' w.heap.size css gs
/-- what stands when so many graphs are copied -/
def CopyRel (w : World) (T U : Nat) (gs : List GraphD) (j : Nat) (wr : World) : Prop :=
 ∃ (css : List (List Value)) (pv : Value), wr.ownsRow w.heap.size 48 8 pv j css.flatten /\ GsOwn wr w.heap.size css (gs.take j) /\ Blk wr T 24 #[pv] /\ Blk wr U 24 #[.slice none 0 0] /\ Below w.heap.size w wr
/-- a node's row turned: its arguments' cell -/
theorem flatten_set12 : ∀ (css : List (List Value)) (k : Nat) (x : NodeD) (av u : Value), (∀ c ∈ css, c.length = 12) -> css[k]? = some (ncells x av) -> (css.flatten).set (k * 12 + 9) u = (css.set k (ncells x u)).flatten
 | [], k, x, av, u, _, h => by simp at h
 | c :: r, 0, x, av, u, hl, h => by
  simp at h; subst h;rw [List.set_cons_zero, List.flatten_cons, List.flatten_cons, Nat.zero_mul, Nat.zero_add];rw [List.set_append_left _ _ (by simp [ncells])]
  rfl
 | c :: r, k + 1, x, av, u, hl, h => by
  have hc := hl c List.mem_cons_self;have ih := flatten_set12 r k x av u (fun d hd => hl d (List.mem_cons_of_mem _ hd)) (by simpa using h);rw [List.set_cons_succ, List.flatten_cons, List.flatten_cons, <- ih];rw [List.set_append_right _ _ (by rw [hc]; omega)]
  congr 2
  rw [hc]; omega
end Go.Proofs.Ytncpehhfjkncoaa
namespace Go.Proofs.Ytncpehhfjkncoaa
open Go.RowKit

theorem own_set_at {w : World} {M size n g j c : Nat} {e : TypeId} {u : Value} {xs : List Value} (h : w.ownsRow M e size (.slice (some ⟨g, 0, none⟩) n c) n xs) (hj : j < n * size) : (w.setCell ⟨g, j, none⟩ u).ownsRow M e size (.slice (some ⟨g, 0, none⟩) n c) n (xs.set j u) := by
 rcases h.2 with ⟨h0, _⟩ | ⟨g', cap, cur, hv, hb, hh, h1, h2, h3, h4⟩
 ·cases h0
 ·injection hv with hv1 _ hv3;injection hv1 with hv1;injection hv1 with hv1;subst hv1 hv3;have hset : (w.setCell ⟨g, j, none⟩ u).heap[g]? = some (.cells (cur.setIfInBounds j u) e (0, 0)) := Blk.set_ (show Blk w g e cur from hh) j u;refine ⟨by rw [List.length_set]; exact h.1, .inr ⟨g, c, _, rfl, hb, hset, h1, h2, by simpa using h3, ?_⟩⟩;rw [Array.toList_setIfInBounds, <- h4, List.take_set]
theorem NodesMid.start {w : World} {base B : Nat} {v v0 : Value} {l : List NodeD} {n : Nat} {css : List (List Value)} (hn : l.length = n) (hc : css.length = n) (ho : w.ownsRow base 52 12 v n css.flatten) (h : ∀ (i : Nat) x, l[i]? = some x -> ∃ cs, css[i]? = some cs /\ NodeAt w B cs x) : NodesMid w base B 0 v l := by
 subst hn;refine ⟨css, hc, ho, fun k x hx => ?_⟩;obtain ⟨cs, q1, av, rfl, q2⟩ := h k x hx;exact ⟨av, q1, fun h => absurd h (by omega), fun _ => q2⟩
theorem NodesMid.kept {w w' : World} {base B i : Nat} {v : Value} {l : List NodeD} {row : Option Nat} (h : NodesMid w base B i v l) (hg : w.grownBy w' row) (hr : Far w row) (hB : B <= w.heap.size) (hrB : ∀ g, row = some g -> B <= g) : NodesMid w' base B i v l := by
 obtain ⟨css, h1, h2, h3⟩ := h;refine ⟨css, h1, own_kept' h2 hg fun g e => (hr g e).imp id fun ⟨t, cs, a, _, _, b⟩ => ⟨t, cs, a, b⟩, fun k x hx => ?_⟩;obtain ⟨av, q1, q2, q3⟩ := h3 k x hx;refine ⟨av, q1, fun hk => IntsOwn.kept (q2 hk) hg hr, fun hk => ?_⟩;obtain ⟨A, n, c, r1, r2, r3, r4, r5⟩ := q3 hk;exact ⟨A, n, c, r1, r2, r3, r4, r5.grown hg hB hrB⟩
theorem nums_one (k : IntKind) (l : List Int) : ∀ u ∈ l.map (Value.int k), u.oneCell' = true := by
 intro u hu;obtain ⟨z, _, rfl⟩ := List.mem_map.1 hu
 rfl
theorem IntsOwn.far {w : World} {base g j : Nat} {v u : Value} {l : List Int} {t : TypeId} {cs : Array Value} (h : IntsOwn w base v l) (hg : Blk w g t cs) (ht : 3 ≠ t) : IntsOwn (w.setCell ⟨g, j, none⟩ u) base v l := ownsRow_setCell_other h (a := ⟨g, j, none⟩) (own_blk_ne h hg ht) u
theorem KindsOwn.far {w : World} {base g j : Nat} {v u : Value} {l : List Int} {t : TypeId} {cs : Array Value} (h : KindsOwn w base v l) (hg : Blk w g t cs) (ht : 79 ≠ t) : KindsOwn (w.setCell ⟨g, j, none⟩ u) base v l := ownsRow_setCell_other h (a := ⟨g, j, none⟩) (own_blk_ne h hg ht) u
theorem NodesMid.step {w : World} {base B k n g c : Nat} {u : Value} {l : List NodeD} {x : NodeD} (h : NodesMid w base B k (.slice (some ⟨g, 0, none⟩) n c) l) (hB : B <= base) (hx : l[k]? = some x) (hn : l.length = n) (ho : IntsOwn w base u x.args) :
  NodesMid (w.setCell ⟨g, k * 12 + 9, none⟩ u) base B (k + 1) (.slice (some ⟨g, 0, none⟩) n c) l := by
 obtain ⟨css, h1, h2, h3⟩ := h;have hk : k < l.length := (List.getElem?_eq_some_iff.1 hx).1;subst hn
 have hg : base <= g := by
  obtain ⟨g', cap, e, hb, _⟩ := own_form h2 (by omega);injection e with e;injection e with e;injection e with e
  omega
 obtain ⟨cs, hbk⟩ := own_blk h2 rfl
 have hl12 := ncells_len (P := fun _ _ _ => True) h1 fun i y hy => (h3 i y hy).imp fun a b => ⟨b.1, trivial⟩
 obtain ⟨av, q1, _, _⟩ := h3 k x hx;have hset := own_set_at (u := u) h2 (j := k * 12 + 9) (by omega);rw [flatten_set12 css k x av u hl12 q1] at hset;refine ⟨css.set k (ncells x u), by rw [List.length_set]; exact h1, hset, fun i y hy => ?_⟩
 by_cases hik : i = k
 ·subst hik;rw [hx] at hy;injection hy with hy;subst hy;refine ⟨u, by rw [List.getElem?_set_self (by omega)], fun _ => IntsOwn.far ho hbk (by decide), fun h => absurd h (by omega)⟩
 ·obtain ⟨av', r1, r2, r3⟩ := h3 i y hy;refine ⟨av', by rw [List.getElem?_set_ne (Ne.symm hik)]; exact r1, fun h => ?_, fun h => ?_⟩
  ·have h4 := r2 (by omega);exact IntsOwn.far h4 hbk (by decide)
  ·obtain ⟨A, n, c', a1, a2, a3, a4, a5⟩ := r3 (by omega);exact ⟨A, n, c', a1, a2, a3, a4, a5.setCell (by simp only; omega) _⟩
theorem IntsOwn.base {w : World} {base base' : Nat} {v : Value} {l : List Int} (h : IntsOwn w base v l) (hb : base' <= base) : IntsOwn w base' v l := own_base h hb
theorem NodesOwn.base {w : World} {base base' : Nat} {v : Value} {l : List NodeD} (h : NodesOwn w base v l) (hb : base' <= base) : NodesOwn w base' v l := by
 obtain ⟨css, h1, h2, h3⟩ := h;refine ⟨css, h1, own_base h2 hb, fun k x hx => ?_⟩;obtain ⟨av, q1, q2⟩ := h3 k x hx;exact ⟨av, q1, own_base q2 hb⟩
theorem GraphOwn.base {w : World} {base base' : Nat} {cs : List Value} {g : GraphD} (h : GraphOwn w base cs g) (hb : base' <= base) : GraphOwn w base' cs g := by
 obtain ⟨pv, kv, iv, nv, h1, h2, h3, h4, h5⟩ := h;exact ⟨pv, kv, iv, nv, h1, own_base h2 hb, own_base h3 hb, own_base h4 hb, h5.base hb⟩

end Go.Proofs.Ytncpehhfjkncoaa
namespace Go.Proofs.Ytncpehhfjkncoaa
open Go.RowKit

theorem clone_ints (A : Option Addr) (n c : Nat) (xs : List Value) (w : World) (B : Nat) (hr : Reads w B 1 A n xs) (hone : ∀ u ∈ xs, u.oneCell' = true) (hnc : n <= c) (hc : c <= maxLen) (hB : B <= w.heap.size) (hs : n * 8 <= 140737488351232) :
  Calls Try.prog 23 #[.slice A n c] w fun e w' => Below w.heap.size w w' /\ ∃ V x, e = .returned (.slice V n x) /\ w'.ownsRow w.heap.size 3 1 (.slice V n x) n xs := by
 obtain ⟨i0, hi0, hz0, hz1, hz2⟩ := info_parts infoIntr;unfold maxLen at hc
 rcases A with _ | ad
 ·have hn : n = 0 := by
   rcases Nat.eq_zero_or_pos n with h0 | h0
   ·exact h0
   ·obtain ⟨ad, h, _⟩ := hr.2 h0; cases h
  subst hn;have hx : xs = [] := List.eq_nil_of_length_eq_zero (by simpa using hr.1);subst hx;clear hr hone
  have hq := fun W : World => (Lib.run_eql_slice_nil (P := Try.prog) W 45 _ none 0 c 0 0 Try.underlying45)
  go_enter Try.func23, Try.ntmps23;go_wp2_with fail;go_ret;exact ⟨Below.refl _ _, _, _, rfl, World.ownsRow_nil _ _ _ _⟩
 ·have hE := own_lit0 w 3 1;have hSrc := hr.alloc hB (.cells #[] 3);obtain ⟨Hr, HE, HSrc, Hone⟩ := hd4 hr hE hSrc hone;clear hone hSrc hE hr
  have hq := fun W : World => (Lib.run_eql_slice_nil (P := Try.prog) W 45 _ (some ad) n c 0 0 Try.underlying45)
  go_enter Try.func23, Try.ntmps23
  go_wp2_with (first
   | (at_builtin
      refine wpList_append_any _ rfl (.tmp 5) (.tmp 6) _ rfl w.heap.size 3 i0 _ 1 8 Try.underlying45 hi0 hz0 hz1 hz2 rfl (by omega) (.slice (some ⟨w.heap.size, 0, none⟩) 0 0) 0 [] rfl HE.out B (some ad) n c xs rfl HSrc.out ?c1 ?c2 ?c3 ?c4 ?_
      case c1 => exact Hone.out
      case c2 => unfold maxLen; omega
      case c3 => omega
      case c4 => simp
      intro v5 w5 hown5 hg5 hat5))
  have hO5 := own_app (ys := xs) hown5 rfl;obtain ⟨V, x, rfl, _⟩ := own_any hO5;have hb5 : Below w.heap.size w w5 := ((Below.refl _ _).alloc (Nat.le_refl _) _).grown hg5 (by simp) (fun k e => by injection e with e; simp only at e; omega);obtain ⟨Hown5, HO5, Hg5, Hat5, Hb5⟩ := hd5 hown5 hO5 hg5 hat5 hb5;clear hb5 hat5 hg5 hO5 hown5;go_ret;exact ⟨Hb5.out, V, x, rfl, HO5.out⟩
theorem clone_kinds (A : Option Addr) (n c : Nat) (xs : List Value) (w : World) (B : Nat) (hr : Reads w B 1 A n xs) (hone : ∀ u ∈ xs, u.oneCell' = true) (hnc : n <= c) (hc : c <= maxLen) (hB : B <= w.heap.size) (hs : n * 1 <= 140737488351232) :
  Calls Try.prog 24 #[.slice A n c] w fun e w' => Below w.heap.size w w' /\ ∃ V x, e = .returned (.slice V n x) /\ w'.ownsRow w.heap.size 79 1 (.slice V n x) n xs := by
 obtain ⟨i0, hi0, hz0, hz1, hz2⟩ := info_parts infoKindr;unfold maxLen at hc
 rcases A with _ | ad
 ·have hn : n = 0 := by
   rcases Nat.eq_zero_or_pos n with h0 | h0
   ·exact h0
   ·obtain ⟨ad, h, _⟩ := hr.2 h0; cases h
  subst hn;have hx : xs = [] := List.eq_nil_of_length_eq_zero (by simpa using hr.1);subst hx;clear hr hone
  have hq := fun W : World => (Lib.run_eql_slice_nil (P := Try.prog) W 44 _ none 0 c 0 0 Try.underlying44)
  go_enter Try.func24, Try.ntmps24;go_wp2_with fail;go_ret;exact ⟨Below.refl _ _, _, _, rfl, World.ownsRow_nil _ _ _ _⟩
 ·have hE := own_lit0 w 79 1;have hSrc := hr.alloc hB (.cells #[] 79);obtain ⟨Hr, HE, HSrc, Hone⟩ := hd4 hr hE hSrc hone;clear hone hSrc hE hr
  have hq := fun W : World => (Lib.run_eql_slice_nil (P := Try.prog) W 44 _ (some ad) n c 0 0 Try.underlying44)
  go_enter Try.func24, Try.ntmps24
  go_wp2_with (first
   | (at_builtin
      refine wpList_append_any _ rfl (.tmp 5) (.tmp 6) _ rfl w.heap.size 79 i0 _ 1 1 Try.underlying44 hi0 hz0 hz1 hz2 rfl (by omega) (.slice (some ⟨w.heap.size, 0, none⟩) 0 0) 0 [] rfl HE.out B (some ad) n c xs rfl HSrc.out ?c1 ?c2 ?c3 ?c4 ?_
      case c1 => exact Hone.out
      case c2 => unfold maxLen; omega
      case c3 => omega
      case c4 => simp
      intro v5 w5 hown5 hg5 hat5))
  have hO5 := own_app (ys := xs) hown5 rfl;obtain ⟨V, x, rfl, _⟩ := own_any hO5;have hb5 : Below w.heap.size w w5 := ((Below.refl _ _).alloc (Nat.le_refl _) _).grown hg5 (by simp) (fun k e => by injection e with e; simp only at e; omega);obtain ⟨Hown5, HO5, Hg5, Hat5, Hb5⟩ := hd5 hown5 hO5 hg5 hat5 hb5;clear hb5 hat5 hg5 hO5 hown5;go_ret;exact ⟨Hb5.out, V, x, rfl, HO5.out⟩
end Go.Proofs.Ytncpehhfjkncoaa
namespace Go.Proofs.Ytncpehhfjkncoaa
open Go.RowKit

/-- a change that touches no row of type e -/
def Other (w : World) (e : TypeId) (row : Option Nat) : Prop := ∀ g, row = some g -> w.heap.size <= g ∨ ∀ cs, w.heap[g]? ≠ some (.cells cs e (0, 0))
section
variable {w w' : World} {base n size : Nat} {e e' : TypeId} {v : Value} {xs : List Value} {row : Option Nat}
theorem Other.none_ (w : World) (e : TypeId) : Other w e none := nofun
theorem Other.blk {g : Nat} {t : TypeId} {cs : Array Value} (h : Blk w g t cs) (hne : t ≠ e) : Other w e (some g) := fun k hk => by
 injection hk with hk;subst hk
 refine .inr fun cs' h' => ?_
 unfold Blk at h;rw [h] at h';injection h' with h';injection h' with _ h';exact hne h'
theorem Other.map {b m : Nat} {f : Nat -> Option Nat} (h : IMap w b m f) (e : TypeId) : Other w e (some b) := fun k hk => by
 injection hk with hk;subst hk
 exact .inr fun cs' h' => h.ne_blk (show Blk w b e cs' from h') rfl
theorem own_type (h : w.ownsRow base e size v n xs) {g : Nat} (hg : v.ownBlock = some g) : ∃ cur, w.heap[g]? = some (.cells cur e (0, 0)) := by
 rcases h.2 with ⟨rfl, _⟩ | ⟨g', cap, cur, rfl, _, hh, _⟩
 ·cases hg
 ·have : g' = g := by simpa [Value.ownBlock] using hg
  subst this;exact ⟨cur, hh⟩
theorem Other.own (h : w.ownsRow base e' size v n xs) (hne : e' ≠ e) : Other w e v.ownBlock := fun g hg => by
 obtain ⟨cur, hh⟩ := own_type h hg
 refine .inr fun cs' h' => ?_
 rw [hh] at h';injection h' with h';injection h' with _ h';exact hne h'
theorem Other.tail (h : Tail w base e' v xs) (hne : e' ≠ e) : Other w e v.ownBlock := by
 obtain ⟨dead, g, k, n, c, C, rfl, h, _⟩ := h
 exact fun j hj => Other.own h hne j hj
theorem Other.ne (ho : Other w e row) (h : w.ownsRow base e size v n xs) : v.ownBlock = none ∨ v.ownBlock ≠ row := by
 rcases hv : v.ownBlock with _ | g
 ·exact .inl rfl
 ·refine .inr fun hr => ?_
  obtain ⟨cur, hh⟩ := own_type h hv
  rcases ho g hr.symm with h1 | h1
  ·have := (h.lt g hv).2; omega
  ·exact h1 cur hh
theorem Other.own_keep (ho : Other w e row) (h : w.ownsRow base e size v n xs) (hg : w.grownBy w' row) : w'.ownsRow base e size v n xs := h.kept hg (ho.ne h)
theorem Other.tail_keep (ho : Other w e row) (h : Tail w base e v xs) (hg : w.grownBy w' row) : Tail w' base e v xs := by
 have h' := h;obtain ⟨dead, g, k, n, c, C, rfl, h2, _⟩ := h';refine h.kept hg ?_
 rcases ho.ne h2 with h3 | h3
 ·cases h3
 ·exact h3
end
/-- nodes in a row of the call's own, their arguments' rows apart from block T -/
def LNodes (w : World) (base : Nat) (T : Option Nat) (v : Value) (l : List NodeD) : Prop :=
 ∃ css : List (List Value), css.length = l.length /\ w.ownsRow base 52 12 v l.length css.flatten /\ ∀ (k : Nat) x, l[k]? = some x -> ∃ av, css[k]? = some (ncells x av) /\ IntsOwn w base av x.args /\ ∀ g, av.ownBlock = some g -> T ≠ some g
section
variable {w w' : World} {base : Nat} {T : Option Nat} {v : Value} {l : List NodeD} {row : Option Nat}
theorem LNodes.nil (w : World) (base : Nat) (T : Option Nat) : LNodes w base T (.slice none 0 0) [] := ⟨[], rfl, World.ownsRow_nil _ _ _ _, by intro k x h; simp at h⟩
theorem LNodes.nodes (h : LNodes w base T v l) : NodesOwn w base v l := by
 obtain ⟨css, h1, h2, h3⟩ := h
 exact ⟨css, h1, h2, fun k x hx => by
  obtain ⟨av, q1, q2, _⟩ := h3 k x hx
  exact ⟨av, q1, q2⟩⟩
theorem ints_keep {av : Value} {ys : List Int} (h : IntsOwn w base av ys) (hT : ∀ g, av.ownBlock = some g -> T ≠ some g) (hg : w.grownBy w' row) (hr : Other w 3 row ∨ row = T) : IntsOwn w' base av ys := by
 rcases hr with hr | rfl
 ·exact hr.own_keep h hg
 ·refine World.ownsRow.kept h hg ?_
  rcases hv : av.ownBlock with _ | g
  ·exact .inl rfl
  ·exact .inr fun e => hT g hv e.symm
theorem LNodes.kept (h : LNodes w base T v l) (hg : w.grownBy w' row) (hn : Other w 52 row) (hr : Other w 3 row ∨ row = T) : LNodes w' base T v l := by
 obtain ⟨css, h1, h2, h3⟩ := h;refine ⟨css, h1, hn.own_keep h2 hg, fun k x hx => ?_⟩;obtain ⟨av, q1, q2, q3⟩ := h3 k x hx;exact ⟨av, q1, ints_keep q2 q3 hg hr, q3⟩
theorem LNodes.turn {T' : Option Nat} (h : LNodes w base T v l) (hT : T' = T ∨ ∀ g, T' = some g -> w.heap.size <= g) : LNodes w base T' v l := by
 obtain ⟨css, h1, h2, h3⟩ := h;refine ⟨css, h1, h2, fun k x hx => ?_⟩;obtain ⟨av, q1, q2, q3⟩ := h3 k x hx;refine ⟨av, q1, q2, fun g hg => ?_⟩
 rcases hT with rfl | hT
 ·exact q3 g hg
 ·intro e;have := hT g e;have := (q2.lt g hg).2
  omega
/-- one more is laid at the end -/
theorem LNodes.snoc {v' : Value} {x : NodeD} {av : Value} {css : List (List Value)} (h1 : css.length = l.length) (h3 : ∀ (k : Nat) x, l[k]? = some x -> ∃ av, css[k]? = some (ncells x av) /\ IntsOwn w' base av x.args /\ ∀ g, av.ownBlock = some g -> T ≠ some g)
  (ho : w'.ownsRow base 52 12 v' (l.length + 1) (css.flatten ++ ncells x av)) (ha : IntsOwn w' base av x.args) (haT : ∀ g, av.ownBlock = some g -> T ≠ some g) : LNodes w' base T v' (l ++ [x]) := by
 refine ⟨css ++ [ncells x av], by simp [h1], by simpa using ho, fun k y hy => ?_⟩
 rcases Nat.lt_or_ge k l.length with hk | hk
 ·rw [List.getElem?_append_left hk] at hy;obtain ⟨av', q1, q2⟩ := h3 k y hy;exact ⟨av', by rw [List.getElem?_append_left (by omega)]; exact q1, q2⟩
 ·rw [List.getElem?_append_right hk] at hy
  have h0 : k - l.length = 0 := by
   have := (List.getElem?_eq_some_iff.1 hy).1;simp at this; omega
  rw [h0] at hy;simp only [List.getElem?_cons_zero, Option.some.injEq] at hy;subst hy;exact ⟨av, by rw [List.getElem?_append_right (by omega), h1, h0]; rfl, ha, haT⟩
end
/-- the liner -/
structure LinAt (w : World) (base lp M : Nat) (ga : Addr) (N : Nat) (ov tv : Value) (s : LS) : Prop where
 blk : Blk w lp 72 #[.pointer (some ga), .map (some M), ov, tv]
 map : IMap w M (cardF s.at_ N) s.at_
 out : LNodes w base tv.ownBlock ov s.out
 todo : Tail w base 3 tv (s.todo.map fun i => Value.int .i64 (i : Nat))
 lo : base <= lp /\ base <= M
section
variable {w w' : World} {base lp M N : Nat} {ga : Addr} {ov tv : Value} {s : LS}
theorem LinAt.below (h : LinAt w base lp M ga N ov tv s) (hb : Below w.heap.size w w') : LinAt w' base lp M ga N ov tv s :=
 ⟨h.blk.below hb h.blk.lt, h.map.below hb h.map.lt, h.out.kept (only_of_below hb none) (Other.none_ _ _) (.inl (Other.none_ _ _)), Other.tail_keep (Other.none_ _ _) h.todo (only_of_below hb none), h.lo⟩
/-- a store far from all of it -/
theorem LinAt.far (h : LinAt w base lp M ga N ov tv s) {p : Addr} (hp1 : lp ≠ p.block) {t : TypeId} {cs : Array Value} (hP : Blk w p.block t cs) (hov : ov.ownBlock ≠ some p.block) (ht : t ≠ 3) (u : Value) : LinAt (w.setCell p u) base lp M ga N ov tv s := by
 have hg := grown_setCell w p u;have hi : Other w 3 (some p.block) := Other.blk hP ht;refine ⟨h.blk.far hp1 u, h.map.set (h.map.ne_blk hP) u, ?_, hi.tail_keep h.todo hg, h.lo⟩;obtain ⟨css, h1, h2, h3⟩ := h.out;refine ⟨css, h1, h2.kept hg (.inr hov), fun k x hx => ?_⟩;obtain ⟨av, q1, q2, q3⟩ := h3 k x hx;exact ⟨av, q1, hi.own_keep q2 hg, q3⟩
/-- a node is put into the map -/
theorem LinAt.put (h : LinAt w base lp M ga N ov tv s) {i k : Nat} (hi : s.at_ i = none) (hN : i < N) (hm : IMap w' M (cardF s.at_ N + 1) (upd s.at_ i k)) (hg : w.grownBy w' (some M)) : LinAt w' base lp M ga N ov tv ⟨upd s.at_ i k, s.out, s.todo⟩ :=
 ⟨h.blk.grown hg (fun e => h.map.ne_blk h.blk (Option.some.inj e).symm), (cardF_upd hi hN).symm ▸ hm, h.out.kept hg (Other.map h.map _) (.inl (Other.map h.map _)), Other.tail_keep (Other.map h.map _) h.todo hg, h.lo⟩
/-- a node is laid at the end of the line -/
theorem LinAt.push (h : LinAt w base lp M ga N ov tv s) {v' : Value} {x : NodeD} {av : Value} {css : List (List Value)} (h1 : css.length = s.out.length) (ho0 : w.ownsRow base 52 12 ov s.out.length css.flatten)
  (h3 : ∀ (k : Nat) x, s.out[k]? = some x -> ∃ av, css[k]? = some (ncells x av) /\ IntsOwn w base av x.args /\ ∀ g, av.ownBlock = some g -> tv.ownBlock ≠ some g)
  (ha : IntsOwn w base av x.args) (haT : ∀ g, av.ownBlock = some g -> tv.ownBlock ≠ some g)
  (ho : w'.ownsRow base 52 12 v' (s.out.length + 1) (css.flatten ++ ncells x av)) (hg : w.grownBy w' ov.ownBlock) :
  LinAt (w'.setCell ⟨lp, 2, none⟩ v') base lp M ga N v' tv ⟨s.at_, s.out ++ [x], s.todo⟩ := by
 have hL1 := h.blk.grown hg (fun e => own_blk_ne ho0 h.blk (by decide) e.symm);have hM1 := h.map.kept hg (h.map.ne_row ho0);have hgs := grown_setCell w' ⟨lp, 2, none⟩ v';have hi : Other w 3 ov.ownBlock := Other.own ho0 (by decide);have hi2 : Other w' 3 (some lp) := Other.blk hL1 (by decide);have hn2 : Other w' 52 (some lp) := Other.blk hL1 (by decide);refine ⟨by have := hL1.set_ 2 v'; simpa using this, hM1.set (hM1.ne_blk hL1) v', ?_, hi2.tail_keep (hi.tail_keep h.todo hg) hgs, h.lo⟩
 have hl : LNodes w' base tv.ownBlock v' (s.out ++ [x]) := LNodes.snoc h1 (fun k y hy => by
  obtain ⟨av', q1, q2, q3⟩ := h3 k y hy
  exact ⟨av', q1, hi.own_keep q2 hg, q3⟩) ho (hi.own_keep ha hg) haT
 exact hl.kept hgs hn2 (.inl hi2)
/-- one more is to be done -/
theorem LinAt.more (h : LinAt w base lp M ga N ov tv s) {v' : Value} {i : Nat} (hn : Tail w' base 3 v' (s.todo.map (fun i => Value.int .i64 (i : Nat)) ++ [.int .i64 (i : Nat)])) (hg : w.grownBy w' tv.ownBlock) (hat : v'.ownBlock = tv.ownBlock ∨ v'.ownBlock = some w.heap.size) :
  LinAt (w'.setCell ⟨lp, 3, none⟩ v') base lp M ga N ov v' ⟨s.at_, s.out, s.todo ++ [i]⟩ := by
 obtain ⟨gt, hgt, _, hgl⟩ := h.todo.block;have hnN : Other w 52 tv.ownBlock := Other.tail h.todo (by decide)
 have hneL : some lp ≠ tv.ownBlock := fun e => by
  have ho := Other.tail (e := 72) h.todo (by decide)
  rcases ho lp e.symm with h1 | h1
  ·have := h.blk.lt; omega
  ·exact h1 _ h.blk
 have hneM : some M ≠ tv.ownBlock := fun e => by
  obtain ⟨dead, g, k, n, c, C, rfl, h2, _⟩ := h.todo;exact h.map.ne_row h2 e
 have hL1 := h.blk.grown hg hneL;have hM1 := h.map.kept hg hneM;have hgs := grown_setCell w' ⟨lp, 3, none⟩ v';have hi2 : Other w' 3 (some lp) := Other.blk hL1 (by decide);have hn2 : Other w' 52 (some lp) := Other.blk hL1 (by decide);refine ⟨by have := hL1.set_ 3 v'; simpa using this, hM1.set (hM1.ne_blk hL1) v', ?_, by rw [List.map_append]; exact hi2.tail_keep hn hgs, h.lo⟩
 have hl1 : LNodes w' base v'.ownBlock ov s.out := by
  obtain ⟨css, h1, h2, h3⟩ := h.out;refine ⟨css, h1, hnN.own_keep h2 hg, fun k x hx => ?_⟩;obtain ⟨av, q1, q2, q3⟩ := h3 k x hx;refine ⟨av, q1, ints_keep q2 q3 hg (.inr rfl), fun g hg' => ?_⟩
  rcases hat with e' | e'
  ·rw [e']; exact q3 g hg'
  ·rw [e'];intro e;injection e with e;have := (q2.lt g hg').2
   omega
 exact hl1.kept hgs hn2 (.inl hi2)
end
end Go.Proofs.Ytncpehhfjkncoaa
