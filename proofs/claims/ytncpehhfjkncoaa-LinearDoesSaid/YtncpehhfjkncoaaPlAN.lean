/- Rows of nodes whose ways are overwritten one by one. No condition. -/
import Derived.Test.YtncpehhfjkncoaaPlAM
set_option linter.unusedVariables false
set_option linter.unusedSimpArgs false
set_option maxRecDepth 100000
set_option maxHeartbeats 16000000
namespace Go.Proofs.Ytncpehhfjkncoaa
open Go.RowKit

theorem Below.of_drew {B : Nat} {a w : World} (h : Below B a.drew w) : Below B a w := ⟨h.os, h.tape, h.output, h.size, h.block⟩
theorem flatten_setj {j : Nat} (hj : j < 12) : ∀ (css : List (List Value)) (k : Nat) (cs : List Value) (u : Value), (∀ c ∈ css, c.length = 12) -> css[k]? = some cs -> (css.flatten).set (k * 12 + j) u = (css.set k (cs.set j u)).flatten
 | [], k, cs, u, _, h => by simp at h
 | c :: r, 0, cs, u, hl, h => by
  simp at h; subst h;have hc := hl c List.mem_cons_self;rw [List.set_cons_zero, List.flatten_cons, List.flatten_cons, Nat.zero_mul, Nat.zero_add];rw [List.set_append_left _ _ (by omega)]
 | c :: r, k + 1, cs, u, hl, h => by
  have hc := hl c List.mem_cons_self;have ih := flatten_setj hj r k cs u (fun d hd => hl d (List.mem_cons_of_mem _ hd)) (by simpa using h);rw [List.set_cons_succ, List.flatten_cons, List.flatten_cons, <- ih];rw [List.set_append_right _ _ (by rw [hc]; omega)]
  congr 2
  rw [hc]; omega
theorem NodesOwn.setj {w : World} {base k n g c j : Nat} {u : Value} {l : List NodeD} {x y : NodeD} (h : NodesOwn w base (.slice (some ⟨g, 0, none⟩) n c) l) (hx : l[k]? = some x) (hn : l.length = n) (hj : j < 12) (hy : ∀ av, ncells y av = (ncells x av).set j u) (ha : y.args = x.args) :
  NodesOwn (w.setCell ⟨g, k * 12 + j, none⟩ u) base (.slice (some ⟨g, 0, none⟩) n c) (l.set k y) := by
 obtain ⟨css, h1, h2, h3⟩ := h;have hk : k < l.length := (List.getElem?_eq_some_iff.1 hx).1;subst hn;obtain ⟨cs, hbk⟩ := own_blk h2 rfl
 have hl12 := ncells_len (P := fun _ _ _ => True) h1 fun i y hy => (h3 i y hy).imp fun a b => ⟨b.1, trivial⟩
 obtain ⟨av, q1, q2⟩ := h3 k x hx;have hset := own_set_at (u := u) h2 (j := k * 12 + j) (by omega);rw [flatten_setj hj css k _ u hl12 q1, <- hy av] at hset;refine ⟨css.set k (ncells y av), by rw [List.length_set, List.length_set]; exact h1, by rw [List.length_set]; exact hset, fun i z hz => ?_⟩
 by_cases hik : i = k
 ·subst hik;rw [List.getElem?_set_self hk] at hz;injection hz with hz;subst hz;refine ⟨av, by rw [List.getElem?_set_self (by omega)], ?_⟩;rw [ha];exact IntsOwn.far q2 hbk (by decide)
 ·rw [List.getElem?_set_ne (Ne.symm hik)] at hz;obtain ⟨av', r1, r2⟩ := h3 i z hz;exact ⟨av', by rw [List.getElem?_set_ne (Ne.symm hik)]; exact r1, IntsOwn.far r2 hbk (by decide)⟩
/-- octet cells of a block are stored, one by one -/
def octet (w : World) (g : Nat) (a b c d e f x y : Value) : World := (((((((w.setCell ⟨g, 0, none⟩ a).setCell ⟨g, 1, none⟩ b).setCell ⟨g, 2, none⟩ c).setCell ⟨g, 3, none⟩ d).setCell ⟨g, 4, none⟩ e).setCell ⟨g, 5, none⟩ f).setCell ⟨g, 6, none⟩ x).setCell ⟨g, 7, none⟩ y
theorem octet_blk {w : World} {H : Nat} {t : TypeId} {z0 z1 z2 z3 z4 z5 z6 z7 : Value} (h : Blk w H t #[z0, z1, z2, z3, z4, z5, z6, z7]) (a b c d e f x y : Value) : Blk (octet w H a b c d e f x y) H t #[a, b, c, d, e, f, x, y] := by
 have h0 := h.set_ 0 a;simp only [List.setIfInBounds_toArray, List.set_cons_zero, List.set_cons_succ] at h0;have h1 := h0.set_ 1 b;simp only [List.setIfInBounds_toArray, List.set_cons_zero, List.set_cons_succ] at h1;have h2 := h1.set_ 2 c;simp only [List.setIfInBounds_toArray, List.set_cons_zero, List.set_cons_succ] at h2;have h3 := h2.set_ 3 d;simp only [List.setIfInBounds_toArray, List.set_cons_zero, List.set_cons_succ] at h3;have h4 := h3.set_ 4 e;simp only [List.setIfInBounds_toArray, List.set_cons_zero, List.set_cons_succ] at h4;have h5 := h4.set_ 5 f;simp only [List.setIfInBounds_toArray, List.set_cons_zero, List.set_cons_succ] at h5;have h6 := h5.set_ 6 x;simp only [List.setIfInBounds_toArray, List.set_cons_zero, List.set_cons_succ] at h6;have h7 := h6.set_ 7 y;simp only [List.setIfInBounds_toArray, List.set_cons_zero, List.set_cons_succ] at h7;exact h7
theorem octet_below {w w0 : World} {B g : Nat} (h : Below B w0 w) (hg : B <= g) (a b c d e f x y : Value) : Below B w0 (octet w g a b c d e f x y) :=
 (((((((h.setCell (p := ⟨g, 0, none⟩) hg a).setCell (p := ⟨g, 1, none⟩) hg b).setCell (p := ⟨g, 2, none⟩) hg c).setCell (p := ⟨g, 3, none⟩) hg d).setCell (p := ⟨g, 4, none⟩) hg e).setCell (p := ⟨g, 5, none⟩) hg f).setCell (p := ⟨g, 6, none⟩) hg x).setCell (p := ⟨g, 7, none⟩) hg y
theorem octet_grown (w : World) (g : Nat) (a b c d e f x y : Value) : w.grownBy (octet w g a b c d e f x y) (some g) := by
 have h0 := grown_setCell w ⟨g, 0, none⟩ a;have h1 := only_setCell h0 (p := ⟨g, 1, none⟩) (.inl rfl) b;have h2 := only_setCell h1 (p := ⟨g, 2, none⟩) (.inl rfl) c;have h3 := only_setCell h2 (p := ⟨g, 3, none⟩) (.inl rfl) d;have h4 := only_setCell h3 (p := ⟨g, 4, none⟩) (.inl rfl) e;have h5 := only_setCell h4 (p := ⟨g, 5, none⟩) (.inl rfl) f;have h6 := only_setCell h5 (p := ⟨g, 6, none⟩) (.inl rfl) x;exact only_setCell h6 (p := ⟨g, 7, none⟩) (.inl rfl) y
/-- one is taken from what is to be done -/
theorem LinAt.rest {w : World} {base lp M N n c i : Nat} {A : Option Addr} {ga : Addr} {ov : Value} {s : LS} {r : List Nat} (h : LinAt w base lp M ga N ov (.slice A n c) s) (hs : s.todo = i :: r) :
  LinAt (w.setCell ⟨lp, 3, none⟩ (.slice (if c = 1 then A else A.map (·.add 1)) (n - 1) (c - 1))) base lp M ga N ov (.slice (if c = 1 then A else A.map (·.add 1)) (n - 1) (c - 1)) ⟨s.at_, s.out, r⟩ := by
 have ht := h.todo;rw [hs, List.map_cons] at ht;have hr := Tail.rest ht;have hgs := grown_setCell w ⟨lp, 3, none⟩ (.slice (if c = 1 then A else A.map (·.add 1)) (n - 1) (c - 1));have hi2 : Other w 3 (some lp) := Other.blk h.blk (by decide);have hn2 : Other w 52 (some lp) := Other.blk h.blk (by decide)
 have hob : (Value.slice (if c = 1 then A else A.map (·.add 1)) (n - 1) (c - 1)).ownBlock = (Value.slice A n c).ownBlock := by
  split
  ·cases A <;> rfl
  ·cases A with
   | none => rfl
   | some a => simp [Value.ownBlock, block_of_add]
 refine ⟨by have := h.blk.set_ 3 (.slice (if c = 1 then A else A.map (·.add 1)) (n - 1) (c - 1)); simpa using this, h.map.set (h.map.ne_blk h.blk) _, ?_, hi2.tail_keep hr hgs, h.lo⟩;rw [hob];exact h.out.kept hgs hn2 (.inl hi2)
/-- the first so many are turned -/
def mixN (at_ : Nat -> Option Nat) (out : List NodeD) (k : Nat) : List NodeD := out.mapIdx fun j x => if j < k then fixN at_ j x else x
section
variable {at_ : Nat -> Option Nat} {out : List NodeD} {k : Nat}
theorem mix_zero : mixN at_ out 0 = out := by
 refine List.ext_getElem? fun i => ?_
 unfold mixN;rw [List.getElem?_mapIdx]
 cases out[i]? <;> simp
theorem mix_all : mixN at_ out out.length = out.mapIdx (fixN at_) := by
 refine List.ext_getElem? fun i => ?_
 unfold mixN;rw [List.getElem?_mapIdx, List.getElem?_mapIdx]
 rcases h : out[i]? with _ | x
 ·rfl
 ·have := (List.getElem?_eq_some_iff.1 h).1;simp [this]
theorem mix_len : (mixN at_ out k).length = out.length := by unfold mixN; simp
theorem mix_get : (mixN at_ out k)[k]? = out[k]? := by
 unfold mixN;rw [List.getElem?_mapIdx]
 cases out[k]? <;> simp
theorem mix_next {x : NodeD} (hx : out[k]? = some x) : (mixN at_ out k).set k (fixN at_ k x) = mixN at_ out (k + 1) := by
 have hk := (List.getElem?_eq_some_iff.1 hx).1
 refine List.ext_getElem? fun i => ?_
 unfold mixN
 by_cases hik : i = k
 ·subst hik;rw [List.getElem?_set_self (by simpa using hk), List.getElem?_mapIdx, hx];simp
 ·rw [List.getElem?_set_ne (Ne.symm hik), List.getElem?_mapIdx, List.getElem?_mapIdx]
  rcases out[i]? with _ | y
  ·rfl
  ·have : (i < k) = (i < k + 1) := by apply propext; omega
   simp [this]
end
theorem set_same {α : Type} {l : List α} {k : Nat} {x : α} (h : l[k]? = some x) : l.set k x = l := by
 refine List.ext_getElem? fun i => ?_
 by_cases hik : i = k
 ·subst hik;rw [List.getElem?_set_self (List.getElem?_eq_some_iff.1 h).1, h]
 ·rw [List.getElem?_set_ne (Ne.symm hik)]
/-- a node's cells in a row of the call's own -/
theorem NodesOwn.cells {w : World} {base g n c k : Nat} {l : List NodeD} {x : NodeD} (h : NodesOwn w base (.slice (some ⟨g, 0, none⟩) n c) l) (hx : l[k]? = some x) :
  ∃ av cs, Blk w g 52 cs /\ IntsOwn w base av x.args /\ ∀ j u, (ncells x av)[j]? = some u -> w.cell? ⟨g, k * 12 + j, none⟩ = some u := by
 obtain ⟨css, h1, h2, h3⟩ := h;obtain ⟨cs, hbk⟩ := own_blk h2 rfl
 have hl12 := ncells_len (P := fun _ _ _ => True) h1 fun i y hy => (h3 i y hy).imp fun a b => ⟨b.1, trivial⟩
 obtain ⟨av, q1, q2⟩ := h3 k x hx;refine ⟨av, cs, hbk, q2, fun j u hu => ?_⟩;have hj : j < 12 := (List.getElem?_eq_some_iff.1 hu).1
 have hn : n = l.length := by
  obtain ⟨A, cc, e, _⟩ := own_any h2;injection e
 subst hn;obtain ⟨_, g', e, _, _, hc⟩ := own_row h2 (by have := (List.getElem?_eq_some_iff.1 hx).1; omega);injection e with e;injection e with e;subst e;have := hc (k * 12 + j) u (by rw [flatten_get css 12 k _ q1 hl12 j hj]; exact hu)
 rwa [addr_zero] at this
section
variable {ns : List NodeD} {entry : Nat} {s : LS}
/-- where a node of the line goes on -/
theorem Line.nop (h : Line ns entry s) {c : Nat} {x : NodeD} (hx : s.out[c]? = some x) (h10 : x.op = 10) : ∃ t v : Nat, x.next = (t : Int) /\ t < ns.length /\ s.at_ t = some v := by
 rcases h.out c x hx with ⟨j, hj⟩ | ⟨t, rfl, ht⟩
 ·obtain ⟨h1, h2, _⟩ := h.at_ j c hj;rw [hx] at h2;injection h2 with h2
  have hop : (nd ns j).op = 10 := by
   unfold laid at h2
   split at h2
   ·assumption
   ·rw [h2] at h10;unfold turned at h10
    split at h10 <;> exact h10
  rw [laid_nop hop] at h2;exact ⟨j, c, by rw [h2], h1, hj⟩
 ·obtain ⟨v, hv⟩ := some_of ht;exact ⟨t, v, rfl, (h.at_ t v hv).1, hv⟩
theorem Line.br (h : Line ns entry s) {c : Nat} {x : NodeD} (hx : s.out[c]? = some x) (h9 : x.op = 9) : ∃ t v : Nat, x.els = (t : Int) /\ t < ns.length /\ s.at_ t = some v := by
 rcases h.out c x hx with ⟨j, hj⟩ | ⟨t, rfl, ht⟩
 ·obtain ⟨h1, h2, _, h4⟩ := h.at_ j c hj;rw [hx] at h2;injection h2 with h2
  have hop : (nd ns j).op = 9 := by
   unfold laid at h2
   split at h2
   ·rw [h2] at h9
    rename_i h0
    exact h9
   ·rw [h2] at h9;unfold turned at h9
    split at h9 <;> exact h9
  rw [laid_not (by omega)] at h2;obtain ⟨v, hv⟩ := some_of (h4 hop);refine ⟨el ns j, v, ?_, (h.at_ _ v hv).1, hv⟩;rw [h2];unfold turned;rw [if_pos hop]; rfl
 ·exact absurd h9 (show (10 : Int) ≠ 9 by decide)
end
end Go.Proofs.Ytncpehhfjkncoaa
