/- What is known of graphs that are right, node by node; graphs in a line are right. No condition. What the walks of a run ask: graphs that are right, sizes; the next deferred call in one form. Conditions: the run lies in memory, its graphs are right. -/
import Derived.Test.YtncpehhfjkncoaaPlAA
import Derived.Test.YtncpehhfjkncoaaPlAL
import Derived.Test.YtncpehhfjkncoaaPlAQ
import Derived.Test.YtncpehhfjkncoaaPlAG
import Derived.Test.YtncpehhfjkncoaaPlAH
import Derived.Test.YtncpehhfjkncoaaPlAS
set_option linter.unusedVariables false
set_option linter.unusedSimpArgs false
set_option maxRecDepth 100000
set_option maxHeartbeats 16000000
namespace Go.Proofs.Ytncpehhfjkncoaa
open Go.RowKit
theorem isB_all {g : GraphD} {b : Bool} {k : Int} {ps : List Int} (h : isB g b k ps = true) : ∀ p ∈ ps, 0 <= p /\ p < (g.kinds.length : Int) := fun p hp => by
 have := List.all_eq_true.1 h p hp;unfold fitsB at this;simp only [Bool.and_eq_true, decide_eq_true_eq] at this;exact this.1
theorem cellB_of {g : GraphD} {c : Int} (h : cellB g c = true) : 0 <= c /\ c < g.cells := by
 unfold cellB at h
 simpa using h
theorem argsB_f {gs : List GraphD} {g : GraphD} {b : Bool} {x : NodeD} (h : argsB gs g b x = true) : 0 <= x.f /\ x.f < (gs.length : Int) := by
 unfold argsB at h;rw [Bool.and_eq_true] at h;obtain ⟨h1, h2⟩ := h
 have h0 : 0 <= x.f := by simpa using h1
 rcases hf : gs[x.f.toNat]? with _ | f
 ·rw [hf] at h2; cases h2
 ·have := (List.getElem?_eq_some_iff.1 hf).1
  omega
/-- what a node that is right has, by its operation -/
structure NdOk (gs : List GraphD) (g : GraphD) (x : NodeD) : Prop where
 op1 : 1 <= x.op /\ x.op <= 18
 next : ∀ t ∈ nextL x, 0 <= t /\ t < (g.nodes.length : Int)
 d : x.op = 1 ∨ x.op = 2 ∨ x.op = 3 ∨ x.op = 4 ∨ x.op = 6 ∨ x.op = 7 ∨ x.op = 15 ∨ x.op = 16 -> 0 <= x.d /\ x.d < (g.kinds.length : Int)
 a : x.op = 2 ∨ x.op = 3 ∨ x.op = 5 ∨ x.op = 7 ∨ x.op = 8 ∨ x.op = 9 ∨ x.op = 14 ∨ x.op = 17 ∨ x.op = 18 -> 0 <= x.a /\ x.a < (g.kinds.length : Int)
 b : x.op = 3 ∨ x.op = 8 -> 0 <= x.b /\ x.b < (g.kinds.length : Int)
 e : x.op = 15 -> 0 <= x.e /\ x.e < (g.kinds.length : Int)
 by_ : x.op = 3 -> 7 <= x.byo /\ x.byo <= 20
 cell : x.op = 4 ∨ x.op = 5 ∨ x.op = 6 -> 0 <= x.cell /\ x.cell < g.cells
 f : x.op = 11 ∨ x.op = 13 -> 0 <= x.f /\ x.f < (gs.length : Int)
 ret : x.op = 12 -> x.a = -1 /\ g.result = false ∨ g.result = true /\ 0 <= x.a /\ x.a < (g.kinds.length : Int)
 cd : x.op = 11 -> x.d = -1 ∨ 0 <= x.d /\ x.d < (g.kinds.length : Int)
 dne : x.op = 15 -> x.d ≠ x.e
theorem NdOk.of {gs : List GraphD} {g : GraphD} {x : NodeD} (h : nodeB gs g true x = true) : NdOk gs g x := by
 unfold nodeB at h;rw [Bool.and_eq_true] at h;obtain ⟨hn, ho⟩ := h
 have hnx : ∀ t ∈ nextL x, 0 <= t /\ t < (g.nodes.length : Int) := fun t ht => by
  have := List.all_eq_true.1 hn t ht
  simpa using this
 unfold opB at ho
 have hz : ∀ {k : Int} {ps : List Int}, isB g true k ps = true -> ∀ p ∈ ps, 0 <= p /\ p < (g.kinds.length : Int) := fun h => isB_all h
 by_cases q0 : x.op = 1 ∨ x.op = 16
 ·rw [if_pos q0] at ho;have hd := hz ho x.d (by simp)
  refine ⟨by omega, hnx, ?_, ?_, ?_, ?_, ?_, ?_, ?_, ?_, ?_, ?_⟩ <;> intro hh <;> first | omega | assumption | exact hr
 rw [if_neg q0] at ho
 by_cases q0 : x.op = 2
 ·rw [if_pos q0] at ho
  have hda : ∀ p ∈ [x.d, x.a], 0 <= p /\ p < (g.kinds.length : Int) := by rw [Bool.or_eq_true] at ho; exact ho.elim hz hz
  have hd := hda x.d (by simp);have ha := hda x.a (by simp)
  refine ⟨by omega, hnx, ?_, ?_, ?_, ?_, ?_, ?_, ?_, ?_, ?_, ?_⟩ <;> intro hh <;> first | omega | assumption | exact hr
 rw [if_neg q0] at ho
 by_cases q0 : x.op = 3
 ·rw [if_pos q0] at ho;rw [Bool.and_eq_true, Bool.and_eq_true, decide_eq_true_eq, decide_eq_true_eq] at ho;have hd := hz ho.2 x.d (by simp);have ha := hz ho.2 x.a (by simp);have hb := hz ho.2 x.b (by simp);have hy := ho.1
  refine ⟨by omega, hnx, ?_, ?_, ?_, ?_, ?_, ?_, ?_, ?_, ?_, ?_⟩ <;> intro hh <;> first | omega | assumption | exact hr
 rw [if_neg q0] at ho
 by_cases q0 : x.op = 4
 ·rw [if_pos q0] at ho;rw [Bool.and_eq_true] at ho;have hd := hz ho.2 x.d (by simp);have hc := cellB_of ho.1
  refine ⟨by omega, hnx, ?_, ?_, ?_, ?_, ?_, ?_, ?_, ?_, ?_, ?_⟩ <;> intro hh <;> first | omega | assumption | exact hr
 rw [if_neg q0] at ho
 by_cases q0 : x.op = 5
 ·rw [if_pos q0] at ho;rw [Bool.and_eq_true] at ho;have ha := hz ho.2 x.a (by simp);have hc := cellB_of ho.1
  refine ⟨by omega, hnx, ?_, ?_, ?_, ?_, ?_, ?_, ?_, ?_, ?_, ?_⟩ <;> intro hh <;> first | omega | assumption | exact hr
 rw [if_neg q0] at ho
 by_cases q0 : x.op = 6
 ·rw [if_pos q0] at ho;rw [Bool.and_eq_true] at ho;have hd := hz ho.2 x.d (by simp);have hc := cellB_of ho.1
  refine ⟨by omega, hnx, ?_, ?_, ?_, ?_, ?_, ?_, ?_, ?_, ?_, ?_⟩ <;> intro hh <;> first | omega | assumption | exact hr
 rw [if_neg q0] at ho
 by_cases q0 : x.op = 7
 ·rw [if_pos q0] at ho;rw [Bool.and_eq_true] at ho;have hd := hz ho.1 x.d (by simp);have ha := hz ho.2 x.a (by simp)
  refine ⟨by omega, hnx, ?_, ?_, ?_, ?_, ?_, ?_, ?_, ?_, ?_, ?_⟩ <;> intro hh <;> first | omega | assumption | exact hr
 rw [if_neg q0] at ho
 by_cases q0 : x.op = 8
 ·rw [if_pos q0] at ho;rw [Bool.and_eq_true] at ho;have ha := hz ho.1 x.a (by simp);have hb := hz ho.2 x.b (by simp)
  refine ⟨by omega, hnx, ?_, ?_, ?_, ?_, ?_, ?_, ?_, ?_, ?_, ?_⟩ <;> intro hh <;> first | omega | assumption | exact hr
 rw [if_neg q0] at ho
 by_cases q0 : x.op = 10
 ·rw [if_pos q0] at ho
  refine ⟨by omega, hnx, ?_, ?_, ?_, ?_, ?_, ?_, ?_, ?_, ?_, ?_⟩ <;> intro hh <;> first | omega | assumption | exact hr
 rw [if_neg q0] at ho
 by_cases q0 : x.op = 9 ∨ x.op = 14 ∨ x.op = 18 ∨ x.op = 17
 ·rw [if_pos q0] at ho;have ha := hz ho x.a (by simp)
  refine ⟨by omega, hnx, ?_, ?_, ?_, ?_, ?_, ?_, ?_, ?_, ?_, ?_⟩ <;> intro hh <;> first | omega | assumption | exact hr
 rw [if_neg q0] at ho
 by_cases q0 : x.op = 15
 ·rw [if_pos q0] at ho;rw [Bool.and_eq_true, decide_eq_true_eq] at ho;have hd := hz ho.2 x.d (by simp);have he := hz ho.2 x.e (by simp);have hne := ho.1
  refine ⟨by omega, hnx, ?_, ?_, ?_, ?_, ?_, ?_, ?_, ?_, ?_, ?_⟩ <;> intro hh <;> first | omega | assumption | exact hr
 rw [if_neg q0] at ho
 by_cases q0 : x.op = 13
 ·rw [if_pos q0] at ho;have hf := argsB_f ho
  refine ⟨by omega, hnx, ?_, ?_, ?_, ?_, ?_, ?_, ?_, ?_, ?_, ?_⟩ <;> intro hh <;> first | omega | assumption | exact hr
 rw [if_neg q0] at ho
 by_cases q0 : x.op = 11
 ·rw [if_pos q0] at ho;rw [Bool.and_eq_true, Bool.or_eq_true, decide_eq_true_eq] at ho;have hf := argsB_f ho.1
  have hcd : x.d = -1 ∨ 0 <= x.d /\ x.d < (g.kinds.length : Int) := ho.2.imp id fun h => by
   rw [Bool.and_eq_true, Bool.and_eq_true] at h;exact hz h.1.1 x.d (by simp)
  refine ⟨by omega, hnx, ?_, ?_, ?_, ?_, ?_, ?_, ?_, ?_, ?_, ?_⟩ <;> intro hh <;> first | omega | assumption | exact hr
 rw [if_neg q0] at ho
 by_cases q0 : x.op = 12
 ·rw [if_pos q0] at ho
  have hr : x.a = -1 /\ g.result = false ∨ g.result = true /\ 0 <= x.a /\ x.a < (g.kinds.length : Int) := by
   rw [Bool.or_eq_true, Bool.and_eq_true, Bool.and_eq_true, Bool.and_eq_true, decide_eq_true_eq, decide_eq_true_eq, Bool.not_eq_true'] at ho
   exact ho.imp id fun h => ⟨h.1.2, hz h.2 x.a (by simp)⟩
  refine ⟨by omega, hnx, ?_, ?_, ?_, ?_, ?_, ?_, ?_, ?_, ?_, ?_⟩ <;> intro hh <;> first | omega | assumption | exact hr
 rw [if_neg q0] at ho
 cases ho
/-- what is known of a graph that is right, read bound -/
structure RightG (g : GraphD) : Prop where
 k0 : 16 <= g.kinds.length
 k1 : g.kinds.length <= 1024
 c0 : 0 <= g.cells
 c1 : g.cells <= 64
 n1 : g.nodes.length <= 4096
theorem right_of {gs : List GraphD} (h : checkB gs true = true) : ∀ g ∈ gs, RightG g := fun g hg => by
 unfold checkB at h;rw [Bool.and_eq_true, Bool.and_eq_true] at h;have h4 := List.all_eq_true.1 h.1.2 g hg;have h5 := (head_par h4).2.2;unfold headB head1 head2 at h4;simp only [Bool.and_eq_true, Bool.not_eq_true', Bool.or_eq_false_iff, decide_eq_false_iff_not, Bool.true_and] at h4;exact ⟨by omega, by omega, by omega, by omega, h5.2⟩
theorem argsB_args {gs : List GraphD} {g : GraphD} {x : NodeD} (h : argsB gs g true x = true) (hp : ∀ f ∈ gs, f.params.length <= 4) : x.args.length <= 4 /\ ∀ p ∈ x.args, 0 <= p /\ p < 4 := by
 unfold argsB at h;rw [Bool.and_eq_true] at h;obtain ⟨_, h2⟩ := h
 rcases hf : gs[x.f.toNat]? with _ | f
 ·rw [hf] at h2; cases h2
 ·rw [hf] at h2;simp only [Bool.and_eq_true, decide_eq_true_eq] at h2;have hl := hp f (List.mem_of_getElem? hf);refine ⟨by omega, fun p hp => ?_⟩;obtain ⟨i, hi, rfl⟩ := List.getElem_of_mem hp;have := List.all_eq_true.1 h2.2 i (List.mem_range.2 hi);unfold argB at this;simp only [if_true, decide_eq_true_eq, List.getD_eq_getElem?_getD, List.getElem?_eq_getElem hi, Option.getD_some] at this
  omega
section
variable {gs : List GraphD} {g : GraphD} {x : NodeD}
theorem opB_args (h : opB gs g true x = true) (ho : x.op = 11 ∨ x.op = 13) : argsB gs g true x = true := by
 unfold opB at h
 rcases ho with ho | ho
 ·rw [if_neg (by omega), if_neg (by omega), if_neg (by omega), if_neg (by omega), if_neg (by omega), if_neg (by omega), if_neg (by omega), if_neg (by omega), if_neg (by omega), if_neg (by omega), if_neg (by omega), if_neg (by omega), if_pos ho, Bool.and_eq_true] at h;exact h.1
 ·rw [if_neg (by omega), if_neg (by omega), if_neg (by omega), if_neg (by omega), if_neg (by omega), if_neg (by omega), if_neg (by omega), if_neg (by omega), if_neg (by omega), if_neg (by omega), if_neg (by omega), if_pos ho] at h;exact h
end
theorem headB_more {g : GraphD} (h : headB g true = true) : g.init.length = g.params.length /\ 0 <= g.cells /\ (∀ c ∈ g.init, c < g.cells) /\ g.keep < g.cells /\ (∀ k ∈ g.kinds, k <= 1) := by
 unfold headB head1 head2 at h;simp only [Bool.and_eq_true, Bool.not_eq_true', Bool.or_eq_false_iff, decide_eq_false_iff_not, Bool.true_and] at h;obtain ⟨⟨⟨h1, h2⟩, h3⟩, h4⟩ := h;obtain ⟨⟨⟨⟨q1, q2⟩, q3⟩, q4⟩, q5⟩ := h2
 have hil : g.init.length = g.params.length := by omega
 refine ⟨hil, by omega, fun c hc => ?_, ?_, fun k hk => ?_⟩
 ·obtain ⟨i, hi, rfl⟩ := List.getElem_of_mem hc;have := List.all_eq_true.1 h3 i (List.mem_range.2 (by omega));unfold parB at this;simp only [Bool.and_eq_true, Bool.not_eq_true', Bool.and_eq_false_iff, Bool.or_eq_false_iff, decide_eq_false_iff_not, List.getD_eq_getElem?_getD, List.getElem?_eq_getElem hi, Option.getD_some] at this
  rcases this.2 with h | h
  ·simp only [ne_eq, Decidable.not_not] at h; omega
  ·have := cellB_of (show cellB g _ = true by simpa using h.1)
   omega
 ·rcases Bool.and_eq_false_iff.1 q5 with h | h
  ·simp at h; omega
  ·have := cellB_of (show cellB g _ = true by simpa using h)
   omega
 ·have hall := h1.2;rw [List.any_eq_false] at hall;have := hall k hk;simp at this; omega
section
variable {gs : List GraphD} {g : GraphD}
/-- a node of the line is one of the graph's, but for its ways, or a jump -/
theorem line_node (hns : NsOk g.nodes) (he : 0 <= g.entry /\ g.entry < g.nodes.length) {x : NodeD} (hx : x ∈ (lineG g).nodes) : (∃ n ∈ g.nodes, ∃ a b, x = { n with next := a, els := b }) ∨ (∃ a b, x = { nopD 0 with next := a, els := b }) := by
 have hL := line_good hns (entry := g.entry.toNat) (by omega);obtain ⟨c, hc, rfl⟩ := List.getElem_of_mem hx;have hx' : (lineN g.nodes g.entry.toNat)[c]? = some (lineN g.nodes g.entry.toNat)[c] := List.getElem?_eq_getElem hc;unfold lineN at hx';rw [List.getElem?_mapIdx] at hx'
 rcases ho : (lineS g.nodes g.entry.toNat).out[c]? with _ | y
 ·rw [ho] at hx'; cases hx'
 ·rw [ho] at hx';injection hx' with hx'
  have hfix : ∃ a b, fixN (lineS g.nodes g.entry.toNat).at_ c y = { y with next := a, els := b } := by
   unfold fixN;dsimp only
   split <;> split
   ·exact ⟨_, _, rfl⟩
   ·split <;> exact ⟨_, _, rfl⟩
   ·exact ⟨_, _, rfl⟩
   ·split <;> exact ⟨_, _, rfl⟩
  obtain ⟨a, b, hab⟩ := hfix;rw [hab] at hx';have e : (lineG g).nodes[c] = { y with next := a, els := b } := hx'.symm;rw [e]
  rcases hL.out c y ho with ⟨j, hj⟩ | ⟨t, rfl, _⟩
  ·obtain ⟨h1, h2, _⟩ := hL.at_ j c hj;rw [ho] at h2;injection h2 with h2;refine .inl ⟨nd g.nodes j, nd_mem h1, a, b, ?_⟩;rw [h2];unfold laid turned
   split
   ·rfl
   ·split <;> rfl
  ·exact .inr ⟨a, b, rfl⟩
theorem next_cases {x : NodeD} {t : Int} (h : t ∈ nextL x) : t = x.next ∨ (x.op = 9 /\ t = x.els) := by
 unfold nextL at h
 split at h
 ·cases h
 ·split at h
  ·next h9 =>
   simp only [List.mem_cons, List.not_mem_nil, or_false] at h
   rcases h with h | h
   ·exact .inl h
   ·exact .inr ⟨h9.1, h⟩
  ·split at h
   ·cases h
   ·simp only [List.mem_cons, List.not_mem_nil, or_false] at h;exact .inl h
theorem line_next (hns : NsOk g.nodes) (he : 0 <= g.entry /\ g.entry < g.nodes.length) {c : Nat} {x : NodeD} (hx : (lineG g).nodes[c]? = some x) : ∀ t ∈ nextL x, 0 <= t /\ t < ((lineG g).nodes.length : Int) := by
 have hL := line_good hns (entry := g.entry.toNat) (by omega)
 have hlen : (lineG g).nodes.length = (lineS g.nodes g.entry.toNat).out.length := by
  show (lineN g.nodes g.entry.toNat).length = _;unfold lineN; simp
 rw [hlen];have hx' : (lineN g.nodes g.entry.toNat)[c]? = some x := hx;unfold lineN at hx';rw [List.getElem?_mapIdx] at hx';obtain ⟨s, hs⟩ := mn (lineS g.nodes g.entry.toNat);rw [hs] at hL hx' ⊢
 have hat : ∀ j v, s.at_ j = some v -> v < s.out.length := fun j v h => (List.getElem?_eq_some_iff.1 (hL.at_ j v h).2.1).1
 rcases ho : s.out[c]? with _ | y
 ·rw [ho] at hx'; cases hx'
 ·rw [ho] at hx';injection hx' with hx';intro t ht
  by_cases h10 : y.op = 10
  ·obtain ⟨u, v, h1, h2, h3⟩ := hL.nop ho h10;have hv := hat _ _ h3
   have hxe : x = { y with next := (v : Nat) } := by
    rw [<- hx'];unfold fixN;dsimp only;rw [if_pos h10, if_neg (by omega), h1, Int.toNat_natCast, h3]; rfl
   rcases next_cases ht with h | ⟨h, _⟩
   ·rw [h, hxe]; show 0 <= (v : Int) /\ (v : Int) < _; omega
   ·rw [hxe] at h;have : y.op = 9 := h
    omega
  ·rcases hL.out c y ho with ⟨j, hj⟩ | ⟨u, rfl, _⟩
   ·obtain ⟨a1, a2, a3, a4⟩ := hL.at_ j c hj;rw [ho] at a2;injection a2 with a2
    have hop : (nd g.nodes j).op ≠ 10 := by
     intro e;rw [laid_nop e] at a2;rw [a2] at h10;exact h10 e
    rw [laid_not hop] at a2
    by_cases hn : nextL y = []
    ·have h9 : y.op ≠ 9 := fun e => br_next e hn
     have hxe : x = y := by
      rw [<- hx'];unfold fixN;dsimp only;rw [if_neg h10, if_neg h9, if_pos hn]
     rw [hxe, hn] at ht
     cases ht
    ·have hn2 : nextL (nd g.nodes j) ≠ [] := fun e => by
      rw [a2] at hn;exact hn (turned_next.2 e)
     have hc1 : c + 1 < s.out.length := by
      rcases a3 hop hn2 with h | ⟨h, _⟩
      ·exact hat _ _ h
      ·exact (List.getElem?_eq_some_iff.1 h).1
     by_cases h9 : y.op = 9
     ·obtain ⟨u, v, h1, h2, h3⟩ := hL.br ho h9;have hv := hat _ _ h3
      have hxe : x = { y with next := (c : Int) + 1, els := (v : Nat) } := by
       rw [<- hx'];unfold fixN;dsimp only;rw [if_neg h10, if_neg hn, if_pos h9, h1, Int.toNat_natCast, h3]; rfl
      rcases next_cases ht with h | ⟨_, h⟩
      ·rw [h, hxe]; show 0 <= (c : Int) + 1 /\ (c : Int) + 1 < _; omega
      ·rw [h, hxe]; show 0 <= (v : Int) /\ (v : Int) < _; omega
     ·have hxe : x = { y with next := (c : Int) + 1 } := by
       rw [<- hx'];unfold fixN;dsimp only;rw [if_neg h10, if_neg hn, if_neg h9]
      rcases next_cases ht with h | ⟨h, _⟩
      ·rw [h, hxe]; show 0 <= (c : Int) + 1 /\ (c : Int) + 1 < _; omega
      ·rw [hxe] at h;exact absurd h h9
   ·exact absurd rfl h10
theorem opB_line (x : NodeD) (a b : Int) : opB (gs.map lineG) (lineG g) true { x with next := a, els := b } = opB gs g true x := by
 have hA : argsB (gs.map lineG) (lineG g) true { x with next := a, els := b } = argsB gs g true x := by
  unfold argsB;dsimp only;rw [List.getElem?_map]
  rcases gs[x.f.toNat]? with _ | f
  ·rfl
  ·rfl
 unfold opB;dsimp only;rw [hA, List.getElem?_map]
 rcases gs[x.f.toNat]? with _ | f <;> rfl
/-- graphs in a line are right -/
theorem line_check (h : checkB gs true = true) (hs : GsSmall gs) (ho : linOver gs = false) : checkB (gs.map lineG) true = true := by
 have hl := check_len h
 have hall : ∀ g ∈ gs, headB (lineG g) true = true /\ ∀ x ∈ (lineG g).nodes, nodeB (gs.map lineG) (lineG g) true x = true := by
  intro g hg;obtain ⟨hh, hn⟩ := check_each h hg;obtain ⟨hns, he⟩ := lin_ok h hs hg;have hL := line_good hns (entry := g.entry.toNat) (by omega)
  have hlen : (lineG g).nodes.length = (lineS g.nodes g.entry.toNat).out.length := by
   show (lineN g.nodes g.entry.toNat).length = _;unfold lineN; simp
  have hov : (lineG g).nodes.length <= 4096 := by
   unfold linOver at ho;rw [List.any_eq_false] at ho;have := ho g hg
   simpa using this
  refine ⟨?_, fun x hx => ?_⟩
  ·unfold headB at hh ⊢;rw [Bool.and_eq_true] at hh ⊢;refine ⟨hh.1, ?_⟩;unfold head3;simp only [Bool.and_eq_true, decide_eq_true_eq];have := hL.pos;refine ⟨⟨⟨by omega, hov⟩, by show (0 : Int) <= 0; omega⟩, by show (0 : Int) < _; omega⟩
  ·unfold nodeB;rw [Bool.and_eq_true]
   constructor
   ·obtain ⟨c, hc, rfl⟩ := List.getElem_of_mem hx
    refine List.all_eq_true.2 fun t ht => ?_
    have := line_next hns he (List.getElem?_eq_getElem hc) t ht;simp [this.1, this.2]
   ·rcases line_node hns he hx with ⟨n, hnm, a, b, rfl⟩ | ⟨a, b, rfl⟩
    ·rw [opB_line];have := hn n hnm;unfold nodeB at this;rw [Bool.and_eq_true] at this;exact this.2
    ·unfold opB;simp [nopD]
 unfold checkB at h ⊢;rw [Bool.and_eq_true, Bool.and_eq_true] at h ⊢;refine ⟨⟨?_, ?_⟩, ?_⟩
 ·rw [List.getElem?_map];have h1 := h.1.1
  rcases hg0 : gs[0]? with _ | g0
  ·rw [hg0] at h1; cases h1
  ·rw [hg0] at h1;show _ = true;simp only [Option.map_some, List.length_map];exact h1
 ·refine List.all_eq_true.2 fun g' hg' => ?_
  obtain ⟨g, hg, rfl⟩ := List.mem_map.1 hg';exact (hall g hg).1
 ·refine List.all_eq_true.2 fun g' hg' => ?_
  obtain ⟨g, hg, rfl⟩ := List.mem_map.1 hg'
  exact List.all_eq_true.2 fun x hx => (hall g hg).2 x hx
end
end Go.Proofs.Ytncpehhfjkncoaa
namespace Go.Proofs.Ytncpehhfjkncoaa
open Go.RowKit

/-- what is asked of the graphs -/
structure GsW (gs : List GraphD) : Prop where
 gx : GsX gs
 push : ∀ (f : Nat) (g : GraphD) (n : Nat), gs[f]? = some g -> n = g.params.length -> PushOk gs f g n
 keep : ∀ g ∈ gs, g.keep < g.cells
 nd : ∀ g ∈ gs, ∀ x ∈ g.nodes, NdOk gs g x /\ (x.op = 11 ∨ x.op = 13 -> argsB gs g true x = true)
 k16 : ∀ g ∈ gs, 16 <= g.kinds.length
theorem gsw_ok {gs : List GraphD} (h : checkB gs true = true) (hs : GsSmall gs) : GsW gs := by
 refine ⟨gsx_ok h hs, fun f g n hg hn => ?_, fun g hg => ?_, fun g hg x hx => ?_, fun g hg => (right_of h g hg).k0⟩
 ·have hm := List.mem_of_getElem? hg;obtain ⟨hh, _⟩ := check_each h hm;obtain ⟨p1, p2, p3, p4⟩ := head_par hh;obtain ⟨m1, m2, m3, m4, m5⟩ := headB_more hh;exact ⟨hg, hn, p1, ⟨m1, m3⟩, p3, ⟨m2, (right_of h g hm).c1⟩, p2⟩
 ·exact (headB_more (check_each h hg).1).2.2.2.1
 ·have hn := (check_each h hg).2 x hx;refine ⟨NdOk.of hn, fun ho => ?_⟩;unfold nodeB at hn;rw [Bool.and_eq_true] at hn;exact opB_args hn.2 ho
/-- sizes -/
structure Sz (N : Nat) (R : RunD) : Prop where
 row : R.row.length <= N
 list : R.list.length <= N
 waits : R.waiting <= N
section
variable {w : World} {base : Nat} {X : RunX} {R : RunD} {rest : List It} {q N : Nat}
theorem top_waits (hne : R.row ≠ []) : R.top.waits.length <= R.waiting := by
 unfold RunD.top RunD.waiting
 rcases hr : R.row with _ | ⟨x, r⟩
 ·exact absurd hr hne
 ·simp
/-- the next deferred call, in one form -/
def NextGot (base : Nat) (X : RunX) (rest : List It) (w : World) (o : Option RunD) (R : RunD) (e : Ending) (w' : World) : Prop :=
 match o with
 | none => e = .returned (.bool false) /\ RunAt w' base X R rest /\ Below base w w'
 | some R' => e = .returned (.bool true) /\ RunAt w' base X R' rest /\ Below base w w'
theorem qnext_any (hg : GsW X.gs) (h : RunAt w base X R rest) (ok : RunOk X.gs q R) (hne : R.row ≠ []) (sz : Sz N R) (hN : N <= 1000000) (why : Int) :
  Calls Try.prog 48 #[.pointer (some ⟨X.rp, 0, none⟩), .int .i64 why] w fun e w' => NextGot base X rest w (R.next X.gs why) R e w' := by
 have hrow := sz.row;have hwl := top_waits hne;have hw := sz.waits
 rcases hd : R.top.waits.getLast? with _ | d
 ·have hwn : R.top.waits = [] := List.getLast?_eq_none_iff.mp hd
  have e : R.next X.gs why = none := by unfold RunD.next; rw [hd]
  rw [e];refine (next_none h hne (by omega) hwn why).mono ?_;rintro e' w' ⟨rfl, k, rfl⟩;exact ⟨rfl, h.drewN k, below_drewN (Below.refl base w) k⟩
 ·have e : R.next X.gs why = some ((R.setTop { R.top with waits := R.top.waits.dropLast }).push X.gs d.1 d.2 why) := by unfold RunD.next; rw [hd]
  rw [e];have hdm : d ∈ R.top.waits := List.mem_of_getLast? hd;obtain ⟨⟨d0, d1⟩, d2, _⟩ := (ok.top hne).waits d hdm
  obtain ⟨f, hf⟩ : ∃ f : Nat, d.1 = f := ⟨d.1.toNat, by omega⟩
  have hfl : f < X.gs.length := by omega
  have hgf : X.gs[f]? = some X.gs[f] := List.getElem?_eq_getElem hfl
  have hga : gAt X.gs d.1 = X.gs[f] := by
   unfold gAt;rw [hf, Int.toNat_natCast, List.getD_eq_getElem?_getD, hgf]; rfl
  rw [hga] at d2
  have hw2 : R.top.waits = R.top.waits.dropLast ++ [((f : Int), d.2)] := by
   have hne2 : R.top.waits ≠ [] := fun e => by rw [e] at hdm; cases hdm
   have h3 := List.dropLast_concat_getLast hne2
   have h4 : R.top.waits.getLast hne2 = d := by
    rw [List.getLast?_eq_some_getLast hne2] at hd;injection hd
   rw [h4] at h3;rw [<- hf];exact h3.symm
  have := next_some h hne (by omega) (ws := R.top.waits.dropLast) (f := f) (args := d.2) hw2 (by rw [List.length_dropLast]; omega) (hg.push f _ _ hgf d2) why;rw [hf];exact this
end
end Go.Proofs.Ytncpehhfjkncoaa
