/- Lemmas on rows of nodes that a call makes, each turned to a row of its own. No condition. Walks of slices.Clone at numbers, kinds and nodes. Conditions: the list lies in memory, within the reach. Walk of through: what is behind jumps. Conditions: the liner and its graph lie in memory, jumps lead to nodes, at most 4096 nodes. The back part of a row of numbers of the call's own, and append onto it. No condition. The liner's state as it lies in memory, and what a change leaves of it. No condition. -/
import Derived.Test.YtnfjjliiajaijaaDoorPkAD
import Derived.Test.YtnfjjliiajaijaaDoorPkAA
import Derived.WalkSpells
import Derived.Test.YtnfjjliiajaijaaDoorPkAB
import Derived.Deep.LoopGhost
import Derived.WalkKit
import Derived.WalkMore
set_option linter.unusedVariables false
set_option linter.unusedSimpArgs false
set_option maxRecDepth 100000
set_option maxHeartbeats 10000000
namespace Go.Proofs.YtnfjjliiajaijaaDoor
open Go.RowKit

theorem own_set_at {w : World} {M size n g j c : Nat} {e : TypeId} {u : Value} {xs : List Value} (h : w.ownsRow M e size (.slice (some ⟨g, 0, none⟩) n c) n xs) (hj : j < n * size) : (w.setCell ⟨g, j, none⟩ u).ownsRow M e size (.slice (some ⟨g, 0, none⟩) n c) n (xs.set j u) := by
 rcases h.2 with ⟨h0, _⟩ | ⟨g', cap, cur, hv, hb, hh, h1, h2, h3, h4⟩
 ·cases h0
 ·injection hv with hv1 _ hv3
  injection hv1 with hv1
  injection hv1 with hv1
  subst hv1 hv3
  have hset : (w.setCell ⟨g, j, none⟩ u).heap[g]? = some (.cells (cur.setIfInBounds j u) e (0, 0)) := Blk.set_ (show Blk w g e cur from hh) j u
  refine ⟨by rw [List.length_set]; exact h.1, .inr ⟨g, c, _, rfl, hb, hset, h1, h2, by simpa using h3, ?_⟩⟩
  rw [Array.toList_setIfInBounds, ← h4, List.take_set]
theorem NodesMid.start {w : World} {base B : Nat} {v v0 : Value} {l : List NodeD} {n : Nat} {css : List (List Value)} (hn : l.length = n) (hc : css.length = n) (ho : w.ownsRow base 55 12 v n css.flatten) (h : ∀ (i : Nat) x, l[i]? = some x → ∃ cs, css[i]? = some cs ∧ NodeAt w B cs x) : NodesMid w base B 0 v l := by
 subst hn
 refine ⟨css, hc, ho, fun k x hx => ?_⟩
 obtain ⟨cs, q1, av, rfl, q2⟩ := h k x hx
 exact ⟨av, q1, fun h => absurd h (by omega), fun _ => q2⟩
theorem NodesMid.kept {w w' : World} {base B i : Nat} {v : Value} {l : List NodeD} {row : Option Nat} (h : NodesMid w base B i v l) (hg : w.grownBy w' row) (hr : Far w row) (hB : B ≤ w.heap.size) (hrB : ∀ g, row = some g → B ≤ g) : NodesMid w' base B i v l := by
 obtain ⟨css, h1, h2, h3⟩ := h
 refine ⟨css, h1, own_kept' h2 hg fun g e => (hr g e).imp id fun ⟨t, cs, a, _, _, b⟩ => ⟨t, cs, a, b⟩, fun k x hx => ?_⟩
 obtain ⟨av, q1, q2, q3⟩ := h3 k x hx
 refine ⟨av, q1, fun hk => IntsOwn.kept (q2 hk) hg hr, fun hk => ?_⟩
 obtain ⟨A, n, c, r1, r2, r3, r4, r5⟩ := q3 hk
 exact ⟨A, n, c, r1, r2, r3, r4, r5.grown hg hB hrB⟩
theorem NodesMid.fin {w : World} {base B : Nat} {v : Value} {l : List NodeD} (h : NodesMid w base B l.length v l) : NodesOwn w base v l := by
 obtain ⟨css, h1, h2, h3⟩ := h
 refine ⟨css, h1, h2, fun k x hx => ?_⟩
 obtain ⟨av, q1, q2, _⟩ := h3 k x hx
 exact ⟨av, q1, q2 (List.getElem?_eq_some_iff.1 hx).1⟩
theorem node_one (x : NodeD) {av : Value} (h : av.oneCell' = true) : ∀ u ∈ ncells x av, u.oneCell' = true := by
 intro u hu
 simp only [ncells, List.mem_cons, List.not_mem_nil, or_false] at hu
 rcases hu with rfl | rfl | rfl | rfl | rfl | rfl | rfl | rfl | rfl | rfl | rfl | rfl
 all_goals first | rfl | exact h
theorem nodes_one {w : World} {B : Nat} {css : List (List Value)} {l : List NodeD} (hc : css.length = l.length) (h : ∀ (i : Nat) x, l[i]? = some x → ∃ cs, css[i]? = some cs ∧ NodeAt w B cs x) : ∀ u ∈ css.flatten, u.oneCell' = true := by
 intro u hu
 obtain ⟨cs, hcs, hu⟩ := List.mem_flatten.1 hu
 obtain ⟨k, hk, rfl⟩ := List.getElem_of_mem hcs
 obtain ⟨cs', q1, av, rfl, q2⟩ := h k l[k] (List.getElem?_eq_getElem (by omega))
 rw [List.getElem?_eq_getElem hk] at q1
 injection q1 with q1
 rw [q1] at hu
 obtain ⟨A, n, c, rfl, _⟩ := q2
 exact node_one _ rfl u hu
theorem nums_one (k : IntKind) (l : List Int) : ∀ u ∈ l.map (Value.int k), u.oneCell' = true := by
 intro u hu
 obtain ⟨z, _, rfl⟩ := List.mem_map.1 hu
 rfl
theorem IntsOwn.far {w : World} {base g j : Nat} {v u : Value} {l : List Int} {t : TypeId} {cs : Array Value} (h : IntsOwn w base v l) (hg : Blk w g t cs) (ht : 3 ≠ t) : IntsOwn (w.setCell ⟨g, j, none⟩ u) base v l := ownsRow_setCell_other h (a := ⟨g, j, none⟩) (own_blk_ne h hg ht) u
theorem KindsOwn.far {w : World} {base g j : Nat} {v u : Value} {l : List Int} {t : TypeId} {cs : Array Value} (h : KindsOwn w base v l) (hg : Blk w g t cs) (ht : 87 ≠ t) : KindsOwn (w.setCell ⟨g, j, none⟩ u) base v l := ownsRow_setCell_other h (a := ⟨g, j, none⟩) (own_blk_ne h hg ht) u
theorem NodesMid.step {w : World} {base B k n g c : Nat} {u : Value} {l : List NodeD} {x : NodeD} (h : NodesMid w base B k (.slice (some ⟨g, 0, none⟩) n c) l) (hB : B ≤ base) (hx : l[k]? = some x) (hn : l.length = n) (ho : IntsOwn w base u x.args) :
  NodesMid (w.setCell ⟨g, k * 12 + 9, none⟩ u) base B (k + 1) (.slice (some ⟨g, 0, none⟩) n c) l := by
 obtain ⟨css, h1, h2, h3⟩ := h
 have hk : k < l.length := (List.getElem?_eq_some_iff.1 hx).1
 subst hn
 have hg : base ≤ g := by
  obtain ⟨g', cap, e, hb, _⟩ := own_form h2 (by omega)
  injection e with e
  injection e with e
  injection e with e
  omega
 obtain ⟨cs, hbk⟩ := own_blk h2 rfl
 have hl12 := ncells_len (P := fun _ _ _ => True) h1 fun i y hy => (h3 i y hy).imp fun a b => ⟨b.1, trivial⟩
 obtain ⟨av, q1, _, _⟩ := h3 k x hx
 have hset := own_set_at (u := u) h2 (j := k * 12 + 9) (by omega)
 rw [flatten_set12 css k x av u hl12 q1] at hset
 refine ⟨css.set k (ncells x u), by rw [List.length_set]; exact h1, hset, fun i y hy => ?_⟩
 by_cases hik : i = k
 ·subst hik
  rw [hx] at hy
  injection hy with hy
  subst hy
  refine ⟨u, by rw [List.getElem?_set_self (by omega)], fun _ => IntsOwn.far ho hbk (by decide), fun h => absurd h (by omega)⟩
 ·obtain ⟨av', r1, r2, r3⟩ := h3 i y hy
  refine ⟨av', by rw [List.getElem?_set_ne (Ne.symm hik)]; exact r1, fun h => ?_, fun h => ?_⟩
  ·have h4 := r2 (by omega)
   exact IntsOwn.far h4 hbk (by decide)
  ·obtain ⟨A, n, c', a1, a2, a3, a4, a5⟩ := r3 (by omega)
   exact ⟨A, n, c', a1, a2, a3, a4, a5.setCell (by simp only; omega) _⟩
theorem IntsOwn.base {w : World} {base base' : Nat} {v : Value} {l : List Int} (h : IntsOwn w base v l) (hb : base' ≤ base) : IntsOwn w base' v l := own_base h hb
theorem NodesOwn.base {w : World} {base base' : Nat} {v : Value} {l : List NodeD} (h : NodesOwn w base v l) (hb : base' ≤ base) : NodesOwn w base' v l := by
 obtain ⟨css, h1, h2, h3⟩ := h
 refine ⟨css, h1, own_base h2 hb, fun k x hx => ?_⟩
 obtain ⟨av, q1, q2⟩ := h3 k x hx
 exact ⟨av, q1, own_base q2 hb⟩
theorem GraphOwn.base {w : World} {base base' : Nat} {cs : List Value} {g : GraphD} (h : GraphOwn w base cs g) (hb : base' ≤ base) : GraphOwn w base' cs g := by
 obtain ⟨pv, kv, iv, nv, h1, h2, h3, h4, h5⟩ := h
 exact ⟨pv, kv, iv, nv, h1, own_base h2 hb, own_base h3 hb, own_base h4 hb, h5.base hb⟩

end Go.Proofs.YtnfjjliiajaijaaDoor
namespace Go.Proofs.YtnfjjliiajaijaaDoor
open Go.RowKit

theorem clone_ints (A : Option Addr) (n c : Nat) (xs : List Value) (w : World) (B : Nat) (hr : Reads w B 1 A n xs) (hone : ∀ u ∈ xs, u.oneCell' = true) (hnc : n ≤ c) (hc : c ≤ maxLen) (hB : B ≤ w.heap.size) (hs : n * 8 ≤ 140737488351232) :
  Calls Tryd.prog 59 #[.slice A n c] w fun e w' => Below w.heap.size w w' ∧ ∃ V x, e = .returned (.slice V n x) ∧ w'.ownsRow w.heap.size 3 1 (.slice V n x) n xs := by
 obtain ⟨i0, hi0, hz0, hz1, hz2⟩ := info_parts infoIntr
 unfold maxLen at hc
 rcases A with _ | ad
 ·have hn : n = 0 := by
   rcases Nat.eq_zero_or_pos n with h0 | h0
   ·exact h0
   ·obtain ⟨ad, h, _⟩ := hr.2 h0; cases h
  subst hn
  have hx : xs = [] := List.eq_nil_of_length_eq_zero (by simpa using hr.1)
  subst hx
  clear hr hone
  have hq := fun W : World => (Lib.run_eql_slice_nil (P := Tryd.prog) W 40 _ none 0 c 0 0 Tryd.underlying40)
  go_enter Tryd.func59, Tryd.ntmps59
  go_wp2_with fail
  go_ret
  exact ⟨Below.refl _ _, _, _, rfl, World.ownsRow_nil _ _ _ _⟩
 ·have hE := own_lit0 w 3 1
  have hSrc := hr.alloc hB (.cells #[] 3)
  obtain ⟨Hr, HE, HSrc, Hone⟩ := hd4 hr hE hSrc hone
  clear hone hSrc hE hr
  have hq := fun W : World => (Lib.run_eql_slice_nil (P := Tryd.prog) W 40 _ (some ad) n c 0 0 Tryd.underlying40)
  go_enter Tryd.func59, Tryd.ntmps59
  go_wp2_with (first
   | (at_builtin
      refine wpList_append_any _ rfl (.tmp 5) (.tmp 6) _ rfl w.heap.size 3 i0 _ 1 8 Tryd.underlying40 hi0 hz0 hz1 hz2 rfl (by omega) (.slice (some ⟨w.heap.size, 0, none⟩) 0 0) 0 [] rfl HE.out B (some ad) n c xs rfl HSrc.out ?c1 ?c2 ?c3 ?c4 ?_
      case c1 => exact Hone.out
      case c2 => unfold maxLen; omega
      case c3 => omega
      case c4 => simp
      intro v5 w5 hown5 hg5 hat5))
  have hO5 := own_app (ys := xs) hown5 rfl
  obtain ⟨V, x, rfl, _⟩ := own_any hO5
  have hb5 : Below w.heap.size w w5 := ((Below.refl _ _).alloc (Nat.le_refl _) _).grown hg5 (by simp) (fun k e => by injection e with e; simp only at e; omega)
  obtain ⟨Hown5, HO5, Hg5, Hat5, Hb5⟩ := hd5 hown5 hO5 hg5 hat5 hb5
  clear hb5 hat5 hg5 hO5 hown5
  go_ret
  exact ⟨Hb5.out, V, x, rfl, HO5.out⟩
theorem clone_kinds (A : Option Addr) (n c : Nat) (xs : List Value) (w : World) (B : Nat) (hr : Reads w B 1 A n xs) (hone : ∀ u ∈ xs, u.oneCell' = true) (hnc : n ≤ c) (hc : c ≤ maxLen) (hB : B ≤ w.heap.size) (hs : n * 1 ≤ 140737488351232) :
  Calls Tryd.prog 60 #[.slice A n c] w fun e w' => Below w.heap.size w w' ∧ ∃ V x, e = .returned (.slice V n x) ∧ w'.ownsRow w.heap.size 87 1 (.slice V n x) n xs := by
 obtain ⟨i0, hi0, hz0, hz1, hz2⟩ := info_parts infoKindr
 unfold maxLen at hc
 rcases A with _ | ad
 ·have hn : n = 0 := by
   rcases Nat.eq_zero_or_pos n with h0 | h0
   ·exact h0
   ·obtain ⟨ad, h, _⟩ := hr.2 h0; cases h
  subst hn
  have hx : xs = [] := List.eq_nil_of_length_eq_zero (by simpa using hr.1)
  subst hx
  clear hr hone
  have hq := fun W : World => (Lib.run_eql_slice_nil (P := Tryd.prog) W 41 _ none 0 c 0 0 Tryd.underlying41)
  go_enter Tryd.func60, Tryd.ntmps60
  go_wp2_with fail
  go_ret
  exact ⟨Below.refl _ _, _, _, rfl, World.ownsRow_nil _ _ _ _⟩
 ·have hE := own_lit0 w 87 1
  have hSrc := hr.alloc hB (.cells #[] 87)
  obtain ⟨Hr, HE, HSrc, Hone⟩ := hd4 hr hE hSrc hone
  clear hone hSrc hE hr
  have hq := fun W : World => (Lib.run_eql_slice_nil (P := Tryd.prog) W 41 _ (some ad) n c 0 0 Tryd.underlying41)
  go_enter Tryd.func60, Tryd.ntmps60
  go_wp2_with (first
   | (at_builtin
      refine wpList_append_any _ rfl (.tmp 5) (.tmp 6) _ rfl w.heap.size 87 i0 _ 1 1 Tryd.underlying41 hi0 hz0 hz1 hz2 rfl (by omega) (.slice (some ⟨w.heap.size, 0, none⟩) 0 0) 0 [] rfl HE.out B (some ad) n c xs rfl HSrc.out ?c1 ?c2 ?c3 ?c4 ?_
      case c1 => exact Hone.out
      case c2 => unfold maxLen; omega
      case c3 => omega
      case c4 => simp
      intro v5 w5 hown5 hg5 hat5))
  have hO5 := own_app (ys := xs) hown5 rfl
  obtain ⟨V, x, rfl, _⟩ := own_any hO5
  have hb5 : Below w.heap.size w w5 := ((Below.refl _ _).alloc (Nat.le_refl _) _).grown hg5 (by simp) (fun k e => by injection e with e; simp only at e; omega)
  obtain ⟨Hown5, HO5, Hg5, Hat5, Hb5⟩ := hd5 hown5 hO5 hg5 hat5 hb5
  clear hb5 hat5 hg5 hO5 hown5
  go_ret
  exact ⟨Hb5.out, V, x, rfl, HO5.out⟩
end Go.Proofs.YtnfjjliiajaijaaDoor
namespace Go.Proofs.YtnfjjliiajaijaaDoor
open Go.RowKit

theorem RowsAt.slice {α : Type} {size : Nat} {R : World → Nat → List Value → α → Prop} {w : World} {B : Nat} {v : Value} {l : List α} (h : RowsAt size R w B v l) : ∃ A c, v = .slice A l.length c ∧ l.length ≤ c ∧ c ≤ maxLen := by
 obtain ⟨A, n, c, css, rfl, h2, h3, h4, _⟩ := h
 exact ⟨A, c, by rw [h4], by omega, h3⟩
/-- a node's cells that the walks ask for -/
theorem node_cells {w : World} {B c : Nat} {A : Option Addr} {ns : List NodeD} {N : Nat} (h : RowsAt 12 NodeAt w B (.slice A N c) ns) {x : Nat} (hx : x < ns.length) :
  ∃ ad, A = some ad ∧ w.cell? (ad.add (x * 12)) = some (.int .u8 (nd ns x).op) ∧ w.cell? ⟨(ad.add (x * 12)).block, (ad.add (x * 12)).off + 10, none⟩ = some (.int .i64 (nd ns x).next) := by
 obtain ⟨ad, cs, hA, _, _, _, hNode, n0, nj⟩ := RowsAt.at_ h (nd_get hx)
 obtain ⟨av, rfl, _⟩ := hNode
 exact ⟨ad, hA, n0 _ rfl, nj 10 _ (by omega) rfl⟩
theorem through_any {w : World} {B lp M : Nat} {ga : Addr} {g : GraphD} {pv kv iv nv ov tv : Value} (hL : Blk w lp 121 #[.pointer (some ga), .map (some M), ov, tv]) (hG : GraphM w B ga g pv kv iv nv) (hB : B ≤ w.heap.size)
  (hh : Hop g.nodes) (hn : g.nodes.length ≤ 4096) (i : Nat) (hi : i < g.nodes.length) :
  Calls Tryd.prog 57 #[.pointer (some ⟨lp, 0, none⟩), .int .i64 i] w fun e w' => e = .returned (.int .i64 (thru g.nodes i : Nat)) ∧ Below w.heap.size w w' := by
 obtain ⟨r, hr⟩ : ∃ r, thru g.nodes i = r := ⟨_, rfl⟩
 rw [hr]
 obtain ⟨NA, nc, rfl, _, _⟩ := hG.nodes.slice
 obtain ⟨ns, hns⟩ : ∃ ns, g.nodes = ns := ⟨_, rfl⟩
 obtain ⟨N, hN⟩ : ∃ N, ns.length = N := ⟨_, rfl⟩
 rw [hns] at hh hn hi hr
 rw [hN] at hn hi
 have hle : ∀ {k : Nat}, hops ns k i < N := fun {k} => by rw [← hN]; exact hops_lt hh k (by rw [hN]; exact hi)
 have hLl := hL.lt
 have hmm := @run_makeMap Tryd.prog
 have hm0 := IMap.made w
 have hb0 : Below w.heap.size w (w.alloc (.map #[] 0)) := (Below.refl _ _).alloc (Nat.le_refl _) _
 have hGn := hG.nodes
 rw [hns, hN] at hGn
 obtain ⟨HL, HG, Hh, Hr, HN, Hm0, Hb0, Hns⟩ := hd8 hL hG hh hr hN hm0 hb0 hns
 clear hns hb0 hm0 hN hr hh hG hL
 go_enter Tryd.func57, Tryd.ntmps57
 try go_wp2_with fail
 go_step3
 go_wp2_with fail
 go_step3
 go_wp2_with fail
 go_loopg [1] N (fun gk iv wr => ∃ (k x : Nat) (f : Nat → Option Nat), k + gk = N ∧ iv = .int .i64 x ∧ Hid (hops ns k i = x) ∧ Hid (IMap wr w.heap.size k f) ∧ Hid (cardF f N = k ∧ ∀ v c, f v = some c → c = 1 ∧ ∃ a, a < k ∧ v = hops ns a i) ∧ Hid (∀ b, b < k → (nd ns (hops ns b i)).op = 10) ∧ Hid (Below w.heap.size w wr))
 case atStart => exact ⟨0, i, _, by omega, rfl, Lib.hid rfl, Hm0, Lib.hid ⟨cardF_none N, nofun⟩, Lib.hid (fun b h => absurd h (by omega)), Hb0⟩
 case round =>
  obtain ⟨k, x, f, hk, rfl, hx, hM, hf, hall, hbq⟩ := hrel
  have hLq := HL.out.below hbq.out hLl
  have kl0 := Blk.cell hLq 0
  simp only [List.getElem?_toArray, List.getElem?_cons_zero, List.getElem?_cons_succ] at kl0
  have hGq := HG.out.below (hbq.out.mono hB)
  have g6 := hGq.c6
  rw [Hns.out, HN.out] at g6
  have hxN : x < N := by rw [← hx.out]; exact hle
  obtain ⟨nad, hNA, n0, n10⟩ := node_cells (show RowsAt 12 NodeAt wr B (.slice NA N nc) ns by have := hGq.nodes; rwa [Hns.out, HN.out] at this) (x := x) (by rw [HN.out]; exact hxN)
  subst hNA
  have hl := hM.out.look x (by omega)
  have hxI : (x : Int) < N := by omega
  obtain ⟨op, hxo⟩ : ∃ op, (nd ns x).op = op := ⟨_, rfl⟩
  obtain ⟨nx, hnx⟩ : ∃ nx, (nd ns x).next = nx := ⟨_, rfl⟩
  rw [hxo] at n0
  rw [hnx] at n10
  by_cases h10 : op = 10
  ·subst h10
   have hnb := Hh.out _ (nd_mem (by rw [HN.out]; exact hxN)) hxo
   rw [hnx, HN.out] at hnb
   obtain ⟨y, rfl⟩ := Int.eq_ofNat_of_zero_le hnb.1
   have hy : hop ns x = y := by rw [hop_nop hxo, hnx, Int.toNat_natCast]
   have hsx : hops ns (k + 1) i = y := by rw [hops_succ, hx.out, hy]
   have hyN : y < N := by omega
   rcases hfx : f x with _ | c
   ·have hkN : k < N := by have := cardF_room hfx hxN; rw [hf.out.1] at this; exact this
    have hcard : cardF (upd f x 1) N = k + 1 := by rw [cardF_upd hfx hxN, hf.out.1]
    have hnew : ∀ v c, upd f x 1 v = some c → c = 1 ∧ ∃ a, a < k + 1 ∧ v = hops ns a i := by
     intro v c hv
     by_cases hvx : v = x
     ·subst hvx
      rw [upd_at] at hv
      injection hv with hv
      exact ⟨hv.symm, k, by omega, hx.out.symm⟩
     ·rw [upd_ne hvx] at hv
      obtain ⟨h1, a, h2, h3⟩ := hf.out.2 v c hv
      exact ⟨h1, a, by omega, h3⟩
    have hall2 : ∀ b, b < k + 1 → (nd ns (hops ns b i)).op = 10 := fun b hb => by
     by_cases hbk : b = k
     ·rw [hbk, hx.out]; exact hxo
     ·exact hall.out b (by omega)
    rw [hfx] at hl
    simp only [Option.getD_none, Int.ofNat_eq_natCast, Int.natCast_zero] at hl
    have hgk : 0 < gk := by omega
    have hlz : wr.heap.size ≥ w.heap.size := hbq.out.size
    obtain ⟨HLq, HGq, Hxo, Hnx, Hnb, Hy, Hsx, Hfx⟩ := hd8 hLq hGq hxo hnx hnb hy hsx hfx
    obtain ⟨Hcard, Hnew, Hall2, Hk, HLOOK⟩ := hd5 hcard hnew hall2 hk hl
    clear hl hk hall2 hnew hcard hfx hsx hy hnb hnx hxo hGq hLq
    have hl : (Instr.lookup 64 (.map (some w.heap.size)) (.int .i64 x) false).run Tryd.prog wr = .ok (.int .i64 0) wr := HLOOK.out
    go_wp2_with (first
     | (at_mapUpdate
        refine wpList_put _ rfl _ _ _ rfl w.heap.size k f rfl hM.out (by unfold maxLen; omega) x 1 (by omega) (by omega) rfl rfl ?_
        intro w1 hM1 hg1
        have hb1 : Below w.heap.size w w1 := hbq.out.grown hg1 hlz (fun g e => by injection e with e; omega)
        have hL1 := HL.out.below hb1 hLl
        have q0 := Blk.cell hL1 0
        simp only [List.getElem?_toArray, List.getElem?_cons_zero, List.getElem?_cons_succ] at q0
        have hG1 := HG.out.below (hb1.mono hB)
        have q6 := hG1.c6
        rw [Hns.out, HN.out] at q6
        obtain ⟨nad', hNA', q7, q10⟩ := node_cells (show RowsAt 12 NodeAt w1 B (.slice (some nad) N nc) ns by have := hG1.nodes; rwa [Hns.out, HN.out] at this) (x := x) (by rw [HN.out]; exact hxN)
        injection hNA' with hNA'
        subst hNA'
        rw [Hxo.out] at q7
        rw [Hnx.out] at q10
        have HM1 := Lib.hid hM1
        have Hb1 := Lib.hid hb1
        clear hM1 hg1 hb1 hL1 hG1))
    go_roundg (gk - 1)
    case measure => omega
    case rel => exact ⟨k + 1, y, upd f x 1, by have := Hk.out; omega, rfl, Lib.hid Hsx.out, HM1, Lib.hid ⟨Hcard.out, Hnew.out⟩, Lib.hid Hall2.out, Hb1⟩
   ·obtain ⟨rfl, a, hak, hxa⟩ := hf.out.2 x c hfx
    rw [hfx] at hl
    have hl : (Instr.lookup 64 (.map (some w.heap.size)) (.int .i64 x) false).run Tryd.prog wr = .ok (.int .i64 1) wr := hl
    have hp : hops ns (k - a) x = x := by
     have h1 := hops_add (ns := ns) a (k - a) i
     rw [show a + (k - a) = k by omega, hx.out, ← hxa] at h1
     exact h1.symm
    have h1y : hops ns 1 x = y := hy
    obtain ⟨HLq, HGq, Hxo, Hnx, Hnb, Hy, Hsx, Hfx⟩ := hd8 hLq hGq hxo hnx hnb hy hsx hfx
    obtain ⟨Hk, Hp, H1y, Hxa, Hak⟩ := hd5 hk hp h1y hxa hak
    clear hak hxa h1y hp hk hfx hsx hy hnb hnx hxo hGq hLq
    go_wp2_with fail
    go_loopg [6, 7] (k - a - 1) (fun gk2 lv jv wr2 => ∃ m l z : Nat, wr2 = wr ∧ Hid (1 ≤ m) ∧ Hid (m + gk2 = k - a) ∧ lv = .int .i64 l ∧ jv = .int .i64 z ∧ Hid (l = minK ns x m) ∧ Hid (z = hops ns m x))
    case atStart => exact ⟨1, x, y, rfl, Lib.hid (by omega), Lib.hid (by have := Hak.out; omega), rfl, rfl, Lib.hid (by simp [minK, hops]), Lib.hid H1y.out.symm⟩
    case round =>
     obtain ⟨m, l, z, rfl, hm1, hmk, rfl, rfl, hlm, hzm⟩ := hrel
     by_cases hzx : z = x
     ·subst hzx
      have hfin : r = l := by
       rw [← Hr.out, thru_ring (k := k) (p := m) hm1.out (by rw [HN.out]; have := Hk.out; omega) (by rw [HN.out]; have := Hk.out; have := hmk.out; omega) (by rw [hx.out]; exact Hxo.out) (by rw [hx.out]; exact hzm.out.symm), hx.out, hlm.out]
      have Hfin := Lib.hid hfin
      clear hfin
      go_wp2_with fail
      try rw [Exit.noGoto_ret]
      go_ret
      rw [Hfin.out]
      exact ⟨rfl, hbq.out⟩
     ·have hz2 : (z == x) = false := by simp [hzx]
      have hmlt : m < k - a := by
       rcases Nat.lt_or_ge m (k - a) with h | h
       ·exact h
       ·exfalso
        have : m = k - a := by have := hmk.out; omega
        apply hzx
        rw [hzm.out, this]
        exact Hp.out
      have hzi : z = hops ns (a + m) i := by rw [hops_add, ← Hxa.out]; exact hzm.out
      have hzN : z < N := by rw [hzi]; exact hle
      have hzo : (nd ns z).op = 10 := by rw [hzi]; exact hall.out (a + m) (by omega)
      have hzb := Hh.out _ (nd_mem (by rw [HN.out]; exact hzN)) hzo
      rw [HN.out] at hzb
      obtain ⟨nad', hNA', p0, p10⟩ := node_cells (show RowsAt 12 NodeAt wr B (.slice (some nad) N nc) ns by have := HGq.out.nodes; rwa [Hns.out, HN.out] at this) (x := z) (by rw [HN.out]; exact hzN)
      injection hNA' with hNA'
      subst hNA'
      obtain ⟨nz, hnz⟩ : ∃ nz, (nd ns z).next = nz := ⟨_, rfl⟩
      rw [hzo] at p0
      rw [hnz] at hzb p10
      obtain ⟨t, rfl⟩ := Int.eq_ofNat_of_zero_le hzb.1
      have ht : t = hops ns (m + 1) x := by rw [hops_succ, ← hzm.out, hop_nop hzo, hnz, Int.toNat_natCast]
      have hzI : (z : Int) < N := by omega
      have hmn : min l z = minK ns x (m + 1) := by rw [hlm.out, hzm.out]; rfl
      have hgk : 0 < gk := by have := hmk.out; omega
      obtain ⟨Hzi, Hzo, Hzb, Hnz, Ht, Hmn, Hmlt⟩ := hd7 hzi hzo hzb hnz ht hmn hmlt
      clear hmlt hmn ht hnz hzb hzo hzi
      go_wp2_with fail
      all_goals
       obtain ⟨u, hu⟩ : ∃ u, u = min l z := ⟨_, rfl⟩
       have hu' : (u : Int) = min (l : Int) z := by omega
       go_roundg (gk - 1)
       case measure => omega
       case rel => exact ⟨m + 1, u, t, rfl, Lib.hid (by omega), Lib.hid (by have := hmk.out; omega), by congr 1; omega, rfl, Lib.hid (hu.trans Hmn.out), Lib.hid Ht.out⟩
  ·have hqo : (op == 10) = false := by simp [h10]
   have hfin : r = x := by rw [← Hr.out, thru_stop (k := k) (by rw [HN.out]; omega) (by rw [hx.out, hxo]; exact h10), hx.out]
   obtain ⟨HLq, HGq, Hl, Hxo, Hnx, Hfin⟩ := hd6 hLq hGq hl hxo hnx hfin
   clear hfin hnx hxo hl hGq hLq
   go_wp2_with fail
   try rw [Exit.noGoto_ret]
   go_ret
   rw [Hfin.out]
   exact ⟨rfl, hbq.out⟩
end Go.Proofs.YtnfjjliiajaijaaDoor
namespace Go.Proofs.YtnfjjliiajaijaaDoor
open Go.RowKit

/-- v is the back part of a row of the call's own; it holds xs -/
def Tail (w : World) (base : Nat) (e : TypeId) (v : Value) (xs : List Value) : Prop :=
 ∃ (dead : List Value) (g k n c C : Nat), v = .slice (some ⟨g, k, none⟩) n c ∧ w.ownsRow base e 1 (.slice (some ⟨g, 0, none⟩) (k + n) C) (k + n) (dead ++ xs) ∧ dead.length = k ∧ xs.length = n ∧ n ≤ c ∧ k + c ≤ C
section
variable {w w' : World} {base : Nat} {e : TypeId} {v : Value} {xs : List Value}
theorem Tail.of_own {g n c : Nat} (h : w.ownsRow base e 1 (.slice (some ⟨g, 0, none⟩) n c) n xs) : Tail w base e (.slice (some ⟨g, 0, none⟩) n c) xs := by
 have hl := h.1
 have hc : n ≤ c := by
  rcases h.2 with ⟨h0, _⟩ | ⟨g', cap, cur, hv, _, _, h1, _⟩
  ·cases h0
  ·injection hv with _ _ hv; omega
 exact ⟨[], g, 0, n, c, c, rfl, by simpa using h, rfl, by simpa using hl, hc, by omega⟩
theorem Tail.form (h : Tail w base e v xs) : ∃ A c, v = .slice A xs.length c ∧ xs.length ≤ c ∧ c ≤ maxLen ∧ Reads w w.heap.size 1 A xs.length xs := by
 obtain ⟨dead, g, k, n, c, C, rfl, h, hd, hx, hc, hC⟩ := h
 subst hx
 have hR := Reads.of_own h
 have hm : C ≤ maxLen := by
  rcases h.2 with ⟨h0, _⟩ | ⟨g', cap, cur, hv, _, _, _, h1, _⟩
  ·cases h0
  ·injection hv with _ _ hv; omega
 refine ⟨_, c, rfl, hc, by omega, ⟨by omega, fun hn => ?_⟩⟩
 obtain ⟨ad, hA, hb, hcell⟩ := hR.2 (by omega)
 injection hA with hA
 subst hA
 refine ⟨_, rfl, hb, fun j u hu => ?_⟩
 have := hcell (k + j) u (by rw [List.getElem?_append_right (by omega), hd, Nat.add_sub_cancel_left]; exact hu)
 rw [Addr.add_lit, Nat.zero_add] at this
 rw [Addr.add_lit]
 exact this
theorem Tail.block (h : Tail w base e v xs) : ∃ g, v.ownBlock = some g ∧ base ≤ g ∧ g < w.heap.size := by
 obtain ⟨dead, g, k, n, c, C, rfl, h, _⟩ := h
 exact ⟨g, rfl, h.lt g rfl⟩
theorem Tail.kept {row : Option Nat} (h : Tail w base e v xs) (hg : w.grownBy w' row) (hne : v.ownBlock ≠ row) : Tail w' base e v xs := by
 obtain ⟨dead, g, k, n, c, C, rfl, h, h1⟩ := h
 exact ⟨dead, g, k, n, c, C, rfl, h.kept hg (.inr hne), h1⟩
theorem Tail.alloc (h : Tail w base e v xs) (o : Obj) : Tail (w.alloc o) base e v xs := by
 obtain ⟨g, hg, _⟩ := h.block
 exact h.kept (World.grownBy_alloc w o none) (by rw [hg]; nofun)
/-- the first one is taken away -/
theorem Tail.rest {x : Value} {A : Option Addr} {n c : Nat} (h : Tail w base e (.slice A n c) (x :: xs)) : Tail w base e (.slice (if c = 1 then A else A.map (·.add 1)) (n - 1) (c - 1)) xs := by
 obtain ⟨dead, g, k, n', c', C, hv, h, hd, hx, hc, hC⟩ := h
 injection hv with h1 h2 h3
 subst h1 h2 h3
 simp only [List.length_cons] at hx
 by_cases hc1 : c = 1
 ·rw [if_pos hc1]
  have hn : n = 1 := by omega
  have hxs : xs = [] := List.eq_nil_of_length_eq_zero (by omega)
  subst hxs hn
  -- the row as it was cut at the front: its last one is dead
  refine ⟨dead, g, k, 0, 0, C, by rw [hc1], ?_, hd, rfl, Nat.le_refl _, by omega⟩
  rcases h.2 with ⟨h0, _⟩ | ⟨g', cap, cur, hv, hb, hh, k1, k2, k3, k4⟩
  ·cases h0
  ·injection hv with hv1 _ hv3
   injection hv1 with hv1
   injection hv1 with hv1
   subst hv1 hv3
   refine ⟨by simp [hd], .inr ⟨g, C, cur, rfl, hb, hh, by omega, k2, k3, ?_⟩⟩
   have := congrArg (List.take k) k4
   rw [List.take_take, List.take_left' hd] at this
   rw [List.append_nil, ← this]
   congr 1
   omega
 ·rw [if_neg hc1]
  refine ⟨dead ++ [x], g, k + 1, n - 1, c - 1, C, ?_, ?_, by simp [hd], by omega, by omega, by omega⟩
  ·simp [Addr.add]
  ·rw [List.append_assoc, List.singleton_append, show k + 1 + (n - 1) = k + n by omega]; exact h
end
section
variable {P : Program} (w : World)
theorem run_append_tail (base : Nat) (t ty e : TypeId) (i : TypeInfo) (z : Value) (bytes : Nat) (ht : P.underlying t = some (.slice e)) (hi : P.info? e = some i) (hz : i.zero = some z)
  (hsize : i.size = 1) (hby : i.bytes = bytes) (hzs : z.cells.size = 1) (v : Value) (xs : List Value) (hown : Tail w base e v xs)
  (a : Addr) (c0 : Nat) (u : Value) (hu : w.cell? a = some u) (h1 : u.oneCell' = true) (h63 : xs.length + 1 ≤ maxLen) (hbytes : (xs.length + 1) * bytes ≤ 140737488355328) (hbase : base ≤ w.heap.size) :
  ∃ v' w', (Builtin.append_ #[t, t] ty #[v, .slice (some a) 1 c0]).run P w = .ok v' w' ∧ Tail w' base e v' (xs ++ [u]) ∧ w.grownBy w' v.ownBlock ∧ (v'.ownBlock = v.ownBlock ∨ v'.ownBlock = some w.heap.size) := by
 obtain ⟨dead, g, k, n, c, C, rfl, h, hd, hx, hc, hC⟩ := hown
 subst hby
 have hnews : ∀ j v, [u][j]? = some v → w.cell? (a.add j) = some v := fun j v hv => by
  match j, hv with
  | 0, hv => simp at hv; subst hv; simpa [Addr.add] using hu
 by_cases hroom : n + 1 ≤ c
 ·rcases h.2 with ⟨h0, _⟩ | ⟨g', cap, cur, hv, hb, hh, k1, k2, k3, k4⟩
  ·cases h0
  ·injection hv with hv1 _ hv3
   injection hv1 with hv1
   injection hv1 with hv1
   subst hv1 hv3
   have hf := run_firstCells_some (P := P) w i.size 1 a 1 c0 [u] (by simp [hsize]) hnews
   have hst := run_storeCells_at P g (k + n) e [u] 0 cur w hh (by simp [k3]; omega) (by simpa using h1)
   simp only [Nat.add_zero] at hst
   rw [hsize] at hf
   refine ⟨.slice (some ⟨g, k, none⟩) (n + 1) c, w.setRow g (cur.toList.take (k + n) ++ [u] ++ cur.toList.drop (k + n + 1)).toArray, ?_, ⟨dead, g, k, n + 1, c, C, rfl, ⟨by simp only [List.length_append, List.length_singleton, hd, hx]; omega, .inr ⟨g, C, _, rfl, hb, setRow_heap w g cur (cur.toList.take (k + n) ++ [u] ++ cur.toList.drop (k + n + 1)).toArray e _ hh, by omega, k2, ?_, ?_⟩⟩, hd, by simp [hx], hroom, hC⟩, ⟨rfl, rfl, rfl, by simp, fun j _ hj => setRow_other w g j (cur.toList.take (k + n) ++ [u] ++ cur.toList.drop (k + n + 1)).toArray (fun e => hj (by simp [Value.ownBlock, e]))⟩, .inl rfl⟩
   ·simp [Builtin.append_, run_underlying ht, sizeOf, typeInfo, hi, Builtin.lenOf, hroom, hf, Addr.add_lit, hsize]
    have hst' : (storeCells ⟨g, k + n, none⟩ [u]).run P w = .ok () (w.setRow g (List.take (k + n) cur.toList ++ u :: List.drop (k + n + 1) cur.toList).toArray) := by simpa using hst
    rw [hst']
    rfl
   ·simp only [List.size_toArray, List.length_append, List.length_take, List.length_drop, Array.length_toList, k3, List.length_singleton]
    omega
   ·rw [Nat.mul_one] at k4 ⊢
    rw [List.toList_toArray, k4, show k + (n + 1) = (dead ++ xs ++ [u]).length by simp only [List.length_append, List.length_singleton, hd, hx]; omega, List.append_assoc dead xs [u]] 
    exact List.take_left
 ·have holds : ∀ j v, xs[j]? = some v → w.cell? ((⟨g, k, none⟩ : Addr).add j) = some v := fun j v hv => by
   obtain ⟨A, c', e', _, _, hR⟩ := Tail.form ⟨dead, g, k, n, c, C, rfl, h, hd, hx, hc, hC⟩
   injection e' with e1 e2 e3
   obtain ⟨ad, hA, _, hcell⟩ := hR.2 (by have := (List.getElem?_eq_some_iff.1 hv).1; omega)
   rw [← e1] at hA
   injection hA with hA
   subst hA
   exact hcell j v hv
  subst hx
  have hr := run_append_grow (P := P) w t ty e i z ht hi hz ⟨g, k, none⟩ xs.length c xs (by simp [hsize]) holds a 1 c0 [u] (by simp [hsize]) hnews (by omega) (by simp only [maxLen] at h63; omega) (growslice_fits (by omega) hbytes)
  have hge := grownCap_ge w (xs.length + 1) c e
  have hcm : grownCap w (xs.length + 1) c e ≤ maxLen := grownCap_le_maxLen w (xs.length + 1) c e h63
  refine ⟨_, _, hr, Tail.of_own ⟨by simp, .inr ⟨w.heap.size, _, _, rfl, hbase, heap_alloc_new w.drew _, hge, hcm, ?_, ?_⟩⟩, ⟨rfl, rfl, rfl, by simp, fun j hj _ => by first | exact heap_alloc_old w.drew _ j hj | exact heap_alloc_old w.drew _ hj⟩, .inr rfl⟩
  ·simp only [Array.size_append, List.size_toArray, size_zeroCells, hzs, List.length_singleton]
   omega
  ·simp only [Array.toList_append, List.append_assoc, Nat.mul_one]
   rw [← List.append_assoc, show xs.length + 1 = (xs ++ [u]).length by simp]
   exact List.take_left
theorem step_append_tail {ops : Array Oper} {o : Oper} {a : Act} {K : Act → World → Prop} {Q : Exit → Act → World → Prop} {E : Prop} (hgd : o.guard = none) (s x : Operand) (t : TypeId)
  (ho : o.op = .call { callee := .builtin .append, args := #[s, x], argTypes := #[t, t] })
  (base : Nat) (e : TypeId) (i : TypeInfo) (z : Value) (bytes : Nat) (ht : P.underlying t = some (.slice e)) (hi : P.info? e = some i) (hz : i.zero = some z)
  (hsize : i.size = 1) (hby : i.bytes = bytes) (hzs : z.cells.size = 1) (v : Value) (xs : List Value) (hs : a.eval s = v) (hown : Tail w base e v xs)
  (ad : Addr) (c0 : Nat) (u : Value) (hx : a.eval x = .slice (some ad) 1 c0) (hu : w.cell? ad = some u) (h1 : u.oneCell' = true) (h63 : xs.length + 1 ≤ maxLen) (hbytes : (xs.length + 1) * bytes ≤ 140737488355328) (hbase : base ≤ w.heap.size)
  (h : ∀ v' w', Tail w' base e v' (xs ++ [u]) → w.grownBy w' v.ownBlock → (v'.ownBlock = v.ownBlock ∨ v'.ownBlock = some w.heap.size) → K (a.put o.dst v') w') :
  if Region.wanted o (yielded ops a.tmps) = true then Oper.wp P o a w K Q else E := by
 obtain ⟨v', w', hrun, h2, h3, h4⟩ := run_append_tail (P := P) w base t o.type e i z bytes ht hi hz hsize hby hzs v xs hown ad c0 u hu h1 h63 hbytes hbase
 rw [if_pos (by simp [Region.wanted, hgd])]
 unfold Oper.wp execOp
 simp only [ho, resolve, invoke, builtin, Sem.run_bind, Sem.run_pure, Result.andThen_ok, List.map_toArray, List.map_cons, List.map_nil, hs, hx, hrun]
 exact h v' w' h2 h3 h4
end
end Go.Proofs.YtnfjjliiajaijaaDoor
namespace Go.Proofs.YtnfjjliiajaijaaDoor
open Go.RowKit

/-- a change that touches no row of type e -/
def Other (w : World) (e : TypeId) (row : Option Nat) : Prop := ∀ g, row = some g → w.heap.size ≤ g ∨ ∀ cs, w.heap[g]? ≠ some (.cells cs e (0, 0))
section
variable {w w' : World} {base n size : Nat} {e e' : TypeId} {v : Value} {xs : List Value} {row : Option Nat}
theorem Other.none_ (w : World) (e : TypeId) : Other w e none := nofun
theorem Other.blk {g : Nat} {t : TypeId} {cs : Array Value} (h : Blk w g t cs) (hne : t ≠ e) : Other w e (some g) := fun k hk => by
 injection hk with hk
 subst hk
 refine .inr fun cs' h' => ?_
 unfold Blk at h
 rw [h] at h'
 injection h' with h'
 injection h' with _ h'
 exact hne h'
theorem Other.map {b m : Nat} {f : Nat → Option Nat} (h : IMap w b m f) (e : TypeId) : Other w e (some b) := fun k hk => by
 injection hk with hk
 subst hk
 exact .inr fun cs' h' => h.ne_blk (show Blk w b e cs' from h') rfl
theorem own_type (h : w.ownsRow base e size v n xs) {g : Nat} (hg : v.ownBlock = some g) : ∃ cur, w.heap[g]? = some (.cells cur e (0, 0)) := by
 rcases h.2 with ⟨rfl, _⟩ | ⟨g', cap, cur, rfl, _, hh, _⟩
 ·cases hg
 ·have : g' = g := by simpa [Value.ownBlock] using hg
  subst this
  exact ⟨cur, hh⟩
theorem Other.own (h : w.ownsRow base e' size v n xs) (hne : e' ≠ e) : Other w e v.ownBlock := fun g hg => by
 obtain ⟨cur, hh⟩ := own_type h hg
 refine .inr fun cs' h' => ?_
 rw [hh] at h'
 injection h' with h'
 injection h' with _ h'
 exact hne h'
theorem Other.tail (h : Tail w base e' v xs) (hne : e' ≠ e) : Other w e v.ownBlock := by
 obtain ⟨dead, g, k, n, c, C, rfl, h, _⟩ := h
 exact fun j hj => Other.own h hne j hj
theorem Other.ne (ho : Other w e row) (h : w.ownsRow base e size v n xs) : v.ownBlock = none ∨ v.ownBlock ≠ row := by
 rcases hv : v.ownBlock with _ | g
 ·exact .inl rfl
 ·refine .inr fun hr => ?_
  obtain ⟨cur, hh⟩ := own_type h hv
  rcases ho g hr.symm with h1 | h1
  ·have := (h.lt g hv).2; omega
  ·exact h1 cur hh
theorem Other.own_keep (ho : Other w e row) (h : w.ownsRow base e size v n xs) (hg : w.grownBy w' row) : w'.ownsRow base e size v n xs := h.kept hg (ho.ne h)
theorem Other.tail_keep (ho : Other w e row) (h : Tail w base e v xs) (hg : w.grownBy w' row) : Tail w' base e v xs := by
 have h' := h
 obtain ⟨dead, g, k, n, c, C, rfl, h2, _⟩ := h'
 refine h.kept hg ?_
 rcases ho.ne h2 with h3 | h3
 ·cases h3
 ·exact h3
end
/-- nodes in a row of the call's own, their arguments' rows apart from block T -/
def LNodes (w : World) (base : Nat) (T : Option Nat) (v : Value) (l : List NodeD) : Prop :=
 ∃ css : List (List Value), css.length = l.length ∧ w.ownsRow base 55 12 v l.length css.flatten ∧ ∀ (k : Nat) x, l[k]? = some x → ∃ av, css[k]? = some (ncells x av) ∧ IntsOwn w base av x.args ∧ ∀ g, av.ownBlock = some g → T ≠ some g
section
variable {w w' : World} {base : Nat} {T : Option Nat} {v : Value} {l : List NodeD} {row : Option Nat}
theorem LNodes.nil (w : World) (base : Nat) (T : Option Nat) : LNodes w base T (.slice none 0 0) [] := ⟨[], rfl, World.ownsRow_nil _ _ _ _, by intro k x h; simp at h⟩
theorem LNodes.nodes (h : LNodes w base T v l) : NodesOwn w base v l := by
 obtain ⟨css, h1, h2, h3⟩ := h
 exact ⟨css, h1, h2, fun k x hx => by
  obtain ⟨av, q1, q2, _⟩ := h3 k x hx
  exact ⟨av, q1, q2⟩⟩
theorem ints_keep {av : Value} {ys : List Int} (h : IntsOwn w base av ys) (hT : ∀ g, av.ownBlock = some g → T ≠ some g) (hg : w.grownBy w' row) (hr : Other w 3 row ∨ row = T) : IntsOwn w' base av ys := by
 rcases hr with hr | rfl
 ·exact hr.own_keep h hg
 ·refine World.ownsRow.kept h hg ?_
  rcases hv : av.ownBlock with _ | g
  ·exact .inl rfl
  ·exact .inr fun e => hT g hv e.symm
theorem LNodes.kept (h : LNodes w base T v l) (hg : w.grownBy w' row) (hn : Other w 55 row) (hr : Other w 3 row ∨ row = T) : LNodes w' base T v l := by
 obtain ⟨css, h1, h2, h3⟩ := h
 refine ⟨css, h1, hn.own_keep h2 hg, fun k x hx => ?_⟩
 obtain ⟨av, q1, q2, q3⟩ := h3 k x hx
 exact ⟨av, q1, ints_keep q2 q3 hg hr, q3⟩
/-- one more is laid at the end -/
theorem LNodes.snoc {v' : Value} {x : NodeD} {av : Value} {css : List (List Value)} (h1 : css.length = l.length) (h3 : ∀ (k : Nat) x, l[k]? = some x → ∃ av, css[k]? = some (ncells x av) ∧ IntsOwn w' base av x.args ∧ ∀ g, av.ownBlock = some g → T ≠ some g)
  (ho : w'.ownsRow base 55 12 v' (l.length + 1) (css.flatten ++ ncells x av)) (ha : IntsOwn w' base av x.args) (haT : ∀ g, av.ownBlock = some g → T ≠ some g) : LNodes w' base T v' (l ++ [x]) := by
 refine ⟨css ++ [ncells x av], by simp [h1], by simpa using ho, fun k y hy => ?_⟩
 rcases Nat.lt_or_ge k l.length with hk | hk
 ·rw [List.getElem?_append_left hk] at hy
  obtain ⟨av', q1, q2⟩ := h3 k y hy
  exact ⟨av', by rw [List.getElem?_append_left (by omega)]; exact q1, q2⟩
 ·rw [List.getElem?_append_right hk] at hy
  have h0 : k - l.length = 0 := by
   have := (List.getElem?_eq_some_iff.1 hy).1
   simp at this; omega
  rw [h0] at hy
  simp only [List.getElem?_cons_zero, Option.some.injEq] at hy
  subst hy
  exact ⟨av, by rw [List.getElem?_append_right (by omega), h1, h0]; rfl, ha, haT⟩
end
/-- the liner -/
structure LinAt (w : World) (base lp M : Nat) (ga : Addr) (N : Nat) (ov tv : Value) (s : LS) : Prop where
 blk : Blk w lp 121 #[.pointer (some ga), .map (some M), ov, tv]
 map : IMap w M (cardF s.at_ N) s.at_
 out : LNodes w base tv.ownBlock ov s.out
 todo : Tail w base 3 tv (s.todo.map fun i => Value.int .i64 (i : Nat))
 lo : base ≤ lp ∧ base ≤ M
section
variable {w w' : World} {base lp M N : Nat} {ga : Addr} {ov tv : Value} {s : LS}
theorem LinAt.below (h : LinAt w base lp M ga N ov tv s) (hb : Below w.heap.size w w') : LinAt w' base lp M ga N ov tv s :=
 ⟨h.blk.below hb h.blk.lt, h.map.below hb h.map.lt, h.out.kept (only_of_below hb none) (Other.none_ _ _) (.inl (Other.none_ _ _)), Other.tail_keep (Other.none_ _ _) h.todo (only_of_below hb none), h.lo⟩
/-- a store far from all of it -/
theorem LinAt.far (h : LinAt w base lp M ga N ov tv s) {p : Addr} (hp1 : lp ≠ p.block) {t : TypeId} {cs : Array Value} (hP : Blk w p.block t cs) (hov : ov.ownBlock ≠ some p.block) (ht : t ≠ 3) (u : Value) : LinAt (w.setCell p u) base lp M ga N ov tv s := by
 have hg := grown_setCell w p u
 have hi : Other w 3 (some p.block) := Other.blk hP ht
 refine ⟨h.blk.far hp1 u, h.map.set (h.map.ne_blk hP) u, ?_, hi.tail_keep h.todo hg, h.lo⟩
 obtain ⟨css, h1, h2, h3⟩ := h.out
 refine ⟨css, h1, h2.kept hg (.inr hov), fun k x hx => ?_⟩
 obtain ⟨av, q1, q2, q3⟩ := h3 k x hx
 exact ⟨av, q1, hi.own_keep q2 hg, q3⟩
/-- a node is put into the map -/
theorem LinAt.put (h : LinAt w base lp M ga N ov tv s) {i k : Nat} (hi : s.at_ i = none) (hN : i < N) (hm : IMap w' M (cardF s.at_ N + 1) (upd s.at_ i k)) (hg : w.grownBy w' (some M)) : LinAt w' base lp M ga N ov tv ⟨upd s.at_ i k, s.out, s.todo⟩ :=
 ⟨h.blk.grown hg (fun e => h.map.ne_blk h.blk (Option.some.inj e).symm), (cardF_upd hi hN).symm ▸ hm, h.out.kept hg (Other.map h.map _) (.inl (Other.map h.map _)), Other.tail_keep (Other.map h.map _) h.todo hg, h.lo⟩
/-- a node is laid at the end of the line -/
theorem LinAt.push (h : LinAt w base lp M ga N ov tv s) {v' : Value} {x : NodeD} {av : Value} {css : List (List Value)} (h1 : css.length = s.out.length) (ho0 : w.ownsRow base 55 12 ov s.out.length css.flatten)
  (h3 : ∀ (k : Nat) x, s.out[k]? = some x → ∃ av, css[k]? = some (ncells x av) ∧ IntsOwn w base av x.args ∧ ∀ g, av.ownBlock = some g → tv.ownBlock ≠ some g)
  (ha : IntsOwn w base av x.args) (haT : ∀ g, av.ownBlock = some g → tv.ownBlock ≠ some g)
  (ho : w'.ownsRow base 55 12 v' (s.out.length + 1) (css.flatten ++ ncells x av)) (hg : w.grownBy w' ov.ownBlock) :
  LinAt (w'.setCell ⟨lp, 2, none⟩ v') base lp M ga N v' tv ⟨s.at_, s.out ++ [x], s.todo⟩ := by
 have hL1 := h.blk.grown hg (fun e => own_blk_ne ho0 h.blk (by decide) e.symm)
 have hM1 := h.map.kept hg (h.map.ne_row ho0)
 have hgs := grown_setCell w' ⟨lp, 2, none⟩ v'
 have hi : Other w 3 ov.ownBlock := Other.own ho0 (by decide)
 have hi2 : Other w' 3 (some lp) := Other.blk hL1 (by decide)
 have hn2 : Other w' 55 (some lp) := Other.blk hL1 (by decide)
 refine ⟨by have := hL1.set_ 2 v'; simpa using this, hM1.set (hM1.ne_blk hL1) v', ?_, hi2.tail_keep (hi.tail_keep h.todo hg) hgs, h.lo⟩
 have hl : LNodes w' base tv.ownBlock v' (s.out ++ [x]) := LNodes.snoc h1 (fun k y hy => by
  obtain ⟨av', q1, q2, q3⟩ := h3 k y hy
  exact ⟨av', q1, hi.own_keep q2 hg, q3⟩) ho (hi.own_keep ha hg) haT
 exact hl.kept hgs hn2 (.inl hi2)
/-- one more is to be done -/
theorem LinAt.more (h : LinAt w base lp M ga N ov tv s) {v' : Value} {i : Nat} (hn : Tail w' base 3 v' (s.todo.map (fun i => Value.int .i64 (i : Nat)) ++ [.int .i64 (i : Nat)])) (hg : w.grownBy w' tv.ownBlock) (hat : v'.ownBlock = tv.ownBlock ∨ v'.ownBlock = some w.heap.size) :
  LinAt (w'.setCell ⟨lp, 3, none⟩ v') base lp M ga N ov v' ⟨s.at_, s.out, s.todo ++ [i]⟩ := by
 obtain ⟨gt, hgt, _, hgl⟩ := h.todo.block
 have hnN : Other w 55 tv.ownBlock := Other.tail h.todo (by decide)
 have hneL : some lp ≠ tv.ownBlock := fun e => by
  have ho := Other.tail (e := 121) h.todo (by decide)
  rcases ho lp e.symm with h1 | h1
  ·have := h.blk.lt; omega
  ·exact h1 _ h.blk
 have hneM : some M ≠ tv.ownBlock := fun e => by
  obtain ⟨dead, g, k, n, c, C, rfl, h2, _⟩ := h.todo
  exact h.map.ne_row h2 e
 have hL1 := h.blk.grown hg hneL
 have hM1 := h.map.kept hg hneM
 have hgs := grown_setCell w' ⟨lp, 3, none⟩ v'
 have hi2 : Other w' 3 (some lp) := Other.blk hL1 (by decide)
 have hn2 : Other w' 55 (some lp) := Other.blk hL1 (by decide)
 refine ⟨by have := hL1.set_ 3 v'; simpa using this, hM1.set (hM1.ne_blk hL1) v', ?_, by rw [List.map_append]; exact hi2.tail_keep hn hgs, h.lo⟩
 have hl1 : LNodes w' base v'.ownBlock ov s.out := by
  obtain ⟨css, h1, h2, h3⟩ := h.out
  refine ⟨css, h1, hnN.own_keep h2 hg, fun k x hx => ?_⟩
  obtain ⟨av, q1, q2, q3⟩ := h3 k x hx
  refine ⟨av, q1, ints_keep q2 q3 hg (.inr rfl), fun g hg' => ?_⟩
  rcases hat with e' | e'
  ·rw [e']; exact q3 g hg'
  ·rw [e']
   intro e
   injection e with e
   have := (q2.lt g hg').2
   omega
 exact hl1.kept hgs hn2 (.inl hi2)
end
end Go.Proofs.YtnfjjliiajaijaaDoor
