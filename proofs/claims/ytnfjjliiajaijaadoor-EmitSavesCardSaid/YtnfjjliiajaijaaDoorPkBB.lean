/- Nodes and graphs that came in as an argument, as plain data. No condition. -/
import Derived.Test.YtnfjjliiajaijaaDoorPkBA
import Derived.Test.YtnfjjliiajaijaaDoorPkAB
set_option linter.unusedVariables false
set_option linter.unusedSimpArgs false
set_option maxRecDepth 100000
set_option maxHeartbeats 10000000
namespace Go.Proofs.YtnfjjliiajaijaaDoor
open Go.ChangeShapes Go.WideShapes Go.ChangeAt Go.RowKit Go.Deep

def I64 (n : Int) : Prop := -9223372036854775808 ≤ n ∧ n ≤ 9223372036854775807
def U8 (n : Int) : Prop := 0 ≤ n ∧ n ≤ 255
structure NodeWf (x : NodeD) : Prop where
 op : U8 x.op
 byo : U8 x.byo
 d : I64 x.d
 e : I64 x.e
 a : I64 x.a
 b : I64 x.b
 f : I64 x.f
 cell : I64 x.cell
 imm : U64 x.imm
 next : I64 x.next
 els : I64 x.els
 args : ∀ z ∈ x.args, I64 z
 len : x.args.length * 8 ≤ 140737488351232
structure GraphWf (g : GraphD) : Prop where
 params : ∀ z ∈ g.params, I64 z
 kinds : ∀ z ∈ g.kinds, U8 z
 cells : I64 g.cells
 init : ∀ z ∈ g.init, I64 z
 keep : I64 g.keep
 entry : I64 g.entry
 nodes : ∀ x ∈ g.nodes, NodeWf x
 lenP : g.params.length * 8 ≤ 140737488351232
 lenK : g.kinds.length ≤ 140737488351232
 lenI : g.init.length * 8 ≤ 140737488351232
 lenN : g.nodes.length * 104 ≤ 140737488351232
structure GraphsWf (gs : List GraphD) : Prop where
 each : ∀ g ∈ gs, GraphWf g
 len : gs.length * 128 ≤ 140737488351232
def NodeIn (w : World) (cs : List Value) (x : NodeD) : Prop := NodeAt w w.heap.size cs x ∧ NodeWf x
def GraphIn (w : World) (cs : List Value) (g : GraphD) : Prop := GraphAt w w.heap.size cs g ∧ GraphWf g
def GraphsIn (w : World) (v : Value) (gs : List GraphD) : Prop := GraphsAt w w.heap.size v gs ∧ GraphsWf gs
section
variable {H : Type} {enc : TypeId × Value → H} {w : World}
theorem one_of {v : Value} {u : Value} (h : [v] = [u]) : v = u := by injection h
theorem wf_i64 {n : Int} (h : (Lit.int .i64 n).wf = true) : I64 n := by
 have := bounds_i64 h
 unfold I64; omega
theorem wf_u8 {n : Int} (h : (Lit.int .u8 n).wf = true) : U8 n := by
 have := bounds_u8 h
 unfold U8; omega
theorem wf_u64 {n : Int} (h : (Lit.int .u64 n).wf = true) : U64 n := u64_of_wf h
theorem open_ns {k : IntKind} {t e by_ : Nat} (ht : Tryd.prog.underlying t = some (.slice e)) (he : Tryd.prog.underlying e = some (.int k)) (hC : Tryd.prog.cellsOf e = 1) (hB : Tryd.prog.bytesOf e = by_) {fuel : Nat} {v : Value} {x : DataW H × List MemPlace} (h : DataW.trod enc Tryd.prog w 0 (fun _ => true) true fuel t [v] = some x) (hs : Small Tryd.prog t x.1) :
  ∃ zs : List Int, NumsAt k w w.heap.size v zs ∧ (∀ z ∈ zs, (Lit.int k z).wf = true) ∧ zs.length * by_ ≤ 140737488351232 := by
 obtain ⟨A, n, c, zs, e, hr, hl, hn, hc, hb, hw⟩ := open_nums ht he hC hB h hs
 obtain rfl := one_of e
 exact ⟨zs, ⟨A, n, c, rfl, hn, hc, hl, hr⟩, hw, by rw [hl]; exact Nat.le_trans (Nat.mul_le_mul_right _ hn) hb⟩
theorem open_node {fuel : Nat} {cs : List Value} {x : DataW H × List MemPlace} (h : DataW.trod enc Tryd.prog w 0 (fun _ => true) true fuel 55 cs = some x) (hs : Small Tryd.prog 55 x.1) : ∃ n : NodeD, NodeIn w cs n := by
 obtain ⟨hl, hf⟩ := open_fields Tryd.underlying55 (by kernel_rfl) (by kernel_rfl) h hs
 obtain ⟨v0, n0, y0, h0, t0, s0⟩ := hf 0 _ rfl
 obtain ⟨v1, n1, y1, h1, t1, s1⟩ := hf 1 _ rfl
 obtain ⟨v2, n2, y2, h2, t2, s2⟩ := hf 2 _ rfl
 obtain ⟨v3, n3, y3, h3, t3, s3⟩ := hf 3 _ rfl
 obtain ⟨v4, n4, y4, h4, t4, s4⟩ := hf 4 _ rfl
 obtain ⟨v5, n5, y5, h5, t5, s5⟩ := hf 5 _ rfl
 obtain ⟨v6, n6, y6, h6, t6, s6⟩ := hf 6 _ rfl
 obtain ⟨v7, n7, y7, h7, t7, s7⟩ := hf 7 _ rfl
 obtain ⟨v8, n8, y8, h8, t8, s8⟩ := hf 8 _ rfl
 obtain ⟨v9, n9, y9, h9, t9, s9⟩ := hf 9 _ rfl
 obtain ⟨v10, n10, y10, h10, t10, s10⟩ := hf 10 _ rfl
 obtain ⟨v11, n11, y11, h11, t11, s11⟩ := hf 11 _ rfl
 obtain ⟨a0, e0, _, w0⟩ := DataW.trod_int Tryd.underlying51 t0
 obtain ⟨a1, e1, _, w1⟩ := DataW.trod_int Tryd.underlying52 t1
 obtain ⟨a2, e2, _, w2⟩ := DataW.trod_int Tryd.underlying3 t2
 obtain ⟨a3, e3, _, w3⟩ := DataW.trod_int Tryd.underlying3 t3
 obtain ⟨a4, e4, _, w4⟩ := DataW.trod_int Tryd.underlying3 t4
 obtain ⟨a5, e5, _, w5⟩ := DataW.trod_int Tryd.underlying3 t5
 obtain ⟨a6, e6, _, w6⟩ := DataW.trod_int Tryd.underlying3 t6
 obtain ⟨a7, e7, _, w7⟩ := DataW.trod_int Tryd.underlying3 t7
 obtain ⟨a10, e10, _, w10⟩ := DataW.trod_int Tryd.underlying3 t10
 obtain ⟨a11, e11, _, w11⟩ := DataW.trod_int Tryd.underlying3 t11
 obtain ⟨a8, e8, _, w8⟩ := DataW.trod_int Tryd.underlying53 t8
 obtain ⟨zs, z1, z2, z3⟩ := open_ns Tryd.underlying40 Tryd.underlying3 (by kernel_rfl) (by_ := 8) (by kernel_rfl) t9 s9
 obtain rfl := one_of e0
 obtain rfl := one_of e1
 obtain rfl := one_of e2
 obtain rfl := one_of e3
 obtain rfl := one_of e4
 obtain rfl := one_of e5
 obtain rfl := one_of e6
 obtain rfl := one_of e7
 obtain rfl := one_of e8
 obtain rfl := one_of e10
 obtain rfl := one_of e11
 match cs, hl with
 | [c0, c1, c2, c3, c4, c5, c6, c7, c8, c9, c10, c11], _ =>
  simp only [List.getElem?_cons_zero, List.getElem?_cons_succ, Option.some.injEq] at h0 h1 h2 h3 h4 h5 h6 h7 h8 h9 h10 h11
  subst h0 h1 h2 h3 h4 h5 h6 h7 h8 h9 h10 h11
  exact ⟨⟨a0, a1, a2, a3, a4, a5, a6, a7, a8, zs, a10, a11⟩, ⟨_, rfl, z1⟩, ⟨wf_u8 w0, wf_u8 w1, wf_i64 w2, wf_i64 w3, wf_i64 w4, wf_i64 w5, wf_i64 w6, wf_i64 w7, wf_u64 w8, wf_i64 w10, wf_i64 w11, fun z hz => wf_i64 (z2 z hz), z3⟩⟩
theorem open_graph {fuel : Nat} {cs : List Value} {x : DataW H × List MemPlace} (h : DataW.trod enc Tryd.prog w 0 (fun _ => true) true fuel 44 cs = some x) (hs : Small Tryd.prog 44 x.1) : ∃ g : GraphD, GraphIn w cs g := by
 obtain ⟨hl, hf⟩ := open_fields Tryd.underlying44 (by kernel_rfl) (by kernel_rfl) h hs
 obtain ⟨v0, n0, y0, h0, t0, s0⟩ := hf 0 _ rfl
 obtain ⟨v1, n1, y1, h1, t1, s1⟩ := hf 1 _ rfl
 obtain ⟨v2, n2, y2, h2, t2, s2⟩ := hf 2 _ rfl
 obtain ⟨v3, n3, y3, h3, t3, s3⟩ := hf 3 _ rfl
 obtain ⟨v4, n4, y4, h4, t4, s4⟩ := hf 4 _ rfl
 obtain ⟨v5, n5, y5, h5, t5, s5⟩ := hf 5 _ rfl
 obtain ⟨v6, n6, y6, h6, t6, s6⟩ := hf 6 _ rfl
 obtain ⟨v7, n7, y7, h7, t7, s7⟩ := hf 7 _ rfl
 obtain ⟨ps, p1, p2, p3⟩ := open_ns Tryd.underlying40 Tryd.underlying3 (by kernel_rfl) (by_ := 8) (by kernel_rfl) t0 s0
 obtain ⟨ks, k1, k2, k3⟩ := open_ns Tryd.underlying41 Tryd.underlying87 (by kernel_rfl) (by_ := 1) (by kernel_rfl) t1 s1
 obtain ⟨a2, e2, _, w2⟩ := DataW.trod_int Tryd.underlying3 t2
 obtain ⟨is, i1, i2, i3⟩ := open_ns Tryd.underlying40 Tryd.underlying3 (by kernel_rfl) (by_ := 8) (by kernel_rfl) t3 s3
 obtain ⟨a4, e4, _⟩ := DataW.trod_bool Tryd.underlying4 t4
 obtain ⟨a5, e5, _, w5⟩ := DataW.trod_int Tryd.underlying3 t5
 obtain ⟨a7, e7, _, w7⟩ := DataW.trod_int Tryd.underlying3 t7
 obtain ⟨A, n, c, css, xs, e6, hn, hc, hr, q1, q2, q3, q4, q5⟩ := open_rows Tryd.underlying42 (by kernel_rfl) (by kernel_rfl) (by omega) (NodeIn w) (fun _ _ _ a b _ => open_node a b) t6 s6 (size := 12) (by_ := 104)
 obtain rfl := one_of e2
 obtain rfl := one_of e4
 obtain rfl := one_of e5
 obtain rfl := one_of e6
 obtain rfl := one_of e7
 match cs, hl with
 | [c0, c1, c2, c3, c4, c5, c6, c7], _ =>
  simp only [List.getElem?_cons_zero, List.getElem?_cons_succ, Option.some.injEq] at h0 h1 h2 h3 h4 h5 h6 h7
  subst h0 h1 h2 h3 h4 h5 h6 h7
  refine ⟨⟨ps, ks, a2, is, a4, a5, xs, a7⟩, ⟨_, _, _, _, rfl, p1, k1, i1, ⟨A, n, c, css, rfl, hn, hc, q2, q1, q3, q4, fun i y hy => ?_⟩⟩, ⟨fun z hz => wf_i64 (p2 z hz), fun z hz => wf_u8 (k2 z hz), wf_i64 w2, fun z hz => wf_i64 (i2 z hz), wf_i64 w5, wf_i64 w7, fun y hy => ?_, p3, by simpa using k3, i3, ?_⟩⟩
  ·obtain ⟨cs', r1, r2⟩ := q5 i y hy
   exact ⟨cs', r1, r2.1⟩
  ·obtain ⟨k, hk, rfl⟩ := List.getElem_of_mem hy
   obtain ⟨_, _, r⟩ := q5 k _ (List.getElem?_eq_getElem hk)
   exact r.2
  ·show xs.length * 104 ≤ _
   omega
theorem open_gs {fuel : Nat} {v : Value} {x : DataW H × List MemPlace} (h : DataW.trod enc Tryd.prog w 0 (fun _ => true) true fuel 22 [v] = some x) (hs : Small Tryd.prog 22 x.1) : ∃ gs : List GraphD, GraphsIn w v gs := by
 obtain ⟨A, n, c, css, gs, e, hn, hc, hr, h1, h2, h3, h4, h5⟩ := open_rows Tryd.underlying22 (by kernel_rfl) (by kernel_rfl) (by omega) (GraphIn w) (fun _ _ _ a b _ => open_graph a b) h hs (size := 8) (by_ := 128)
 obtain rfl := one_of e
 refine ⟨gs, ⟨A, n, c, css, rfl, hn, hc, h2, h1, h3, h4, fun i g hg => ?_⟩, ⟨fun g hg => ?_, by omega⟩⟩
 ·obtain ⟨cs', q1, q2⟩ := h5 i g hg
  exact ⟨cs', q1, q2.1⟩
 ·obtain ⟨k, hk, rfl⟩ := List.getElem_of_mem hg
  obtain ⟨_, _, q⟩ := h5 k _ (List.getElem?_eq_getElem hk)
  exact q.2
theorem open_graphs {r : Reach} {b0 : Nat} {v : Value} {d : DataW H} {p : List MemPlace} (hv : Value.okWide Tryd.prog w r b0 24 v) (h : DataW.Trod enc Tryd.prog w 0 (fun _ => true) true 24 v d p) (hs : Small Tryd.prog 24 d) :
  ∃ (gv : Value) (gs : List GraphD), v = .agg #[gv] ∧ GraphsIn w gv gs := by
 obtain ⟨cs, rfl, hsz⟩ := okWide_struct Tryd.underlying24 hv
 obtain ⟨fuel, hf⟩ := h
 obtain ⟨hl, hff⟩ := open_fields Tryd.underlying24 (by kernel_rfl) (by kernel_rfl) hf hs
 obtain ⟨v0, n0, y0, h0, t0, s0⟩ := hff 0 _ rfl
 obtain ⟨gs, hgs⟩ := open_gs t0 s0
 obtain ⟨l⟩ := cs
 match l, hl with
 | [c0], _ =>
  simp [Value.cells] at h0
  subst h0
  exact ⟨_, gs, rfl, hgs⟩
end
end Go.Proofs.YtnfjjliiajaijaaDoor
