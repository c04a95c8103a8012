/- What a law's walk is told of an argument that came in: slices of whatever elements, structs of one-cell fields, each within the form's reach. No condition. Nodes and graphs that came in as an argument, as plain data. No condition. The walk of the law LinearDoes. Conditions: what the law's arguments are read as. -/
import Derived.Test.YtncpehhfjkncoaaPlBP
import Derived.Deep.Slices
import Derived.Deep.Fields
import Derived.Test.YtncpehhfjkncoaaPlAB
import Derived.Test.YtncpehhfjkncoaaPlAA
import Derived.Test.YtncpehhfjkncoaaPlBL
set_option linter.unusedVariables false
set_option linter.unusedSimpArgs false
set_option maxRecDepth 100000
set_option maxHeartbeats 16000000
namespace Go.Proofs.Ytncpehhfjkncoaa
open Go.ChangeShapes Go.WideShapes Go.ChangeAt Go.RowKit Go.Deep

section
variable {H : Type} {enc : TypeId × Value -> H} {P : Program} {w : World}
/-- each slice and string within the reach -/
def Small (P : Program) (t : TypeId) (d : DataW H) : Prop := ∀ n ∈ d.weights P t, n <= reachBytes
theorem small_of_each {ts : List TypeId} {ds : List (DataW H)} {j : Nat} {t : TypeId} {d : DataW H} (hsz : (DataW.weightsEach P ts ds).all (· <= reachBytes) = true) (hts : ts[j]? = some t) (hds : ds[j]? = some d) : Small P t d :=
 fun n hn => by simpa using List.all_eq_true.1 hsz n (DataW.weights_mem_each hts hds n hn)
theorem mem_weightsAll {e : TypeId} {d : DataW H} {n : Nat} (hn : n ∈ d.weights P e) : ∀ {l : List (DataW H)}, d ∈ l -> n ∈ DataW.weightsAll P e l
 | x :: r, h => by
  simp only [DataW.weightsAll, List.mem_append]
  rcases List.mem_cons.1 h with rfl | h
  ·exact .inl hn
  ·exact .inr (mem_weightsAll hn h)
theorem Small.slice {t e : TypeId} {elems spare : List (DataW H)} (h : Small P t (.slice elems spare)) (hu : P.underlying t = some (.slice e)) : (elems.length + spare.length) * P.bytesOf e <= reachBytes /\ ∀ d ∈ elems, Small P e d := by
 unfold Small at h;simp only [DataW.weights, hu, List.mem_cons, List.mem_append] at h;exact ⟨h _ (.inl rfl), fun d hd n hn => h n (.inr (.inl (mem_weightsAll hn hd)))⟩
theorem Small.part {t : TypeId} {fs : Array Field} {parts : List (DataW H)} (h : Small P t (.agg parts)) (hu : P.underlying t = some (.struct fs)) {j : Nat} {f : Field} {d : DataW H} (hf : fs[j]? = some f) (hd : parts[j]? = some d) : Small P f.type d := by
 unfold Small at h;simp only [DataW.weights, hu] at h
 exact fun n hn => h n (DataW.weights_mem_each (j := j) (by simp [List.getElem?_map, hf]) hd n hn)
theorem lists_of {β γ : Type} {Q : Nat -> β -> γ -> Prop} : ∀ {n : Nat}, (∀ i, i < n -> ∃ b c, Q i b c) -> ∃ (bs : List β) (cs : List γ), bs.length = n /\ cs.length = n /\ ∀ (i : Nat) b c, bs[i]? = some b -> cs[i]? = some c -> Q i b c
 | 0, _ => ⟨[], [], rfl, rfl, by simp⟩
 | n + 1, h => by
  obtain ⟨bs, cs, h1, h2, h3⟩ := lists_of (n := n) fun i hi => h i (by omega)
  obtain ⟨b, c, hq⟩ := h n (by omega);refine ⟨bs ++ [b], cs ++ [c], by simp [h1], by simp [h2], fun i b' c' hb hc => ?_⟩
  rcases Nat.lt_or_ge i n with hi | hi
  ·rw [List.getElem?_append_left (by omega)] at hb hc;exact h3 i b' c' hb hc
  ·have hi' : i < (bs ++ [b]).length := (List.getElem?_eq_some_iff.1 hb).1
   have hin : i = n := by simp [h1] at hi'; omega
   subst hin;rw [List.getElem?_append_right (by omega), h1, Nat.sub_self] at hb;rw [List.getElem?_append_right (by omega), h2, Nat.sub_self] at hc;simp at hb hc;subst hb hc;exact hq
theorem flatten_at {size : Nat} (h0 : 0 < size) : ∀ (css : List (List Value)), (∀ c ∈ css, c.length = size) -> ∀ (j : Nat) (u : Value), css.flatten[j]? = some u -> ∃ c, css[j / size]? = some c /\ c[j % size]? = some u
 | [], _, j, u, h => by simp at h
 | x :: r, hl, j, u, h => by
  have hx := hl x List.mem_cons_self;rw [List.flatten_cons] at h
  rcases Nat.lt_or_ge j size with hj | hj
  ·rw [List.getElem?_append_left (by omega)] at h;exact ⟨x, by rw [Nat.div_eq_of_lt hj]; rfl, by rw [Nat.mod_eq_of_lt hj]; exact h⟩
  ·rw [List.getElem?_append_right (by omega), hx] at h;obtain ⟨c, h1, h2⟩ := flatten_at h0 r (fun c hc => hl c (List.mem_cons_of_mem _ hc)) (j - size) u h
   have e1 : j / size = (j - size) / size + 1 := by
    conv => lhs; rw [show j = j - size + size by omega]
    rw [Nat.add_div_right _ h0]
   have e2 : j % size = (j - size) % size := by
    conv => lhs; rw [show j = j - size + size by omega]
    rw [Nat.add_mod_right]
   exact ⟨c, by rw [e1, List.getElem?_cons_succ]; exact h1, by rw [e2]; exact h2⟩
theorem flatten_length {size : Nat} : ∀ (css : List (List Value)), (∀ c ∈ css, c.length = size) -> css.flatten.length = css.length * size
 | [], _ => by simp
 | x :: r, hl => by
  rw [List.flatten_cons, List.length_append, hl x List.mem_cons_self, flatten_length r fun c hc => hl c (List.mem_cons_of_mem _ hc), List.length_cons, Nat.add_mul]; omega
theorem open_rows {α : Type} {t e size by_ : Nat} (ht : P.underlying t = some (.slice e)) (hC : P.cellsOf e = size) (hB : P.bytesOf e = by_) (h0 : 0 < size) (R : List Value -> α -> Prop)
  (hel : ∀ fuel cs' x, DataW.trod enc P w 0 (fun _ => true) true fuel e cs' = some x -> Small P e x.1 -> cs'.length = size -> ∃ a, R cs' a)
  {fuel : Nat} {cs : List Value} {x : DataW H × List MemPlace} (h : DataW.trod enc P w 0 (fun _ => true) true fuel t cs = some x) (hs : Small P t x.1) :
  ∃ (A : Option Addr) (n c : Nat) (css : List (List Value)) (al : List α), cs = [.slice A n c] /\ n <= c /\ c <= maxLen /\ c * by_ <= 140737488351232 /\ css.length = n /\ al.length = n /\ (∀ c ∈ css, c.length = size) /\ Reads w w.heap.size size A n css.flatten /\
   ∀ (i : Nat) a, al[i]? = some a -> ∃ cs', css[i]? = some cs' /\ R cs' a := by
 have lt := DataW.trod_lt _ _ _ _ h
 rcases open_slice ht h with ⟨rfl, rfl⟩ | ⟨ad, len, cap, m, n, D, Pl, rfl, hb, hl, hm, hmm, rfl, hi⟩
 ·exact ⟨none, 0, 0, [], [], rfl, Nat.le_refl _, by unfold maxLen; omega, by omega, rfl, rfl, by simp, Reads.none_, by simp⟩
 ·simp only [if_true] at hmm;subst hmm;rw [hC] at hi lt;obtain ⟨hw1, hw2⟩ := hs.slice ht;rw [List.length_map, List.length_map, List.length_range, List.length_range, hB] at hw1
  have hx : ∀ i, i < len -> ∃ cs' a, w.cells? 0 (ad.add (i * size)) size = some cs' /\ R cs' a := fun i hil => by
   obtain ⟨cs', hc, htr⟩ := hi i (by omega);obtain ⟨a, ha⟩ := hel n cs' _ htr (hw2 _ (List.mem_map.2 ⟨i, List.mem_range.2 hil, rfl⟩)) (World.cells?_some hc).2.1;exact ⟨cs', a, hc, ha⟩
  obtain ⟨css, al, h1, h2, h3⟩ := lists_of hx
  have hsz : ∀ c ∈ css, c.length = size := fun c hc => by
   obtain ⟨i, hi', rfl⟩ := List.getElem_of_mem hc;exact (World.cells?_some (h3 i css[i] al[i] (List.getElem?_eq_getElem hi') (List.getElem?_eq_getElem (by omega))).1).2.1
  refine ⟨some ad, len, m, css, al, rfl, hl, hm, ?_, h1, h2, hsz, ⟨by rw [flatten_length css hsz, h1], fun hn => ⟨ad, rfl, ?_, fun j u hu => ?_⟩⟩, fun i a ha => ?_⟩
  ·have : len + (m - len) = m := by omega
   rw [this] at hw1;exact hw1
  ·exact lt (.cell ad.block (ad.off + 0)) (List.mem_append_left _ (List.mem_map.2 ⟨0, List.mem_range.2 (Nat.mul_pos (by omega) h0), rfl⟩))
  ·obtain ⟨c, hc1, hc2⟩ := flatten_at h0 css hsz j u hu;have hci : j / size < css.length := (List.getElem?_eq_some_iff.1 hc1).1;have hq := (h3 (j / size) c al[j / size] hc1 (List.getElem?_eq_getElem (by omega))).1;have hat := (World.cells?_some hq).2.2 (j % size) (Nat.mod_lt _ h0);rw [add_of_add, Nat.mul_comm, Nat.div_add_mod, hc2] at hat;exact hat
  ·have hia : i < al.length := (List.getElem?_eq_some_iff.1 ha).1;exact ⟨css[i], List.getElem?_eq_getElem (by omega), (h3 i css[i] a (List.getElem?_eq_getElem (by omega)) ha).2⟩
theorem open_nums {t e by_ : Nat} {k : IntKind} (ht : P.underlying t = some (.slice e)) (he : P.underlying e = some (.int k)) (hC : P.cellsOf e = 1) (hB : P.bytesOf e = by_)
  {fuel : Nat} {cs : List Value} {x : DataW H × List MemPlace} (h : DataW.trod enc P w 0 (fun _ => true) true fuel t cs = some x) (hs : Small P t x.1) :
  ∃ (A : Option Addr) (n c : Nat) (zs : List Int), cs = [.slice A n c] /\ Reads w w.heap.size 1 A n (zs.map (Value.int k)) /\ zs.length = n /\ n <= c /\ c <= maxLen /\ c * by_ <= 140737488351232 /\ ∀ z ∈ zs, (Lit.int k z).wf = true := by
 have lt := DataW.trod_lt _ _ _ _ h
 rcases open_ints ht he hC h with ⟨rfl, rfl⟩ | ⟨x, l, c', zs, rfl, _, hl, hm, hz, rfl, hcell, hwz⟩
 ·exact ⟨none, 0, 0, [], rfl, Reads.none_, rfl, Nat.le_refl _, by unfold maxLen; omega, by omega, by simp⟩
 ·simp only [if_true] at hz;have hr := (hs.slice ht).1;rw [lits_length, lits_length, hB, List.length_take, List.length_drop, hz, Nat.min_eq_left hl, Nat.add_sub_cancel' hl] at hr;refine ⟨_, _, _, zs.take l, rfl, ⟨by simp [hz, hl], fun hn => ⟨x, rfl, ?_, ?_⟩⟩, by simp [hz, hl], hl, hm, hr, fun z hz' => hwz z (List.mem_of_mem_take hz')⟩
  ·exact lt (.cell x.block (x.off + 0)) (List.mem_map.2 ⟨0, List.mem_range.2 (by rw [hz]; omega), rfl⟩)
  ·intro i u hu;rw [List.getElem?_map, Option.map_eq_some_iff] at hu;obtain ⟨y, hy, rfl⟩ := hu
   have hit : i < l := by
    have := (List.getElem?_eq_some_iff.1 hy).1;rw [List.length_take] at this; omega
   rw [hcell i (by omega)];rw [List.getElem?_take_of_lt hit] at hy;simp [List.getD_eq_getElem?_getD, hy]
theorem open_fields {t : TypeId} {fs : Array Field} (hu : P.underlying t = some (.struct fs)) (hone : oneCellFields P fs = true) (hC : P.cellsOf t = fs.size)
  {fuel : Nat} {cs : List Value} {x : DataW H × List MemPlace} (h : DataW.trod enc P w 0 (fun _ => true) true fuel t cs = some x) (hs : Small P t x.1) :
  cs.length = fs.size /\ ∀ (j : Nat) (f : Field), fs[j]? = some f -> ∃ v n y, cs[j]? = some v /\ DataW.trod enc P w 0 (fun _ => true) true n f.type [v] = some y /\ Small P f.type y.1 := by
 obtain ⟨ys, n, _, rfl, hlen, hyl, hf⟩ := DataW.trod_struct hu h;rw [hC] at hlen;refine ⟨hlen, fun j f hj => ?_⟩;obtain ⟨ho, hk⟩ := hone_of hone j f hj;have hjl : j < fs.size := (Array.getElem?_eq_some_iff.1 hj).1;have h1 := hf j f hj;rw [ho, hk] at h1
 have hone' : (cs.drop j).take 1 = [cs[j]'(by omega)] := by
  rw [List.drop_eq_getElem_cons (by omega)]
  rfl
 rw [hone'] at h1;have hys : ys[j]? = some (ys[j]'(by omega)) := List.getElem?_eq_getElem (by omega);exact ⟨_, n, _, List.getElem?_eq_getElem (by omega), h1.trans hys, hs.part hu hj (by rw [List.getElem?_map, hys]; rfl)⟩
end
end Go.Proofs.Ytncpehhfjkncoaa
namespace Go.Proofs.Ytncpehhfjkncoaa
open Go.ChangeShapes Go.WideShapes Go.ChangeAt Go.RowKit Go.Deep

def I64 (n : Int) : Prop := -9223372036854775808 <= n /\ n <= 9223372036854775807
def U8 (n : Int) : Prop := 0 <= n /\ n <= 255
structure NodeWf (x : NodeD) : Prop where
 op : U8 x.op
 byo : U8 x.byo
 d : I64 x.d
 e : I64 x.e
 a : I64 x.a
 b : I64 x.b
 f : I64 x.f
 cell : I64 x.cell
 imm : U64 x.imm
 next : I64 x.next
 els : I64 x.els
 args : ∀ z ∈ x.args, I64 z
 len : x.args.length * 8 <= 140737488351232
structure GraphWf (g : GraphD) : Prop where
 params : ∀ z ∈ g.params, I64 z
 kinds : ∀ z ∈ g.kinds, U8 z
 cells : I64 g.cells
 init : ∀ z ∈ g.init, I64 z
 keep : I64 g.keep
 entry : I64 g.entry
 nodes : ∀ x ∈ g.nodes, NodeWf x
 lenP : g.params.length * 8 <= 140737488351232
 lenK : g.kinds.length <= 140737488351232
 lenI : g.init.length * 8 <= 140737488351232
 lenN : g.nodes.length * 104 <= 140737488351232
structure GraphsWf (gs : List GraphD) : Prop where
 each : ∀ g ∈ gs, GraphWf g
 len : gs.length * 128 <= 140737488351232
def NodeIn (w : World) (cs : List Value) (x : NodeD) : Prop := NodeAt w w.heap.size cs x /\ NodeWf x
def GraphIn (w : World) (cs : List Value) (g : GraphD) : Prop := GraphAt w w.heap.size cs g /\ GraphWf g
def GraphsIn (w : World) (v : Value) (gs : List GraphD) : Prop := GraphsAt w w.heap.size v gs /\ GraphsWf gs
section
variable {H : Type} {enc : TypeId × Value -> H} {w : World}
theorem one_of {v : Value} {u : Value} (h : [v] = [u]) : v = u := by injection h
theorem wf_i64 {n : Int} (h : (Lit.int .i64 n).wf = true) : I64 n := by
 have := bounds_i64 h;unfold I64; omega
theorem wf_u8 {n : Int} (h : (Lit.int .u8 n).wf = true) : U8 n := by
 have := bounds_u8 h;unfold U8; omega
theorem wf_u64 {n : Int} (h : (Lit.int .u64 n).wf = true) : U64 n := u64_of_wf h
theorem open_ns {k : IntKind} {t e by_ : Nat} (ht : Try.prog.underlying t = some (.slice e)) (he : Try.prog.underlying e = some (.int k)) (hC : Try.prog.cellsOf e = 1) (hB : Try.prog.bytesOf e = by_) {fuel : Nat} {v : Value} {x : DataW H × List MemPlace} (h : DataW.trod enc Try.prog w 0 (fun _ => true) true fuel t [v] = some x) (hs : Small Try.prog t x.1) :
  ∃ zs : List Int, NumsAt k w w.heap.size v zs /\ (∀ z ∈ zs, (Lit.int k z).wf = true) /\ zs.length * by_ <= 140737488351232 := by
 obtain ⟨A, n, c, zs, e, hr, hl, hn, hc, hb, hw⟩ := open_nums ht he hC hB h hs;obtain rfl := one_of e;exact ⟨zs, ⟨A, n, c, rfl, hn, hc, hl, hr⟩, hw, by rw [hl]; exact Nat.le_trans (Nat.mul_le_mul_right _ hn) hb⟩
theorem open_node {fuel : Nat} {cs : List Value} {x : DataW H × List MemPlace} (h : DataW.trod enc Try.prog w 0 (fun _ => true) true fuel 52 cs = some x) (hs : Small Try.prog 52 x.1) : ∃ n : NodeD, NodeIn w cs n := by
 obtain ⟨hl, hf⟩ := open_fields Try.underlying52 (by kernel_rfl) (by kernel_rfl) h hs;obtain ⟨v0, n0, y0, h0, t0, s0⟩ := hf 0 _ rfl;obtain ⟨v1, n1, y1, h1, t1, s1⟩ := hf 1 _ rfl;obtain ⟨v2, n2, y2, h2, t2, s2⟩ := hf 2 _ rfl;obtain ⟨v3, n3, y3, h3, t3, s3⟩ := hf 3 _ rfl;obtain ⟨v4, n4, y4, h4, t4, s4⟩ := hf 4 _ rfl;obtain ⟨v5, n5, y5, h5, t5, s5⟩ := hf 5 _ rfl;obtain ⟨v6, n6, y6, h6, t6, s6⟩ := hf 6 _ rfl;obtain ⟨v7, n7, y7, h7, t7, s7⟩ := hf 7 _ rfl;obtain ⟨v8, n8, y8, h8, t8, s8⟩ := hf 8 _ rfl;obtain ⟨v9, n9, y9, h9, t9, s9⟩ := hf 9 _ rfl;obtain ⟨v10, n10, y10, h10, t10, s10⟩ := hf 10 _ rfl;obtain ⟨v11, n11, y11, h11, t11, s11⟩ := hf 11 _ rfl;obtain ⟨a0, e0, _, w0⟩ := DataW.trod_int Try.underlying49 t0;obtain ⟨a1, e1, _, w1⟩ := DataW.trod_int Try.underlying50 t1;obtain ⟨a2, e2, _, w2⟩ := DataW.trod_int Try.underlying3 t2;obtain ⟨a3, e3, _, w3⟩ := DataW.trod_int Try.underlying3 t3;obtain ⟨a4, e4, _, w4⟩ := DataW.trod_int Try.underlying3 t4;obtain ⟨a5, e5, _, w5⟩ := DataW.trod_int Try.underlying3 t5;obtain ⟨a6, e6, _, w6⟩ := DataW.trod_int Try.underlying3 t6;obtain ⟨a7, e7, _, w7⟩ := DataW.trod_int Try.underlying3 t7;obtain ⟨a10, e10, _, w10⟩ := DataW.trod_int Try.underlying3 t10;obtain ⟨a11, e11, _, w11⟩ := DataW.trod_int Try.underlying3 t11;obtain ⟨a8, e8, _, w8⟩ := DataW.trod_int Try.underlying34 t8;obtain ⟨zs, z1, z2, z3⟩ := open_ns Try.underlying45 Try.underlying3 (by kernel_rfl) (by_ := 8) (by kernel_rfl) t9 s9;obtain rfl := one_of e0;obtain rfl := one_of e1;obtain rfl := one_of e2;obtain rfl := one_of e3;obtain rfl := one_of e4;obtain rfl := one_of e5;obtain rfl := one_of e6;obtain rfl := one_of e7;obtain rfl := one_of e8;obtain rfl := one_of e10;obtain rfl := one_of e11
 match cs, hl with
 | [c0, c1, c2, c3, c4, c5, c6, c7, c8, c9, c10, c11], _ =>
  simp only [List.getElem?_cons_zero, List.getElem?_cons_succ, Option.some.injEq] at h0 h1 h2 h3 h4 h5 h6 h7 h8 h9 h10 h11;subst h0 h1 h2 h3 h4 h5 h6 h7 h8 h9 h10 h11;exact ⟨⟨a0, a1, a2, a3, a4, a5, a6, a7, a8, zs, a10, a11⟩, ⟨_, rfl, z1⟩, ⟨wf_u8 w0, wf_u8 w1, wf_i64 w2, wf_i64 w3, wf_i64 w4, wf_i64 w5, wf_i64 w6, wf_i64 w7, wf_u64 w8, wf_i64 w10, wf_i64 w11, fun z hz => wf_i64 (z2 z hz), z3⟩⟩
theorem open_graph {fuel : Nat} {cs : List Value} {x : DataW H × List MemPlace} (h : DataW.trod enc Try.prog w 0 (fun _ => true) true fuel 48 cs = some x) (hs : Small Try.prog 48 x.1) : ∃ g : GraphD, GraphIn w cs g := by
 obtain ⟨hl, hf⟩ := open_fields Try.underlying48 (by kernel_rfl) (by kernel_rfl) h hs;obtain ⟨v0, n0, y0, h0, t0, s0⟩ := hf 0 _ rfl;obtain ⟨v1, n1, y1, h1, t1, s1⟩ := hf 1 _ rfl;obtain ⟨v2, n2, y2, h2, t2, s2⟩ := hf 2 _ rfl;obtain ⟨v3, n3, y3, h3, t3, s3⟩ := hf 3 _ rfl;obtain ⟨v4, n4, y4, h4, t4, s4⟩ := hf 4 _ rfl;obtain ⟨v5, n5, y5, h5, t5, s5⟩ := hf 5 _ rfl;obtain ⟨v6, n6, y6, h6, t6, s6⟩ := hf 6 _ rfl;obtain ⟨v7, n7, y7, h7, t7, s7⟩ := hf 7 _ rfl;obtain ⟨ps, p1, p2, p3⟩ := open_ns Try.underlying45 Try.underlying3 (by kernel_rfl) (by_ := 8) (by kernel_rfl) t0 s0;obtain ⟨ks, k1, k2, k3⟩ := open_ns Try.underlying44 Try.underlying79 (by kernel_rfl) (by_ := 1) (by kernel_rfl) t1 s1;obtain ⟨a2, e2, _, w2⟩ := DataW.trod_int Try.underlying3 t2;obtain ⟨is, i1, i2, i3⟩ := open_ns Try.underlying45 Try.underlying3 (by kernel_rfl) (by_ := 8) (by kernel_rfl) t3 s3;obtain ⟨a4, e4, _⟩ := DataW.trod_bool Try.underlying4 t4;obtain ⟨a5, e5, _, w5⟩ := DataW.trod_int Try.underlying3 t5;obtain ⟨a7, e7, _, w7⟩ := DataW.trod_int Try.underlying3 t7;obtain ⟨A, n, c, css, xs, e6, hn, hc, hr, q1, q2, q3, q4, q5⟩ := open_rows Try.underlying46 (by kernel_rfl) (by kernel_rfl) (by omega) (NodeIn w) (fun _ _ _ a b _ => open_node a b) t6 s6 (size := 12) (by_ := 104);obtain rfl := one_of e2;obtain rfl := one_of e4;obtain rfl := one_of e5;obtain rfl := one_of e6;obtain rfl := one_of e7
 match cs, hl with
 | [c0, c1, c2, c3, c4, c5, c6, c7], _ =>
  simp only [List.getElem?_cons_zero, List.getElem?_cons_succ, Option.some.injEq] at h0 h1 h2 h3 h4 h5 h6 h7;subst h0 h1 h2 h3 h4 h5 h6 h7;refine ⟨⟨ps, ks, a2, is, a4, a5, xs, a7⟩, ⟨_, _, _, _, rfl, p1, k1, i1, ⟨A, n, c, css, rfl, hn, hc, q2, q1, q3, q4, fun i y hy => ?_⟩⟩, ⟨fun z hz => wf_i64 (p2 z hz), fun z hz => wf_u8 (k2 z hz), wf_i64 w2, fun z hz => wf_i64 (i2 z hz), wf_i64 w5, wf_i64 w7, fun y hy => ?_, p3, by simpa using k3, i3, ?_⟩⟩
  ·obtain ⟨cs', r1, r2⟩ := q5 i y hy;exact ⟨cs', r1, r2.1⟩
  ·obtain ⟨k, hk, rfl⟩ := List.getElem_of_mem hy;obtain ⟨_, _, r⟩ := q5 k _ (List.getElem?_eq_getElem hk);exact r.2
  ·show xs.length * 104 <= _
   omega
theorem open_gs {fuel : Nat} {v : Value} {x : DataW H × List MemPlace} (h : DataW.trod enc Try.prog w 0 (fun _ => true) true fuel 22 [v] = some x) (hs : Small Try.prog 22 x.1) : ∃ gs : List GraphD, GraphsIn w v gs := by
 obtain ⟨A, n, c, css, gs, e, hn, hc, hr, h1, h2, h3, h4, h5⟩ := open_rows Try.underlying22 (by kernel_rfl) (by kernel_rfl) (by omega) (GraphIn w) (fun _ _ _ a b _ => open_graph a b) h hs (size := 8) (by_ := 128);obtain rfl := one_of e;refine ⟨gs, ⟨A, n, c, css, rfl, hn, hc, h2, h1, h3, h4, fun i g hg => ?_⟩, ⟨fun g hg => ?_, by omega⟩⟩
 ·obtain ⟨cs', q1, q2⟩ := h5 i g hg;exact ⟨cs', q1, q2.1⟩
 ·obtain ⟨k, hk, rfl⟩ := List.getElem_of_mem hg;obtain ⟨_, _, q⟩ := h5 k _ (List.getElem?_eq_getElem hk);exact q.2
theorem open_graphs {r : Reach} {b0 : Nat} {v : Value} {d : DataW H} {p : List MemPlace} (hv : Value.okWide Try.prog w r b0 24 v) (h : DataW.Trod enc Try.prog w 0 (fun _ => true) true 24 v d p) (hs : Small Try.prog 24 d) :
  ∃ (gv : Value) (gs : List GraphD), v = .agg #[gv] /\ GraphsIn w gv gs := by
 obtain ⟨cs, rfl, hsz⟩ := okWide_struct Try.underlying24 hv;obtain ⟨fuel, hf⟩ := h;obtain ⟨hl, hff⟩ := open_fields Try.underlying24 (by kernel_rfl) (by kernel_rfl) hf hs;obtain ⟨v0, n0, y0, h0, t0, s0⟩ := hff 0 _ rfl;obtain ⟨gs, hgs⟩ := open_gs t0 s0;obtain ⟨l⟩ := cs
 match l, hl with
 | [c0], _ =>
  simp [Value.cells] at h0;subst h0;exact ⟨_, gs, rfl, hgs⟩
end
end Go.Proofs.Ytncpehhfjkncoaa
namespace Go.Proofs.Ytncpehhfjkncoaa
open Go.RowKit

theorem GraphsWf.small {gs : List GraphD} (h : GraphsWf gs) : GsSmall gs := ⟨fun g hg => ⟨(h.each g hg).lenP, (h.each g hg).lenK, (h.each g hg).lenI, (h.each g hg).lenN, fun x hx => ((h.each g hg).nodes x hx).len⟩, h.len⟩
theorem GraphsWf.imm {gs : List GraphD} (h : GraphsWf gs) : ImmU gs := fun g hg x hx => ((h.each g hg).nodes x hx).imm
theorem mod_word3 (a : Int) (m : Int) (h0 : 0 < m) (h1 : m < 1000000) : ∃ k : Nat, (k : Int) < m /\ IntKind.i64.wrap ((IntKind.u64.wrap a).tmod m) = (k : Int) := by
 have h2 : 0 <= IntKind.u64.wrap a := by rw [IntKind.wrap_u64]; omega
 have h3 := Int.emod_nonneg (IntKind.u64.wrap a) (show m ≠ 0 by omega);have h4 := Int.emod_lt_of_pos (IntKind.u64.wrap a) (show 0 < m by omega);refine ⟨((IntKind.u64.wrap a) % m).toNat, by omega, ?_⟩;rw [Int.tmod_eq_emod_of_nonneg h2, IntKind.wrap_i64]
 omega
section
variable {k0 K K2 K3 M M1 M2 : Nat}
theorem law_b (h : (k0 : Int) < 300) (hK : K = k0 + 1) : K <= 300 := by omega
theorem law_m (h : K <= 300) (hM : M = K / 10) : M <= 30 := by omega
theorem law_w1 (h : (k0 : Int) < 300) (hK : K = k0 + 1) : IntKind.i64.wrap (1 + (k0 : Int)) = (K : Int) := by rw [IntKind.wrap_i64]; omega
theorem law_w2 (h : K <= 300) (h2 : K2 = 2 * K) : IntKind.i64.wrap (2 * (K : Int)) = (K2 : Int) := by rw [IntKind.wrap_i64]; omega
theorem law_w3 (h : K <= 300) (h2 : K2 = 2 * K) (h3 : K3 = 2 * K + 64) : IntKind.i64.wrap ((K2 : Int) + 64) = (K3 : Int) := by rw [IntKind.wrap_i64]; omega
theorem law_w4 (h : K <= 300) (hM : M = K / 10) : wrap64 ((K : Int) / 10) = (M : Int) := by unfold wrap64; omega
theorem law_w5 (h : M <= 30) (h1 : M1 = M + 1) : IntKind.i64.wrap ((M : Int) + 1) = (M1 : Int) := by rw [IntKind.wrap_i64]; omega
theorem law_w6 (h : M <= 30) (h1 : M1 = M + 1) (h2 : M2 = 4096 * (M + 1)) : IntKind.i64.wrap (4096 * (M1 : Int)) = (M2 : Int) := by rw [IntKind.wrap_i64]; omega
end
/-- a run, and what the law reads of it -/
theorem all_see {W : World} {B : Nat} {gv tv : Value} {gs : List GraphD} {tape : List Int} (hB : B <= W.heap.size) (hR : RunsG gs) (hgs : GraphsAt W B gv gs) (htv : NumsAt .u64 W B tv tape) (ht : ∀ v ∈ tape, U64 v) (htl : tape.length * 8 <= 140737488351232) {fuel : Nat} (hf : fuel <= 999998) :
  Calls Try.prog 7 #[.agg #[gv], .bool true, tv, .int .i64 fuel] W fun e w' => Below W.heap.size W w' /\ ∃ rp, e = .returned (.pointer (some ⟨rp, 0, none⟩)) /\ RunSee w' w'.heap.size rp (allR gs tape fuel) := by
 obtain ⟨g0, h1, h0⟩ := hR.fst;refine (all_any hB hR.gw hR.imm h1 h0 hgs htv ht htl hf).mono ?_;rintro e w' ⟨hb, X, hX, rfl, hA⟩;exact ⟨hb, _, rfl, hA.see⟩
/-- what the law reads of a run, laid open -/
theorem RunSee.open_ {w : World} {B rp : Nat} {R : RunD} (h : RunSee w B rp R) : ∃ A n c k v, R.events.length = n /\ R.endK = k /\ R.endV = v /\ n <= maxLen /\ w.cell? ⟨rp, 6, none⟩ = some (.slice A n c) /\ w.cell? ⟨rp, 7, none⟩ = some (.int .i64 k) /\ w.cell? ⟨rp, 8, none⟩ = some (.int .u64 v) /\ Reads w B 2 A n (evCells R.events) := by
 obtain ⟨_, ⟨A, c, k6, m6, r6⟩, k7, k8⟩ := h;exact ⟨A, _, c, _, _, rfl, rfl, rfl, m6, k6, k7, k8, r6⟩
theorem walk_LinearDoes (w : World) (gv0 : Value) (gs0 : List GraphD) (hg0 : GraphsIn w gv0 gs0) (A1 : Option Addr) (n1 c1 : Nat) (z1 : List Int) (r1 : Reads w w.heap.size 1 A1 n1 (z1.map (Value.int .u64))) (l1 : z1.length = n1) (nc1 : n1 <= c1) (cm1 : c1 <= maxLen) (rc1 : c1 * 8 <= 140737488351232) (w1 : ∀ z ∈ z1, (Lit.int .u64 z).wf = true) (a2 : Int) (w2 : (Lit.int .i64 a2).wf = true) :
  Calls Try.prog 3 #[.agg #[gv0], .slice A1 n1 c1, .int .i64 a2] w fun e w' => e = .returned (.bool true) /\ Below w.heap.size w w' := by
 obtain ⟨hgs, hwf⟩ := hg0;have hsm := hwf.small;have him := hwf.imm
 have hta : ∀ W, Below w.heap.size w W -> NumsAt .u64 W w.heap.size (.slice A1 n1 c1) z1 := fun W h => NumsAt.below ⟨A1, n1, c1, rfl, nc1, cm1, l1, r1⟩ h
 have htu : ∀ v ∈ z1, U64 v := fun v hv => wf_u64 (w1 v hv)
 have htl : z1.length * 8 <= 140737488351232 := by rw [l1]; omega
 obtain ⟨gA, gc, rfl, _, _⟩ := hgs.slice;obtain ⟨Z, hZ⟩ := mn (gs0.length);rw [hZ] at hgs ⊢
 have hga : ∀ W, Below w.heap.size w W -> GraphsAt W w.heap.size (.slice gA Z gc) gs0 := fun W h => hgs.below h
 obtain ⟨k0, hk0, hkq⟩ := mod_word3 a2 300 (by omega) (by omega);obtain ⟨K, hK⟩ := nm (k0 + 1 : Nat);obtain ⟨K2, hK2⟩ := nm (2 * K : Nat);obtain ⟨K3, hK3⟩ := nm (2 * K + 64 : Nat);obtain ⟨M, hM⟩ := nm (K / 10 : Nat);obtain ⟨M1, hM1⟩ := nm (M + 1 : Nat);obtain ⟨M2, hM2⟩ := nm (4096 * (M + 1) : Nat);have hKb : K <= 300 := law_b hk0 hK;have hMb : M <= 30 := law_m hKb hM;have hKw := law_w1 hk0 hK;have hKw2 := law_w2 hKb hK2;have hKw3 := law_w3 hKb hK2 hK3;have hMw := law_w4 hKb hM;have hMw1 := law_w5 hMb hM1;have hMw2 := law_w6 hMb hM1 hM2;obtain ⟨er, her⟩ := mn (linErr gs0);have hP := Blk.new w 24 #[.slice gA Z gc];have hb := (Below.refl w.heap.size w).alloc (Nat.le_refl _) (.cells #[.slice gA Z gc] 24);obtain ⟨V, hV⟩ := nm (w.alloc (.cells #[.slice gA Z gc] 24));obtain ⟨G, hG⟩ := nm (w.heap.size);rw [<- hV] at hP hb;rw [<- hG] at hP;clear r1 l1 w1 w2 hwf;obtain ⟨Hb, HP, HV, HG, Hsm, Him, Hgs, HZ⟩ := hd8 hb hP hV hG hsm him hgs hZ;obtain ⟨Hta, Htu, Htl, Hga, HK, HK2, HK3, HM⟩ := hd8 hta htu htl hga hK hK2 hK3 hM;obtain ⟨HM1, HM2, Her, HKb, HMb⟩ := hd5 hM1 hM2 her hKb hMb;clear hMb hKb her hM2 hM1 hM hK3 hK2 hK hga htl htu hta hZ hgs him hsm hG hV hP hb;go_enter Try.func3, Try.ntmps3;go_upto_region 1 with fail;rw [<- HV.out, <- HG.out];go_wp2_with fail;refine (first_any V).mono ?_;rintro e w3 ⟨rfl, hb3⟩;have hbw3 := Hb.out.trans (hb3.mono Hb.out.size);have hz3 := hbw3.size;have hQ3 := HP.out.below hb3 HP.out.lt;have hlin := linear_any (Hga.out _ hbw3) hz3 Hsm.out;have kp0 := bc hQ3 0;obtain ⟨Hb3, Hbw3, Hz3, HQ3, Hlin⟩ := hd5 hb3 hbw3 hz3 hQ3 hlin;clear hlin hQ3 hz3 hbw3 hb3;go_wp2_with fail;refine Hlin.out.mono ?_;rintro e w4 ⟨hb4, hres⟩;rw [Her.out] at hres;have hbw4 := Hbw3.out.trans (hb4.mono Hbw3.out.size);have hz4 := hbw4.size;have hQ4 := HQ3.out.below hb4 HQ3.out.lt;obtain ⟨L, hL⟩ := nm (w4.heap.size);clear kp0
 rcases hres with ⟨hne, rfl⟩ | ⟨h0, pv, css, rfl, hown, hgo⟩
 ·have hbe := hbw4.alloc hz4 (.cells #[.slice none 0 0] 24);have hL0 := (Blk.new w4 24 #[.slice none 0 0]).cell 0;obtain ⟨Hbe, Hb4, Hbw4, Hz4, HQ4, HL⟩ := hd6 hbe hb4 hbw4 hz4 hQ4 hL;clear hL hQ4 hz4 hbw4 hb4 hbe;go_wp2_with fail;go_ret;exact ⟨rfl, Hbe.out⟩
 ·subst h0;obtain ⟨hck, hov⟩ := linErr_zero Her.out;have hRg := runsG hck Hsm.out Him.out;have hRl := runsL hck Hsm.out Him.out hov;have hg0 : 0 < gs0.length := (check_len hck).1;have hLg : GraphsAt w4 w4.heap.size pv (gs0.map lineG) := hgo.at_ (by rw [List.length_map]; exact hown);obtain ⟨LA, lc, rfl, _, _, _⟩ := own_any hown;rw [HZ.out] at hLg ⊢
  have hlg : ∀ W, Below w4.heap.size w4 W -> GraphsAt W w4.heap.size (.slice LA Z lc) (gs0.map lineG) := fun W h => hLg.below h
  have hB5 := Blk.new w4 24 #[.slice LA Z lc];have hal := (Below.refl w4.heap.size w4).alloc (Nat.le_refl _) (.cells #[.slice LA Z lc] 24);obtain ⟨V5, hV5⟩ := nm (w4.alloc (.cells #[.slice LA Z lc] 24));rw [<- hV5] at hB5 hal;rw [<- hL] at hB5;have hbw5 := hbw4.trans (hal.mono hz4);have hQ5 := hQ4.below hal hQ4.lt;have hx := all_see (fuel := K) hbw5.size hRg (Hga.out V5 hbw5) (Hta.out V5 hbw5) Htu.out Htl.out (by have := HKb.out; omega);have kp0 := bc hQ5 0;have kl0 := bc hB5 0;obtain ⟨Hb4, Hbw4, Hz4, HQ4, HL, HV5, Hck, Hov⟩ := hd8 hb4 hbw4 hz4 hQ4 hL hV5 hck hov;obtain ⟨HRg, HRl, Hg0, HLg, Hlg, HB5, Hal, Hbw5⟩ := hd8 hRg hRl hg0 hLg hlg hB5 hal hbw5;obtain ⟨HQ5, Hx, Hown, Hgo⟩ := hd4 hQ5 hx hown hgo;clear hgo hown hx hQ5 hbw5 hal hB5 hlg hLg hg0 hRl hRg hov hck hV5 hL hQ4 hz4 hbw4 hb4;go_upto_region 7 with fail;rw [<- HV5.out, <- HL.out];go_wp2_with fail;refine Hx.out.mono ?_;rintro e w6 ⟨hb6, xp, rfl, hsx⟩;have hb46 := Hal.out.trans (hb6.mono Hal.out.size);have hbw6 := Hbw5.out.trans (hb6.mono Hbw5.out.size);have hB6 := HB5.out.below hb6 HB5.out.lt;have hQ6 := HQ5.out.below hb6 HQ5.out.lt;have hy := all_see (fuel := K3) hb46.size HRl.out (Hlg.out w6 hb46) ((Hta.out w6 hbw6).more Hz4.out) Htu.out Htl.out (by have := HKb.out; have := HK3.out; omega);clear kp0 kl0;have kp0 := bc hQ6 0;have kl0 := bc hB6 0;obtain ⟨Hb6, Hsx, Hb46, Hbw6, HB6, HQ6, Hy⟩ := hd7 hb6 hsx hb46 hbw6 hB6 hQ6 hy;clear hy hQ6 hB6 hbw6 hb46 hsx hb6;go_wp2_with fail;refine Hy.out.mono ?_;rintro e w7 ⟨hb7, yp, rfl, hsy⟩;have hb47 := Hb46.out.trans (hb7.mono Hb46.out.size);have hbw7 := Hbw6.out.trans (hb7.mono Hbw6.out.size);have hB7 := HB6.out.below hb7 HB6.out.lt;have hQ7 := HQ6.out.below hb7 HQ6.out.lt;have hsx7 := Hsx.out.below hb7;obtain ⟨XA, nx, xc, xk, xv, hu1, hu2, hu3, hum, u6, u7, u8, hur⟩ := hsx7.open_;obtain ⟨YA, ny, yc, yk, yv, hv1, hv2, hv3, hvm, v6, v7, v8, hvr⟩ := hsy.open_;have hur := hur.more hb7.size;have hf := line_fore (tape := z1) HRg.out.gw.gx Hg0.out K;rw [<- HK3.out, hu2] at hf;clear kp0 kl0
  by_cases hxk : xk = 3
  ·rw [if_neg (by omega)] at hf;obtain ⟨l, hl⟩ := hf;subst hxk;have kp0 := bc hQ7 0;have kl0 := bc hB7 0;obtain ⟨Hb7, Hsy, Hb47, Hbw7, HB7, HQ7, Hsx7, Hu1⟩ := hd8 hb7 hsy hb47 hbw7 hB7 hQ7 hsx7 hu1;obtain ⟨Hu2, Hu3, Hv1, Hv2, Hv3, Hur, Hvr, Hl⟩ := hd8 hu2 hu3 hv1 hv2 hv3 hur hvr hl;obtain ⟨Hum, Hvm⟩ := hd2 hum hvm;clear hvm hum hl hvr hur hv3 hv2 hv1 hu3 hu2 hu1 hsx7 hQ7 hB7 hbw7 hb47 hsy hb7
   have hbg : Calls Try.prog 9 #[.slice XA nx xc, .slice YA ny yc] w7.drew fun e w' => e = .returned (.bool true) /\ ∃ d, w' = w7.drew.drewN d := begins_any (Hur.out.keep fun _ _ => rfl) (Hvr.out.keep fun _ _ => rfl) Hu1.out Hv1.out Hum.out Hvm.out Hl.out
   have Hbg := Lib.hid hbg;clear hbg;go_upto_region 11 with fail;refine wp_region_noPanic ?_;refine wp_region_held_drew (S := fun W => W.cell? ⟨xp, 6, none⟩ = some (.slice XA nx xc) /\ W.cell? ⟨yp, 6, none⟩ = some (.slice YA ny yc)) (by kernel_rfl) ⟨u6, v6⟩ (fun hHeld => ?_);refine wpAnyH_tk 0 ?_;refine wpAnyH_tk 1 ?_;refine wpAnyH_tk 2 ?_;refine wpAnyH_tk 3 ?_;refine wpAnyH_tk 4 ?_;refine wpAnyH_tk 5 ?_;refine wpAnyH_tk 6 ?_;refine wpAnyH_tk 7 ?_;refine wpAnyH_rd 8 (fun K hK => ?_);go_simp;refine Hbg.out.mono ?_;rintro e w8 ⟨rfl, d, rfl⟩;refine hK.out _ _ ⟨u6, v6⟩ (fun hHeld2 => ?_);clear hK K hHeld;refine wpAnyH_tk 9 ?_;refine wpAnyH_done (by kernel_rfl) ?_ _;refine NoPanic.normal ?_;have hdr7 : Below w7.heap.size w7 (w7.drew.drewN d) := below_drewN (Below.refl w7.heap.size w7).drew d;obtain ⟨w8, hw8⟩ := nm (w7.drew.drewN d);rw [<- hw8] at hdr7 ⊢;have hb48 := Hb47.out.trans (hdr7.mono Hb47.out.size);have hbw8 := Hbw7.out.trans (hdr7.mono Hbw7.out.size);have hB8 := HB7.out.below hdr7 HB7.out.lt;have hQ8 := HQ7.out.below hdr7 HQ7.out.lt;have hy := all_see (fuel := M) hb48.size HRl.out (Hlg.out w8 hb48) ((Hta.out w8 hbw8).more Hz4.out) Htu.out Htl.out (by have := HMb.out; omega);clear kp0 kl0 u6 u7 u8 v6 v7 v8 hHeld2;have kp0 := bc hQ8 0;have kl0 := bc hB8 0;obtain ⟨Hw8, Hdr7, Hb48, Hbw8, HB8, HQ8, Hy⟩ := hd7 hw8 hdr7 hb48 hbw8 hB8 hQ8 hy;clear hy hQ8 hB8 hbw8 hb48 hdr7 hw8;go_upto_region 14 with fail;go_wp2_with fail;refine Hy.out.mono ?_;rintro e w9 ⟨hb9, yq, rfl, hsy⟩;have hbw9 := Hbw8.out.trans (hb9.mono Hbw8.out.size);have hQ9 := HQ8.out.below hb9 HQ8.out.lt;have hx := all_see (fuel := M2) hbw9.size HRg.out (Hga.out w9 hbw9) (Hta.out w9 hbw9) Htu.out Htl.out (by have := HMb.out; have := HM2.out; omega);clear kp0 kl0;have kp0 := bc hQ9 0;obtain ⟨Hb9, Hsy, Hbw9, HQ9, Hx⟩ := hd5 hb9 hsy hbw9 hQ9 hx;clear hx hQ9 hbw9 hsy hb9;go_wp2_with fail;refine Hx.out.mono ?_;rintro e wA ⟨hbA, xq, rfl, hsx⟩;have hbwA := Hbw9.out.trans (hbA.mono Hbw9.out.size);have hsyA := Hsy.out.below hbA;obtain ⟨XA', nx', xc', xk', xv', hu1, hu2, hu3, hum, u6, u7, u8, hur⟩ := hsx.open_;obtain ⟨YA', ny', yc', yk', yv', hv1, hv2, hv3, hvm, v6, v7, v8, hvr⟩ := hsyA.open_;have hvr := hvr.more hbA.size;have hf := line_hind (tape := z1) HRg.out.gw.gx Hg0.out M (by have := HMb.out; omega);rw [<- HM2.out, hv2] at hf;clear kp0
   by_cases hyk : yk' = 3
   ·rw [if_neg (by omega)] at hf;obtain ⟨l, hl⟩ := hf;subst hyk
    have hbg : Calls Try.prog 9 #[.slice YA' ny' yc', .slice XA' nx' xc'] wA.drew fun e w' => e = .returned (.bool true) /\ ∃ d, w' = wA.drew.drewN d := begins_any (hvr.keep fun _ _ => rfl) (hur.keep fun _ _ => rfl) hv1 hu1 hvm hum hl
    obtain ⟨HbA, Hsx, HbwA, HsyA, Hu1, Hu2, Hu3, Hum⟩ := hd8 hbA hsx hbwA hsyA hu1 hu2 hu3 hum;obtain ⟨Hur, Hv1, Hv2, Hv3, Hvm, Hvr, Hl, Hbg⟩ := hd8 hur hv1 hv2 hv3 hvm hvr hl hbg;clear hbg hl hvr hvm hv3 hv2 hv1 hur hum hu3 hu2 hu1 hsyA hbwA hsx hbA;go_upto_region 18 with fail;refine wp_region_noPanic ?_;refine wp_region_held_drew (S := fun W => W.cell? ⟨xq, 6, none⟩ = some (.slice XA' nx' xc') /\ W.cell? ⟨yq, 6, none⟩ = some (.slice YA' ny' yc')) (by kernel_rfl) ⟨u6, v6⟩ (fun hHeld => ?_);refine wpAnyH_tk 0 ?_;refine wpAnyH_tk 1 ?_;refine wpAnyH_tk 2 ?_;refine wpAnyH_tk 3 ?_;refine wpAnyH_tk 4 ?_;refine wpAnyH_tk 5 ?_;refine wpAnyH_tk 6 ?_;refine wpAnyH_tk 7 ?_;refine wpAnyH_rd 8 (fun K hK => ?_);go_simp;refine Hbg.out.mono ?_;rintro e wB ⟨rfl, d2, rfl⟩;refine hK.out _ _ ⟨u6, v6⟩ (fun hHeld2 => ?_);clear hK K hHeld;refine wpAnyH_tk 9 ?_;refine wpAnyH_done (by kernel_rfl) ?_ _;refine NoPanic.normal ?_;have hfin := below_drewN HbwA.out.drew d2;clear u6 u7 u8 v6 v7 v8 hHeld2;have Hfin := Lib.hid hfin;clear hfin;go_wp2_with fail;go_ret;exact ⟨rfl, Hfin.out⟩
   ·rw [if_pos hyk] at hf;obtain ⟨hend, hev⟩ := hf
    have e1 : yk' = xk' := by rw [<- hv2, <- hu2]; exact congrArg Prod.fst hend
    have e2 : yv' = xv' := by rw [<- hv3, <- hu3]; exact congrArg Prod.snd hend
    subst e1 e2;have heql := eql_end yk' yv'
    have hsm : Calls Try.prog 8 #[.slice XA' nx' xc', .slice YA' ny' yc'] wA.drew fun e w' => e = .returned (.bool true) /\ ∃ d, w' = wA.drew.drewN d := evsame_any (hur.keep fun _ _ => rfl) (hvr.keep fun _ _ => rfl) hu1 hv1 hum hev
    obtain ⟨HbA, Hsx, HbwA, HsyA, Hu1, Hu2, Hu3, Hum⟩ := hd8 hbA hsx hbwA hsyA hu1 hu2 hu3 hum;obtain ⟨Hur, Hv1, Hv2, Hv3, Hvm, Hvr, Hev, Hend⟩ := hd8 hur hv1 hv2 hv3 hvm hvr hev hend;have Hsm := Lib.hid hsm;clear hsm hend hev hvr hvm hv3 hv2 hv1 hur hum hu3 hu2 hu1 hsyA hbwA hsx hbA;go_upto_region 17 with fail;refine wp_region_noPanic ?_;refine wp_region_held_drew (S := fun W => (W.cell? ⟨xq, 6, none⟩ = some (.slice XA' nx' xc') /\ W.cell? ⟨xq, 7, none⟩ = some (.int .i64 yk') /\ W.cell? ⟨xq, 8, none⟩ = some (.int .u64 yv')) /\ W.cell? ⟨yq, 6, none⟩ = some (.slice YA' ny' yc') /\ W.cell? ⟨yq, 7, none⟩ = some (.int .i64 yk') /\ W.cell? ⟨yq, 8, none⟩ = some (.int .u64 yv')) (by kernel_rfl) ⟨⟨u6, u7, u8⟩, v6, v7, v8⟩ (fun hHeld => ?_);refine wpAnyH_tk 0 ?_;refine wpAnyH_tk 1 ?_;refine wpAnyH_tk 2 ?_;refine wpAnyH_tk 3 ?_;refine wpAnyH_tk 4 ?_;refine wpAnyH_tk 5 ?_;refine wpAnyH_tk 6 ?_;refine wpAnyH_tk 7 ?_;refine wpAnyH_tk 8 ?_;refine wpAnyH_tk 9 ?_;refine wpAnyH_tk 10 ?_;refine wpAnyH_tk 11 ?_;refine wpAnyH_tk 12 ?_;refine wpAnyH_tk 13 ?_;refine wpAnyH_tk 14 ?_;refine wpAnyH_tk 15 ?_;refine wpAnyH_tk 16 ?_;refine wpAnyH_tk 17 ?_;refine wpAnyH_rd 18 (fun K hK => ?_);go_simp;refine Hsm.out.mono ?_;rintro e wB ⟨rfl, d2, rfl⟩;refine hK.out _ _ ⟨⟨u6, u7, u8⟩, v6, v7, v8⟩ (fun hHeld2 => ?_);clear hK K hHeld;refine wpAnyH_tk 19 ?_;refine wpAnyH_tk 20 ?_;refine wpAnyH_done (by kernel_rfl) ?_ _;refine NoPanic.normal ?_;have hfin := below_drewN HbwA.out.drew d2;clear u6 u7 u8 v6 v7 v8 hHeld2;have Hfin := Lib.hid hfin;clear hfin;go_wp2_with fail;go_ret;exact ⟨rfl, Hfin.out⟩
  ·rw [if_pos hxk] at hf;obtain ⟨hend, hev⟩ := hf
   have e1 : xk = yk := by rw [<- hu2, <- hv2]; exact congrArg Prod.fst hend
   have e2 : xv = yv := by rw [<- hu3, <- hv3]; exact congrArg Prod.snd hend
   subst e1 e2;have heql := eql_end xk xv
   have hsm : Calls Try.prog 8 #[.slice XA nx xc, .slice YA ny yc] w7.drew fun e w' => e = .returned (.bool true) /\ ∃ d, w' = w7.drew.drewN d := evsame_any (hur.keep fun _ _ => rfl) (hvr.keep fun _ _ => rfl) hu1 hv1 hum hev.symm
   obtain ⟨Hb7, Hsy, Hb47, Hbw7, HB7, HQ7, Hsx7, Hu1⟩ := hd8 hb7 hsy hb47 hbw7 hB7 hQ7 hsx7 hu1;obtain ⟨Hu2, Hu3, Hv1, Hv2, Hv3, Hur, Hvr, Hev⟩ := hd8 hu2 hu3 hv1 hv2 hv3 hur hvr hev;obtain ⟨Hend, Hum, Hvm, Hsm⟩ := hd4 hend hum hvm hsm;clear hsm hvm hum hend hev hvr hur hv3 hv2 hv1 hu3 hu2 hu1 hsx7 hQ7 hB7 hbw7 hb47 hsy hb7;go_upto_region 10 with fail;refine wp_region_noPanic ?_;refine wp_region_held_drew (S := fun W => (W.cell? ⟨xp, 6, none⟩ = some (.slice XA nx xc) /\ W.cell? ⟨xp, 7, none⟩ = some (.int .i64 xk) /\ W.cell? ⟨xp, 8, none⟩ = some (.int .u64 xv)) /\ W.cell? ⟨yp, 6, none⟩ = some (.slice YA ny yc) /\ W.cell? ⟨yp, 7, none⟩ = some (.int .i64 xk) /\ W.cell? ⟨yp, 8, none⟩ = some (.int .u64 xv)) (by kernel_rfl) ⟨⟨u6, u7, u8⟩, v6, v7, v8⟩ (fun hHeld => ?_);refine wpAnyH_tk 0 ?_;refine wpAnyH_tk 1 ?_;refine wpAnyH_tk 2 ?_;refine wpAnyH_tk 3 ?_;refine wpAnyH_tk 4 ?_;refine wpAnyH_tk 5 ?_;refine wpAnyH_tk 6 ?_;refine wpAnyH_tk 7 ?_;refine wpAnyH_tk 8 ?_;refine wpAnyH_tk 9 ?_;refine wpAnyH_tk 10 ?_;refine wpAnyH_tk 11 ?_;refine wpAnyH_tk 12 ?_;refine wpAnyH_tk 13 ?_;refine wpAnyH_tk 14 ?_;refine wpAnyH_tk 15 ?_;refine wpAnyH_tk 16 ?_;refine wpAnyH_tk 17 ?_;refine wpAnyH_rd 18 (fun K hK => ?_);go_simp;refine Hsm.out.mono ?_;rintro e w8 ⟨rfl, d, rfl⟩;refine hK.out _ _ ⟨⟨u6, u7, u8⟩, v6, v7, v8⟩ (fun hHeld2 => ?_);clear hK K hHeld;refine wpAnyH_tk 19 ?_;refine wpAnyH_tk 20 ?_;refine wpAnyH_done (by kernel_rfl) ?_ _;refine NoPanic.normal ?_;have hfin := below_drewN Hbw7.out.drew d;clear u6 u7 u8 v6 v7 v8 hHeld2;have Hfin := Lib.hid hfin;clear hfin;go_wp2_with fail;go_ret;exact ⟨rfl, Hfin.out⟩
end Go.Proofs.Ytncpehhfjkncoaa
