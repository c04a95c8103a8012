/- Programs of graphs as plain data, and how they lie in memory. No condition. -/
import Derived.Test.YtncpehhfjkncoaaWords2
import Derived.WalkKit
set_option linter.unusedVariables false
set_option linter.unusedSimpArgs false
namespace Go.Proofs.Ytncpehhfjkncoaa
open Go.RowKit

structure NodeD where
  op : Int
  byo : Int
  d : Int
  e : Int
  a : Int
  b : Int
  f : Int
  cell : Int
  imm : Int
  args : List Int
  next : Int
  els : Int
structure GraphD where
  params : List Int
  kinds : List Int
  cells : Int
  init : List Int
  result : Bool
  keep : Int
  nodes : List NodeD
  entry : Int
def ncells (x : NodeD) (av : Value) : List Value := [.int .u8 x.op, .int .u8 x.byo, .int .i64 x.d, .int .i64 x.e, .int .i64 x.a, .int .i64 x.b, .int .i64 x.f, .int .i64 x.cell, .int .u64 x.imm, av, .int .i64 x.next, .int .i64 x.els]
def gcells (g : GraphD) (pv kv iv nv : Value) : List Value := [pv, kv, .int .i64 g.cells, iv, .bool g.result, .int .i64 g.keep, nv, .int .i64 g.entry]
/-- numbers in a slice -/
def NumsAt (k : IntKind) (w : World) (B : Nat) (v : Value) (l : List Int) : Prop := ∃ A n c, v = .slice A n c ∧ n ≤ c ∧ c ≤ maxLen ∧ l.length = n ∧ Reads w B 1 A n (l.map (Value.int k))
/-- things of some cells in a slice -/
def RowsAt {α : Type} (size : Nat) (R : World → Nat → List Value → α → Prop) (w : World) (B : Nat) (v : Value) (l : List α) : Prop := ∃ A n c, ∃ css : List (List Value), v = .slice A n c ∧ n ≤ c ∧ c ≤ maxLen ∧ l.length = n ∧ css.length = n ∧ (∀ cs ∈ css, cs.length = size) ∧ Reads w B size A n css.flatten ∧
  ∀ (i : Nat) x, l[i]? = some x → ∃ cs, css[i]? = some cs ∧ R w B cs x
def NodeAt (w : World) (B : Nat) (cs : List Value) (x : NodeD) : Prop := ∃ av, cs = ncells x av ∧ NumsAt .i64 w B av x.args
def GraphAt (w : World) (B : Nat) (cs : List Value) (g : GraphD) : Prop := ∃ pv kv iv nv, cs = gcells g pv kv iv nv ∧ NumsAt .i64 w B pv g.params ∧ NumsAt .u8 w B kv g.kinds ∧ NumsAt .i64 w B iv g.init ∧ RowsAt 12 NodeAt w B nv g.nodes
def GraphsAt (w : World) (B : Nat) (v : Value) (gs : List GraphD) : Prop := RowsAt 8 GraphAt w B v gs
section
variable {w w' : World} {B B' : Nat} {v : Value}
theorem NumsAt.keep {k : IntKind} {l : List Int} (h : NumsAt k w B v l) (hk : ∀ p : Addr, p.block < B → w'.cell? p = w.cell? p) : NumsAt k w' B v l := by
  obtain ⟨A, n, c, h1, h2, h3, h4, h5⟩ := h
  exact ⟨A, n, c, h1, h2, h3, h4, h5.keep hk⟩
theorem NumsAt.more {k : IntKind} {l : List Int} (h : NumsAt k w B v l) (hB : B ≤ B') : NumsAt k w B' v l := by
  obtain ⟨A, n, c, h1, h2, h3, h4, h5⟩ := h
  exact ⟨A, n, c, h1, h2, h3, h4, h5.more hB⟩
theorem NumsAt.below {k : IntKind} {l : List Int} (h : NumsAt k w B v l) (hb : Below B w w') : NumsAt k w' B v l := h.keep fun _ hp => hb.cell hp
theorem RowsAt.keep {α : Type} {size : Nat} {R : World → Nat → List Value → α → Prop} {l : List α} (h : RowsAt size R w B v l) (hk : ∀ p : Addr, p.block < B → w'.cell? p = w.cell? p) (hR : ∀ cs x, R w B cs x → R w' B cs x) : RowsAt size R w' B v l := by
  obtain ⟨A, n, c, css, h1, h2, h3, h4, h5, h6, h7, h8⟩ := h
  refine ⟨A, n, c, css, h1, h2, h3, h4, h5, h6, h7.keep hk, fun i x hx => ?_⟩
  obtain ⟨cs, q1, q2⟩ := h8 i x hx
  exact ⟨cs, q1, hR cs x q2⟩
theorem RowsAt.more {α : Type} {size : Nat} {R : World → Nat → List Value → α → Prop} {l : List α} (h : RowsAt size R w B v l) (hB : B ≤ B') (hR : ∀ cs x, R w B cs x → R w B' cs x) : RowsAt size R w B' v l := by
  obtain ⟨A, n, c, css, h1, h2, h3, h4, h5, h6, h7, h8⟩ := h
  refine ⟨A, n, c, css, h1, h2, h3, h4, h5, h6, h7.more hB, fun i x hx => ?_⟩
  obtain ⟨cs, q1, q2⟩ := h8 i x hx
  exact ⟨cs, q1, hR cs x q2⟩
theorem NodeAt.keep {cs : List Value} {x : NodeD} (h : NodeAt w B cs x) (hk : ∀ p : Addr, p.block < B → w'.cell? p = w.cell? p) : NodeAt w' B cs x := by
  obtain ⟨av, h1, h2⟩ := h
  exact ⟨av, h1, h2.keep hk⟩
theorem NodeAt.more {cs : List Value} {x : NodeD} (h : NodeAt w B cs x) (hB : B ≤ B') : NodeAt w B' cs x := by
  obtain ⟨av, h1, h2⟩ := h
  exact ⟨av, h1, h2.more hB⟩
theorem GraphAt.keep {cs : List Value} {x : GraphD} (h : GraphAt w B cs x) (hk : ∀ p : Addr, p.block < B → w'.cell? p = w.cell? p) : GraphAt w' B cs x := by
  obtain ⟨pv, kv, iv, nv, h1, h2, h3, h4, h5⟩ := h
  exact ⟨pv, kv, iv, nv, h1, h2.keep hk, h3.keep hk, h4.keep hk, h5.keep hk fun _ _ h => h.keep hk⟩
theorem GraphAt.more {cs : List Value} {x : GraphD} (h : GraphAt w B cs x) (hB : B ≤ B') : GraphAt w B' cs x := by
  obtain ⟨pv, kv, iv, nv, h1, h2, h3, h4, h5⟩ := h
  exact ⟨pv, kv, iv, nv, h1, h2.more hB, h3.more hB, h4.more hB, h5.more hB fun _ _ h => h.more hB⟩
theorem GraphsAt.keep {gs : List GraphD} (h : GraphsAt w B v gs) (hk : ∀ p : Addr, p.block < B → w'.cell? p = w.cell? p) : GraphsAt w' B v gs := RowsAt.keep h hk fun _ _ h => h.keep hk
theorem GraphsAt.more {gs : List GraphD} (h : GraphsAt w B v gs) (hB : B ≤ B') : GraphsAt w B' v gs := RowsAt.more h hB fun _ _ h => h.more hB
theorem GraphsAt.below {gs : List GraphD} (h : GraphsAt w B v gs) (hb : Below B w w') : GraphsAt w' B v gs := h.keep fun _ hp => hb.cell hp
theorem NodeAt.below {cs : List Value} {x : NodeD} (h : NodeAt w B cs x) (hb : Below B w w') : NodeAt w' B cs x := h.keep fun _ hp => hb.cell hp
end
theorem flatten_get (css : List (List Value)) (size k : Nat) (cs : List Value) (h : css[k]? = some cs) (hs : ∀ c ∈ css, c.length = size) (j : Nat) (hj : j < size) : css.flatten[k * size + j]? = cs[j]? := by
  induction css generalizing k with
  | nil => simp at h
  | cons x r ih =>
    have hx := hs x List.mem_cons_self
    cases k with
    | zero =>
      simp at h; subst h
      rw [List.flatten_cons, Nat.zero_mul, Nat.zero_add, List.getElem?_append_left (by omega)]
    | succ k =>
      have h' := ih k (by simpa using h) (fun c hc => hs c (List.mem_cons_of_mem _ hc))
      rw [List.flatten_cons, List.getElem?_append_right (by rw [hx, Nat.add_mul]; omega), hx, show (k + 1) * size + j - size = k * size + j by rw [Nat.add_mul]; omega]
      exact h'
/-- a thing's cells, one by one -/
theorem RowsAt.at_ {α : Type} {size : Nat} {R : World → Nat → List Value → α → Prop} {w : World} {B : Nat} {A : Option Addr} {n c : Nat} {l : List α} (h : RowsAt size R w B (.slice A n c) l) {k : Nat} {x : α} (hk : l[k]? = some x) :
    ∃ ad cs, A = some ad ∧ ad.block < B ∧ k < n ∧ cs.length = size ∧ R w B cs x ∧ (∀ u, cs[0]? = some u → w.cell? (ad.add (k * size)) = some u) ∧ ∀ j u, 0 < j → cs[j]? = some u → w.cell? ⟨(ad.add (k * size)).block, (ad.add (k * size)).off + j, none⟩ = some u := by
  obtain ⟨A', n', c', css, h1, h2, h3, h4, h5, h6, h7, h8⟩ := h
  injection h1 with e1 e2 e3
  subst e1 e2 e3
  obtain ⟨cs, q1, q2⟩ := h8 k x hk
  have hkn : k < n := by have := (List.getElem?_eq_some_iff.1 hk).1; omega
  have hsz := h6 cs (List.mem_of_getElem? q1)
  obtain ⟨ad, e, hlt, hc⟩ := h7.2 (by omega)
  refine ⟨ad, cs, e, hlt, hkn, hsz, q2, fun u hu => ?_, fun j u hj hu => ?_⟩
  · have hp : 0 < size := by rw [← hsz]; exact (List.getElem?_eq_some_iff.1 hu).1
    have := hc (k * size + 0) u (by rw [flatten_get css size k cs q1 h6 0 hp]; exact hu)
    simpa using this
  · rw [addr_sub ad (k * size) j hj]
    exact hc _ _ (by rw [flatten_get css size k cs q1 h6 j (by rw [← hsz]; exact (List.getElem?_eq_some_iff.1 hu).1)]; exact hu)
/-- a graph's cells at an address -/
structure GraphM (w : World) (B : Nat) (ga : Addr) (g : GraphD) (pv kv iv nv : Value) : Prop where
  lt : ga.block < B
  c0 : w.cell? ga = some pv
  c1 : w.cell? ⟨ga.block, ga.off + 1, none⟩ = some kv
  c2 : w.cell? ⟨ga.block, ga.off + 2, none⟩ = some (.int .i64 g.cells)
  c3 : w.cell? ⟨ga.block, ga.off + 3, none⟩ = some iv
  c4 : w.cell? ⟨ga.block, ga.off + 4, none⟩ = some (.bool g.result)
  c5 : w.cell? ⟨ga.block, ga.off + 5, none⟩ = some (.int .i64 g.keep)
  c6 : w.cell? ⟨ga.block, ga.off + 6, none⟩ = some nv
  c7 : w.cell? ⟨ga.block, ga.off + 7, none⟩ = some (.int .i64 g.entry)
  params : NumsAt .i64 w B pv g.params
  kinds : NumsAt .u8 w B kv g.kinds
  init : NumsAt .i64 w B iv g.init
  nodes : RowsAt 12 NodeAt w B nv g.nodes
theorem GraphM.keep {w w' : World} {B : Nat} {ga : Addr} {g : GraphD} {pv kv iv nv : Value} (h : GraphM w B ga g pv kv iv nv) (hk : ∀ p : Addr, p.block < B → w'.cell? p = w.cell? p) : GraphM w' B ga g pv kv iv nv :=
  ⟨h.lt, (hk _ h.lt).trans h.c0, (hk ⟨ga.block, _, none⟩ h.lt).trans h.c1, (hk ⟨ga.block, _, none⟩ h.lt).trans h.c2, (hk ⟨ga.block, _, none⟩ h.lt).trans h.c3, (hk ⟨ga.block, _, none⟩ h.lt).trans h.c4, (hk ⟨ga.block, _, none⟩ h.lt).trans h.c5, (hk ⟨ga.block, _, none⟩ h.lt).trans h.c6, (hk ⟨ga.block, _, none⟩ h.lt).trans h.c7, h.params.keep hk, h.kinds.keep hk, h.init.keep hk, h.nodes.keep hk fun _ _ h => h.keep hk⟩
theorem GraphM.below {w w' : World} {B : Nat} {ga : Addr} {g : GraphD} {pv kv iv nv : Value} (h : GraphM w B ga g pv kv iv nv) (hb : Below B w w') : GraphM w' B ga g pv kv iv nv := h.keep fun _ hp => hb.cell hp
theorem block_add (ad : Addr) (m : Nat) : (ad.add m).block = ad.block := by
  unfold Addr.add
  split <;> rfl
theorem GraphsAt.at_ {w : World} {B : Nat} {A : Option Addr} {n c : Nat} {gs : List GraphD} (h : GraphsAt w B (.slice A n c) gs) {k : Nat} {g : GraphD} (hk : gs[k]? = some g) :
    ∃ ad pv kv iv nv, A = some ad ∧ k < n ∧ GraphM w B (ad.add (k * 8)) g pv kv iv nv := by
  obtain ⟨ad, cs, e, hlt, hkn, hsz, hR, h0, hj⟩ := RowsAt.at_ h hk
  obtain ⟨pv, kv, iv, nv, rfl, h1, h2, h3, h4⟩ := hR
  exact ⟨ad, pv, kv, iv, nv, e, hkn, ⟨by rw [block_add]; exact hlt, h0 _ rfl, hj 1 _ (by omega) rfl, hj 2 _ (by omega) rfl, hj 3 _ (by omega) rfl, hj 4 _ (by omega) rfl, hj 5 _ (by omega) rfl, hj 6 _ (by omega) rfl, hj 7 _ (by omega) rfl, h1, h2, h3, h4⟩⟩
theorem GraphsAt.slice {w : World} {B : Nat} {v : Value} {gs : List GraphD} (h : GraphsAt w B v gs) : ∃ A c, v = .slice A gs.length c ∧ gs.length ≤ c ∧ c ≤ maxLen := by
  obtain ⟨A, n, c, css, rfl, h2, h3, h4, _⟩ := h
  exact ⟨A, c, by rw [h4], by omega, h3⟩
theorem NumsAt.slice {k : IntKind} {w : World} {B : Nat} {v : Value} {l : List Int} (h : NumsAt k w B v l) : ∃ A c, v = .slice A l.length c ∧ l.length ≤ c ∧ c ≤ maxLen ∧ Reads w B 1 A l.length (l.map (Value.int k)) := by
  obtain ⟨A, n, c, rfl, h2, h3, h4, h5⟩ := h
  subst h4
  exact ⟨A, c, rfl, h2, h3, h5⟩
/-- a checker of a graph -/
structure Ck (w : World) (B cb : Nat) (allv : Value) (gs : List GraphD) (ga : Addr) (g : GraphD) (pv kv iv nv : Value) (bound : Bool) : Prop where
  blk : Blk w cb 67 #[allv, .pointer (some ga), .bool bound]
  le : B ≤ cb
  all : GraphsAt w B allv gs
  gm : GraphM w B ga g pv kv iv nv
theorem Ck.below {w w' : World} {B cb : Nat} {allv : Value} {gs : List GraphD} {ga : Addr} {g : GraphD} {pv kv iv nv : Value} {bound : Bool} (h : Ck w B cb allv gs ga g pv kv iv nv bound) (hb : Below w.heap.size w w') : Ck w' B cb allv gs ga g pv kv iv nv bound :=
  ⟨h.blk.below hb h.blk.lt, h.le, h.all.below (hb.mono (by have := h.le; have := h.blk.lt; omega)), h.gm.below (hb.mono (by have := h.le; have := h.blk.lt; omega))⟩
end Go.Proofs.Ytncpehhfjkncoaa
