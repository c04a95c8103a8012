/- More words for memory: rows and blocks behind stores and growth, a frame that names what may turn, copy into a row of the call's own. No condition. Programs of graphs as plain data, and how they lie in memory. No condition. Walks of the checker's small questions: a cell, places of a kind, lists. Conditions: the checker and the lists lie in memory. Walks of ir's Next, and of the question whether a list of kinds holds one that is none. Conditions: the lists lie in memory. -/
import Derived.Test.YtncpehhfjkncoaaRows
import Derived.Test.YtncpehhfjkncoaaPlAA
import Derived.Laws.CopyOwn
import Derived.Laws.ResultCell
import Derived.OneCell
import Derived.WalkKit
set_option linter.unusedVariables false
set_option linter.unusedSimpArgs false
set_option maxRecDepth 100000
set_option maxHeartbeats 16000000
namespace Go.Proofs.Ytncpehhfjkncoaa
open Go.RowKit

theorem addr_zero (R k : Nat) : (⟨R, 0, none⟩ : Addr).add k = ⟨R, k, none⟩ := by
 unfold Addr.add
 by_cases h : k = 0
 ·simp [h]
 ·simp [h]
theorem addr_at (R o k : Nat) : (⟨R, o, none⟩ : Addr).add k = ⟨R, o + k, none⟩ := by
 unfold Addr.add
 by_cases h : k = 0
 ·simp [h]
 ·simp [h]
theorem addr_sub (ad : Addr) (m t : Nat) (ht : 0 < t) : (⟨(ad.add m).block, (ad.add m).off + t, none⟩ : Addr) = ad.add (m + t) := by
 unfold Addr.add
 by_cases h : m = 0
 ·subst h; simp [show ¬ t = 0 by omega]
 ·simp [h, Nat.add_assoc]
theorem Blk.new2 (w : World) (o : Obj) (t : TypeId) (cs : Array Value) : Blk ((w.alloc o).alloc (.cells cs t)) (w.heap.size + 1) t cs := by
 have := Blk.new (w.alloc o) t cs
 rwa [World.size_alloc] at this
theorem Reads.newS {w : World} (H : Nat) (hH : w.heap.size = H) (cs : Array Value) (t : TypeId) (size n : Nat) (xs : List Value) (hx : cs.toList = xs) (hn : xs.length = n * size) : Reads (w.alloc (.cells cs t)) (H + 1) size (some ⟨H, 0, none⟩) n xs := by
 subst hH hx;exact ⟨hn, fun _ => ⟨_, rfl, Nat.lt_succ_self _, World.news_of_block (cs := cs) (t := t) (fr := (0, 0)) (heap_alloc_new w _)⟩⟩
theorem Reads.of_blk {w : World} {g size n : Nat} {t : TypeId} {cs : Array Value} {xs : List Value} (h : Blk w g t cs) (hx : cs.toList = xs) (hn : xs.length = n * size) : Reads w w.heap.size size (some ⟨g, 0, none⟩) n xs := by
 subst hx;exact ⟨hn, fun _ => ⟨_, rfl, h.lt, World.news_of_block (cs := cs) (t := t) (fr := (0, 0)) h⟩⟩
theorem Reads.take {w : World} {B n k : Nat} {A : Option Addr} {xs : List Value} (h : Reads w B 1 A n xs) (hk : k <= n) : Reads w B 1 A k (xs.take k) :=
 ⟨by have := h.1; rw [List.length_take]; omega, fun hn => by
  obtain ⟨ad, e, hb, hc⟩ := h.2 (by omega);refine ⟨ad, e, hb, fun j u hu => hc j u ?_⟩;have hj := (List.getElem?_eq_some_iff.1 hu).1;rw [List.length_take] at hj
  rwa [List.getElem?_take_of_lt (by omega)] at hu⟩
theorem own_of_blk {w : World} {g base size n : Nat} {t : TypeId} {cs : Array Value} {xs : List Value} (h : Blk w g t cs) (hb : base <= g) (hx : cs.toList = xs) (hn : xs.length = n * size) (hm : n <= maxLen) : w.ownsRow base t size (.slice (some ⟨g, 0, none⟩) n n) n xs := by
 subst hx;exact ⟨hn, .inr ⟨g, n, cs, rfl, hb, h, Nat.le_refl _, hm, by simpa using hn, by rw [<- hn]; exact List.take_length⟩⟩
theorem own_blk {w : World} {base size n g : Nat} {e : TypeId} {v : Value} {xs : List Value} (h : w.ownsRow base e size v n xs) (hg : v.ownBlock = some g) : ∃ cs, Blk w g e cs := by
 rcases h.2 with ⟨rfl, _⟩ | ⟨g', cap, cur, rfl, _, hh, _⟩
 ·cases hg
 ·injection hg with hg;simp only at hg;subst hg;exact ⟨cur, hh⟩
theorem own_app {w : World} {base size n : Nat} {e : TypeId} {v : Value} {xs ys : List Value} (h : w.ownsRow base e size v (0 + n) ([] ++ xs)) (hx : xs = ys) : w.ownsRow base e size v n ys := by
 subst hx; rw [Nat.zero_add, List.nil_append] at h; exact h
theorem grown_setCell (w : World) (p : Addr) (u : Value) : w.grownBy (w.setCell p u) (some p.block) := only_setCell (g := p.block) (World.grownBy.refl w _) (.inl rfl) u
theorem own_kept' {w w' : World} {base size n : Nat} {e : TypeId} {v : Value} {xs : List Value} {row : Option Nat} (h : w.ownsRow base e size v n xs) (hg : w.grownBy w' row)
  (hr : ∀ g, row = some g -> w.heap.size <= g ∨ ∃ t cs, Blk w g t cs /\ t ≠ e) : w'.ownsRow base e size v n xs := by
 refine h.kept hg ?_
 by_cases hv : v.ownBlock = none
 ·exact .inl hv
 ·right
  intro heq
  cases hrow : row with
  | none => exact hv (by rw [heq, hrow])
  | some g =>
   rw [hrow] at heq
   rcases hr g hrow with h1 | ⟨t, cs, h1, h2⟩
   ·have := (h.lt g heq).2; omega
   ·exact own_blk_ne h h1 (Ne.symm h2) heq
theorem own_row {w : World} {M size n' n c : Nat} {e : TypeId} {A : Option Addr} {xs : List Value} (h : w.ownsRow M e size (.slice A n c) n' xs) (hn : 0 < n) :
  n' = n /\ ∃ g, A = some ⟨g, 0, none⟩ /\ M <= g /\ (∃ cs, Blk w g e cs) /\ ∀ (j : Nat) u, xs[j]? = some u -> w.cell? ((⟨g, 0, none⟩ : Addr).add j) = some u := by
 obtain ⟨A', c', e1, _⟩ := own_any h;injection e1 with e1 e2 e3;subst e2;obtain ⟨g, cap, e4, hb, _⟩ := own_form h (by omega);injection e4 with e4;subst e4;exact ⟨rfl, g, rfl, hb, own_blk h rfl, h.cells (g := g) rfl⟩
theorem results_row_tmp {fn : Func} {p u : Tmp} {ty : TypeId} {P : Program} (h : fn.results = #[.cell p ty, .tmp u]) (tmps : Array Value) (w : World) (g : Nat) (t : TypeId) (cs : Array Value) (fr : Nat × Nat) (d : Array Field)
  (hp : tmps.getD p undef = .pointer (some ⟨g, 0, none⟩)) (hg : w.heap[g]? = some (.cells cs t fr))
  (hu : P.underlying ty = some (.struct d)) (hi : (P.info? ty).map (·.size) = some cs.size) :
  (results fn tmps).run P w = .ok (.tuple #[.agg cs, tmps.getD u undef]) w := by
 rw [results_cell_tmp h, hp];simp [asAddr, run_loadVar_row w g t ty cs fr (.struct d) hg hu rfl hi]

/-- nothing that was there has turned, but for the blocks of S -/
structure Keeps (S : Nat -> Prop) (w w' : World) : Prop where
 os : w'.os = w.os
 tape : w'.tape = w.tape
 output : w'.output = w.output
 size : w.heap.size <= w'.heap.size
 block : ∀ i, i < w.heap.size -> ¬ S i -> w'.heap[i]? = w.heap[i]?
section
variable {S S' : Nat -> Prop} {w w' w'' : World}
theorem Keeps.refl (S : Nat -> Prop) (w : World) : Keeps S w w := ⟨rfl, rfl, rfl, Nat.le_refl _, fun _ _ _ => rfl⟩
theorem Keeps.trans (h : Keeps S w w') (k : Keeps S' w' w'') (hS : ∀ i, S' i -> S i ∨ w.heap.size <= i) : Keeps S w w'' :=
 ⟨k.os.trans h.os, k.tape.trans h.tape, k.output.trans h.output, Nat.le_trans h.size k.size, fun i hi hn =>
  (k.block i (Nat.lt_of_lt_of_le hi h.size) (fun hs => by rcases hS i hs with h1 | h1; exact hn h1; omega)).trans (h.block i hi hn)⟩
theorem Keeps.drewN (h : Keeps S w w') (q : Nat) : Keeps S w (w'.drewN q) := ⟨h.os, h.tape, h.output, h.size, h.block⟩
theorem Keeps.drew (h : Keeps S w w') : Keeps S w w'.drew := ⟨h.os, h.tape, h.output, h.size, h.block⟩
theorem Keeps.of_drew (h : Keeps S w.drew w') : Keeps S w w' := ⟨h.os, h.tape, h.output, h.size, h.block⟩
theorem Keeps.grown {row : Option Nat} (h : Keeps S w w') (hg : w'.grownBy w'' row) (hr : ∀ g, row = some g -> S g ∨ w.heap.size <= g) : Keeps S w w'' :=
 ⟨hg.os.trans h.os, hg.tape.trans h.tape, hg.output.trans h.output, Nat.le_trans h.size hg.size, fun i hi hn =>
  (hg.block i (Nat.lt_of_lt_of_le hi h.size) (fun e => by rcases hr i e.symm with h1 | h1; exact hn h1; omega)).trans (h.block i hi hn)⟩
theorem Keeps.alloc (h : Keeps S w w') (o : Obj) : Keeps S w (w'.alloc o) := h.grown (World.grownBy_alloc w' o none) nofun
theorem Keeps.setCell (h : Keeps S w w') {p : Addr} (hp : S p.block ∨ w.heap.size <= p.block) (u : Value) : Keeps S w (w'.setCell p u) :=
 h.grown (grown_setCell w' p u) fun g e => by injection e with e; subst e; exact hp
theorem Keeps.below {B : Nat} (h : Keeps S w w') (hb : Below B w' w'') (hB : w.heap.size <= B) : Keeps S w w'' :=
 ⟨hb.os.trans h.os, hb.tape.trans h.tape, hb.output.trans h.output, Nat.le_trans h.size hb.size, fun i hi hn => (hb.block i (by omega)).trans (h.block i hi hn)⟩
theorem Keeps.mono (h : Keeps S w w') (hS : ∀ i, i < w.heap.size -> S i -> S' i) : Keeps S' w w' := ⟨h.os, h.tape, h.output, h.size, fun i hi hn => h.block i hi fun hs => hn (hS i hi hs)⟩
theorem Keeps.blk {g : Nat} {t : TypeId} {cs : Array Value} (h : Keeps S w w') (hb : Blk w g t cs) (hg : ¬ S g) : Blk w' g t cs := (h.block g hb.lt hg).trans hb
theorem Keeps.cell (h : Keeps S w w') {p : Addr} (hl : p.block < w.heap.size) (hp : ¬ S p.block) : w'.cell? p = w.cell? p := World.cell?_of_block (h.block _ hl hp)
theorem Keeps.own {base size n : Nat} {e : TypeId} {v : Value} {xs : List Value} (h : Keeps S w w') (ho : w.ownsRow base e size v n xs) (hs : ∀ k, v.ownBlock = some k -> ¬ S k) : w'.ownsRow base e size v n xs := by
 rcases ho.2 with h0 | ⟨g, cap, cur, rfl, h1, h2, h3⟩
 ·exact ⟨ho.1, .inl h0⟩
 ·exact ⟨ho.1, .inr ⟨g, cap, cur, rfl, h1, h.blk (t := e) (cs := cur) h2 (hs g rfl), h3⟩⟩
end

end Go.Proofs.Ytncpehhfjkncoaa
namespace Go.Proofs.Ytncpehhfjkncoaa
open Go.RowKit

structure NodeD where
 op : Int
 byo : Int
 d : Int
 e : Int
 a : Int
 b : Int
 f : Int
 cell : Int
 imm : Int
 args : List Int
 next : Int
 els : Int
structure GraphD where
 params : List Int
 kinds : List Int
 cells : Int
 init : List Int
 result : Bool
 keep : Int
 nodes : List NodeD
 entry : Int
def ncells (x : NodeD) (av : Value) : List Value := [.int .u8 x.op, .int .u8 x.byo, .int .i64 x.d, .int .i64 x.e, .int .i64 x.a, .int .i64 x.b, .int .i64 x.f, .int .i64 x.cell, .int .u64 x.imm, av, .int .i64 x.next, .int .i64 x.els]
def gcells (g : GraphD) (pv kv iv nv : Value) : List Value := [pv, kv, .int .i64 g.cells, iv, .bool g.result, .int .i64 g.keep, nv, .int .i64 g.entry]
/-- numbers in a slice -/
def NumsAt (k : IntKind) (w : World) (B : Nat) (v : Value) (l : List Int) : Prop := ∃ A n c, v = .slice A n c /\ n <= c /\ c <= maxLen /\ l.length = n /\ Reads w B 1 A n (l.map (Value.int k))
/-- things of some cells in a slice -/
def RowsAt {α : Type} (size : Nat) (R : World -> Nat -> List Value -> α -> Prop) (w : World) (B : Nat) (v : Value) (l : List α) : Prop := ∃ A n c, ∃ css : List (List Value), v = .slice A n c /\ n <= c /\ c <= maxLen /\ l.length = n /\ css.length = n /\ (∀ cs ∈ css, cs.length = size) /\ Reads w B size A n css.flatten /\
 ∀ (i : Nat) x, l[i]? = some x -> ∃ cs, css[i]? = some cs /\ R w B cs x
def NodeAt (w : World) (B : Nat) (cs : List Value) (x : NodeD) : Prop := ∃ av, cs = ncells x av /\ NumsAt .i64 w B av x.args
def GraphAt (w : World) (B : Nat) (cs : List Value) (g : GraphD) : Prop := ∃ pv kv iv nv, cs = gcells g pv kv iv nv /\ NumsAt .i64 w B pv g.params /\ NumsAt .u8 w B kv g.kinds /\ NumsAt .i64 w B iv g.init /\ RowsAt 12 NodeAt w B nv g.nodes
def GraphsAt (w : World) (B : Nat) (v : Value) (gs : List GraphD) : Prop := RowsAt 8 GraphAt w B v gs
section
variable {w w' : World} {B B' : Nat} {v : Value}
theorem NumsAt.keep {k : IntKind} {l : List Int} (h : NumsAt k w B v l) (hk : ∀ p : Addr, p.block < B -> w'.cell? p = w.cell? p) : NumsAt k w' B v l := by
 obtain ⟨A, n, c, h1, h2, h3, h4, h5⟩ := h;exact ⟨A, n, c, h1, h2, h3, h4, h5.keep hk⟩
theorem NumsAt.more {k : IntKind} {l : List Int} (h : NumsAt k w B v l) (hB : B <= B') : NumsAt k w B' v l := by
 obtain ⟨A, n, c, h1, h2, h3, h4, h5⟩ := h;exact ⟨A, n, c, h1, h2, h3, h4, h5.more hB⟩
theorem NumsAt.below {k : IntKind} {l : List Int} (h : NumsAt k w B v l) (hb : Below B w w') : NumsAt k w' B v l := h.keep fun _ hp => hb.cell hp
theorem RowsAt.keep {α : Type} {size : Nat} {R : World -> Nat -> List Value -> α -> Prop} {l : List α} (h : RowsAt size R w B v l) (hk : ∀ p : Addr, p.block < B -> w'.cell? p = w.cell? p) (hR : ∀ cs x, R w B cs x -> R w' B cs x) : RowsAt size R w' B v l := by
 obtain ⟨A, n, c, css, h1, h2, h3, h4, h5, h6, h7, h8⟩ := h;refine ⟨A, n, c, css, h1, h2, h3, h4, h5, h6, h7.keep hk, fun i x hx => ?_⟩;obtain ⟨cs, q1, q2⟩ := h8 i x hx;exact ⟨cs, q1, hR cs x q2⟩
theorem RowsAt.more {α : Type} {size : Nat} {R : World -> Nat -> List Value -> α -> Prop} {l : List α} (h : RowsAt size R w B v l) (hB : B <= B') (hR : ∀ cs x, R w B cs x -> R w B' cs x) : RowsAt size R w B' v l := by
 obtain ⟨A, n, c, css, h1, h2, h3, h4, h5, h6, h7, h8⟩ := h;refine ⟨A, n, c, css, h1, h2, h3, h4, h5, h6, h7.more hB, fun i x hx => ?_⟩;obtain ⟨cs, q1, q2⟩ := h8 i x hx;exact ⟨cs, q1, hR cs x q2⟩
theorem NodeAt.keep {cs : List Value} {x : NodeD} (h : NodeAt w B cs x) (hk : ∀ p : Addr, p.block < B -> w'.cell? p = w.cell? p) : NodeAt w' B cs x := by
 obtain ⟨av, h1, h2⟩ := h;exact ⟨av, h1, h2.keep hk⟩
theorem NodeAt.more {cs : List Value} {x : NodeD} (h : NodeAt w B cs x) (hB : B <= B') : NodeAt w B' cs x := by
 obtain ⟨av, h1, h2⟩ := h;exact ⟨av, h1, h2.more hB⟩
theorem GraphAt.keep {cs : List Value} {x : GraphD} (h : GraphAt w B cs x) (hk : ∀ p : Addr, p.block < B -> w'.cell? p = w.cell? p) : GraphAt w' B cs x := by
 obtain ⟨pv, kv, iv, nv, h1, h2, h3, h4, h5⟩ := h;exact ⟨pv, kv, iv, nv, h1, h2.keep hk, h3.keep hk, h4.keep hk, h5.keep hk fun _ _ h => h.keep hk⟩
theorem GraphAt.more {cs : List Value} {x : GraphD} (h : GraphAt w B cs x) (hB : B <= B') : GraphAt w B' cs x := by
 obtain ⟨pv, kv, iv, nv, h1, h2, h3, h4, h5⟩ := h;exact ⟨pv, kv, iv, nv, h1, h2.more hB, h3.more hB, h4.more hB, h5.more hB fun _ _ h => h.more hB⟩
theorem GraphsAt.keep {gs : List GraphD} (h : GraphsAt w B v gs) (hk : ∀ p : Addr, p.block < B -> w'.cell? p = w.cell? p) : GraphsAt w' B v gs := RowsAt.keep h hk fun _ _ h => h.keep hk
theorem GraphsAt.more {gs : List GraphD} (h : GraphsAt w B v gs) (hB : B <= B') : GraphsAt w B' v gs := RowsAt.more h hB fun _ _ h => h.more hB
theorem GraphsAt.below {gs : List GraphD} (h : GraphsAt w B v gs) (hb : Below B w w') : GraphsAt w' B v gs := h.keep fun _ hp => hb.cell hp
theorem NodeAt.below {cs : List Value} {x : NodeD} (h : NodeAt w B cs x) (hb : Below B w w') : NodeAt w' B cs x := h.keep fun _ hp => hb.cell hp
end
theorem flatten_get (css : List (List Value)) (size k : Nat) (cs : List Value) (h : css[k]? = some cs) (hs : ∀ c ∈ css, c.length = size) (j : Nat) (hj : j < size) : css.flatten[k * size + j]? = cs[j]? := by
 induction css generalizing k with
 | nil => simp at h
 | cons x r ih =>
  have hx := hs x List.mem_cons_self
  cases k with
  | zero =>
   simp at h; subst h;rw [List.flatten_cons, Nat.zero_mul, Nat.zero_add, List.getElem?_append_left (by omega)]
  | succ k =>
   have h' := ih k (by simpa using h) (fun c hc => hs c (List.mem_cons_of_mem _ hc));rw [List.flatten_cons, List.getElem?_append_right (by rw [hx, Nat.add_mul]; omega), hx, show (k + 1) * size + j - size = k * size + j by rw [Nat.add_mul]; omega];exact h'
/-- a thing's cells, one by one -/
theorem RowsAt.at_ {α : Type} {size : Nat} {R : World -> Nat -> List Value -> α -> Prop} {w : World} {B : Nat} {A : Option Addr} {n c : Nat} {l : List α} (h : RowsAt size R w B (.slice A n c) l) {k : Nat} {x : α} (hk : l[k]? = some x) :
  ∃ ad cs, A = some ad /\ ad.block < B /\ k < n /\ cs.length = size /\ R w B cs x /\ (∀ u, cs[0]? = some u -> w.cell? (ad.add (k * size)) = some u) /\ ∀ j u, 0 < j -> cs[j]? = some u -> w.cell? ⟨(ad.add (k * size)).block, (ad.add (k * size)).off + j, none⟩ = some u := by
 obtain ⟨A', n', c', css, h1, h2, h3, h4, h5, h6, h7, h8⟩ := h;injection h1 with e1 e2 e3;subst e1 e2 e3;obtain ⟨cs, q1, q2⟩ := h8 k x hk
 have hkn : k < n := by have := (List.getElem?_eq_some_iff.1 hk).1; omega
 have hsz := h6 cs (List.mem_of_getElem? q1);obtain ⟨ad, e, hlt, hc⟩ := h7.2 (by omega);refine ⟨ad, cs, e, hlt, hkn, hsz, q2, fun u hu => ?_, fun j u hj hu => ?_⟩
 ·have hp : 0 < size := by rw [<- hsz]; exact (List.getElem?_eq_some_iff.1 hu).1
  have := hc (k * size + 0) u (by rw [flatten_get css size k cs q1 h6 0 hp]; exact hu)
  simpa using this
 ·rw [addr_sub ad (k * size) j hj];exact hc _ _ (by rw [flatten_get css size k cs q1 h6 j (by rw [<- hsz]; exact (List.getElem?_eq_some_iff.1 hu).1)]; exact hu)
/-- a graph's cells at an address -/
structure GraphM (w : World) (B : Nat) (ga : Addr) (g : GraphD) (pv kv iv nv : Value) : Prop where
 lt : ga.block < B
 c0 : w.cell? ga = some pv
 c1 : w.cell? ⟨ga.block, ga.off + 1, none⟩ = some kv
 c2 : w.cell? ⟨ga.block, ga.off + 2, none⟩ = some (.int .i64 g.cells)
 c3 : w.cell? ⟨ga.block, ga.off + 3, none⟩ = some iv
 c4 : w.cell? ⟨ga.block, ga.off + 4, none⟩ = some (.bool g.result)
 c5 : w.cell? ⟨ga.block, ga.off + 5, none⟩ = some (.int .i64 g.keep)
 c6 : w.cell? ⟨ga.block, ga.off + 6, none⟩ = some nv
 c7 : w.cell? ⟨ga.block, ga.off + 7, none⟩ = some (.int .i64 g.entry)
 params : NumsAt .i64 w B pv g.params
 kinds : NumsAt .u8 w B kv g.kinds
 init : NumsAt .i64 w B iv g.init
 nodes : RowsAt 12 NodeAt w B nv g.nodes
theorem GraphM.keep {w w' : World} {B : Nat} {ga : Addr} {g : GraphD} {pv kv iv nv : Value} (h : GraphM w B ga g pv kv iv nv) (hk : ∀ p : Addr, p.block < B -> w'.cell? p = w.cell? p) : GraphM w' B ga g pv kv iv nv :=
 ⟨h.lt, (hk _ h.lt).trans h.c0, (hk ⟨ga.block, _, none⟩ h.lt).trans h.c1, (hk ⟨ga.block, _, none⟩ h.lt).trans h.c2, (hk ⟨ga.block, _, none⟩ h.lt).trans h.c3, (hk ⟨ga.block, _, none⟩ h.lt).trans h.c4, (hk ⟨ga.block, _, none⟩ h.lt).trans h.c5, (hk ⟨ga.block, _, none⟩ h.lt).trans h.c6, (hk ⟨ga.block, _, none⟩ h.lt).trans h.c7, h.params.keep hk, h.kinds.keep hk, h.init.keep hk, h.nodes.keep hk fun _ _ h => h.keep hk⟩
theorem GraphM.below {w w' : World} {B : Nat} {ga : Addr} {g : GraphD} {pv kv iv nv : Value} (h : GraphM w B ga g pv kv iv nv) (hb : Below B w w') : GraphM w' B ga g pv kv iv nv := h.keep fun _ hp => hb.cell hp
theorem block_add (ad : Addr) (m : Nat) : (ad.add m).block = ad.block := by
 unfold Addr.add
 split <;> rfl
theorem GraphsAt.at_ {w : World} {B : Nat} {A : Option Addr} {n c : Nat} {gs : List GraphD} (h : GraphsAt w B (.slice A n c) gs) {k : Nat} {g : GraphD} (hk : gs[k]? = some g) :
  ∃ ad pv kv iv nv, A = some ad /\ k < n /\ GraphM w B (ad.add (k * 8)) g pv kv iv nv := by
 obtain ⟨ad, cs, e, hlt, hkn, hsz, hR, h0, hj⟩ := RowsAt.at_ h hk;obtain ⟨pv, kv, iv, nv, rfl, h1, h2, h3, h4⟩ := hR;exact ⟨ad, pv, kv, iv, nv, e, hkn, ⟨by rw [block_add]; exact hlt, h0 _ rfl, hj 1 _ (by omega) rfl, hj 2 _ (by omega) rfl, hj 3 _ (by omega) rfl, hj 4 _ (by omega) rfl, hj 5 _ (by omega) rfl, hj 6 _ (by omega) rfl, hj 7 _ (by omega) rfl, h1, h2, h3, h4⟩⟩
theorem GraphsAt.slice {w : World} {B : Nat} {v : Value} {gs : List GraphD} (h : GraphsAt w B v gs) : ∃ A c, v = .slice A gs.length c /\ gs.length <= c /\ c <= maxLen := by
 obtain ⟨A, n, c, css, rfl, h2, h3, h4, _⟩ := h;exact ⟨A, c, by rw [h4], by omega, h3⟩
theorem NumsAt.slice {k : IntKind} {w : World} {B : Nat} {v : Value} {l : List Int} (h : NumsAt k w B v l) : ∃ A c, v = .slice A l.length c /\ l.length <= c /\ c <= maxLen /\ Reads w B 1 A l.length (l.map (Value.int k)) := by
 obtain ⟨A, n, c, rfl, h2, h3, h4, h5⟩ := h;subst h4;exact ⟨A, c, rfl, h2, h3, h5⟩
/-- a checker of a graph -/
structure Ck (w : World) (B cb : Nat) (allv : Value) (gs : List GraphD) (ga : Addr) (g : GraphD) (pv kv iv nv : Value) (bound : Bool) : Prop where
 blk : Blk w cb 67 #[allv, .pointer (some ga), .bool bound]
 le : B <= cb
 all : GraphsAt w B allv gs
 gm : GraphM w B ga g pv kv iv nv
theorem Ck.below {w w' : World} {B cb : Nat} {allv : Value} {gs : List GraphD} {ga : Addr} {g : GraphD} {pv kv iv nv : Value} {bound : Bool} (h : Ck w B cb allv gs ga g pv kv iv nv bound) (hb : Below w.heap.size w w') : Ck w' B cb allv gs ga g pv kv iv nv bound :=
 ⟨h.blk.below hb h.blk.lt, h.le, h.all.below (hb.mono (by have := h.le; have := h.blk.lt; omega)), h.gm.below (hb.mono (by have := h.le; have := h.blk.lt; omega))⟩
end Go.Proofs.Ytncpehhfjkncoaa
namespace Go.Proofs.Ytncpehhfjkncoaa
open Go.RowKit

def cellB (g : GraphD) (n : Int) : Bool := decide (0 <= n) && decide (n < g.cells)
def fitsB (g : GraphD) (bound : Bool) (k p : Int) : Bool := decide (0 <= p) && decide (p < g.kinds.length) && (bound || decide (g.kinds.getD p.toNat 0 = k))
def isB (g : GraphD) (bound : Bool) (k : Int) (ps : List Int) : Bool := ps.all (fitsB g bound k)
section
variable {w : World} {B cb : Nat} {allv : Value} {gs : List GraphD} {ga : Addr} {g : GraphD} {pv kv iv nv : Value} {bound : Bool}
theorem cell_any (h : Ck w B cb allv gs ga g pv kv iv nv bound) (n : Int) :
  Calls Try.prog 39 #[.pointer (some ⟨cb, 0, none⟩), .int .i64 n] w fun e w' => e = .returned (.bool (cellB g n)) /\ w = w' := by
 have kc1 := bc h.blk 1;have k2 := h.gm.c2;clear h;obtain ⟨r, hr⟩ := mn (cellB g n)
 have hcase : (¬ 0 <= n /\ r = false) ∨ (0 <= n /\ ¬ n < g.cells /\ r = false) ∨ (0 <= n /\ n < g.cells /\ r = true) := by
  rw [<- hr];unfold cellB
  by_cases h1 : 0 <= n
  ·by_cases h2 : n < g.cells
   ·exact .inr (.inr ⟨h1, h2, by simp [h1, h2]⟩)
   ·exact .inr (.inl ⟨h1, h2, by simp [h2]⟩)
  ·exact .inl ⟨h1, by simp [h1]⟩
 rw [hr];clear hr
 rcases hcase with ⟨c0, rfl⟩ | ⟨c0, c1, rfl⟩ | ⟨c0, c1, rfl⟩
 all_goals
  go_enter Try.func39, Try.ntmps39;go_wp2_with fail;go_ret;exact ⟨rfl, rfl⟩
theorem is_any (h : Ck w B cb allv gs ga g pv kv iv nv bound) (k : Int) (D : Nat) (A : Option Addr) (m c : Nat) (ps : List Int) (hP : Reads w D 1 A m (ps.map (Value.int .i64))) (hm : ps.length = m) (hmc : m <= 140737488351232) :
  Calls Try.prog 41 #[.pointer (some ⟨cb, 0, none⟩), .int .u8 k, .slice A m c] w fun e w' => e = .returned (.bool (isB g bound k ps)) /\ w = w' := by
 have kc1 := bc h.blk 1;have kc2 := bc h.blk 2;obtain ⟨KA, kc', hkv, _, _, hK⟩ := h.gm.kinds.slice;subst hkv;have k1 := h.gm.c1;obtain ⟨r, hr⟩ := mn (isB g bound k ps);rw [hr];obtain ⟨L, hL⟩ := mn (g.kinds.length);rw [hL] at k1 hK;obtain ⟨H, HP, Hm, Hr, HK, HL⟩ := hd6 h hP hm hr hK hL;clear hL hK hr hm hP h;go_enter Try.func41, Try.ntmps41;go_wp2_with fail
 go_loopw [11] (fun i wq => ∃ j : Nat, j <= m /\ i = .int .i64 j /\ wq = w /\ Hid (∀ p ∈ ps.take j, fitsB g bound k p = true)) (fun i _ => m - (intOf i).toNat)
 case atStart => exact ⟨0, by omega, rfl, rfl, (show ∀ p ∈ ps.take 0, fitsB g bound k p = true from fun p hp => by simp at hp)⟩
 case round =>
  obtain ⟨j, hj, rfl, hwr, hall⟩ := hrel;subst hwr
  by_cases hjm : j < m
  ·obtain ⟨ad, u0, hA, _, hu0, hce⟩ := HP.out.at_ hjm;subst hA
   obtain ⟨p, hpj, rfl⟩ : ∃ p, ps[j]? = some p /\ u0 = .int .i64 p := by
    rw [List.getElem?_map, Option.map_eq_some_iff] at hu0;obtain ⟨x, h1, h2⟩ := hu0;exact ⟨x, h1, h2.symm⟩
   have hmem := List.mem_of_getElem? hpj
   have hstep : fitsB g bound k p = true -> ∀ q ∈ ps.take (j + 1), fitsB g bound k q = true := fun hf q hq => by
    rw [List.take_add_one, hpj] at hq
    rcases List.mem_append.1 hq with hq | hq
    ·exact hall.out q hq
    ·simp at hq; rw [hq]; exact hf
   have hbad : fitsB g bound k p = false -> r = false := fun hf => by
    rw [<- Hr.out];unfold isB
    rcases hh : ps.all (fitsB g bound k) with _ | _
    ·rfl
    ·rw [List.all_eq_true.1 hh p hmem] at hf; cases hf
   by_cases c0 : 0 <= p
   ·obtain ⟨P, rfl⟩ := Int.eq_ofNat_of_zero_le c0
    have c0' : ¬ (P : Int) < 0 := by omega
    clear c0
    by_cases c1 : P < L
    ·have c1' : ¬ (L : Int) <= P := by omega
     have c1'' : (P : Int) < L := by omega
     obtain ⟨kad, ku, hkA, _, hku, hkc⟩ := HK.out.at_ c1;subst hkA
     obtain ⟨kk, hkk, rfl⟩ : ∃ kk, g.kinds[P]? = some kk /\ ku = .int .u8 kk := by
      rw [List.getElem?_map, Option.map_eq_some_iff] at hku;obtain ⟨x, h1, h2⟩ := hku;exact ⟨x, h1, h2.symm⟩
     have hfit : fitsB g bound k P = (bound || decide (kk = k)) := by
      unfold fitsB;rw [HL.out, Int.toNat_natCast, List.getD_eq_getElem?_getD, hkk, Option.getD_some];simp [c1]
     rw [hfit] at hstep hbad;clear hu0 hku
     cases bound
     ·by_cases c2 : kk = k
      ·have c2' : (kk != k) = false := by simp [c2]
       have hs := hstep (by simp [c2]);obtain ⟨Hs, Hall, Hpj, Hmem, Hkk, Hfit, Hstep, Hbad⟩ := hd8 hs hall hpj hmem hkk hfit hstep hbad;have Hc2 := Lib.hid c2;clear c2 hbad hstep hfit hkk hmem hpj hall hs;go_wp2_with fail;exact ⟨⟨j + 1, by omega, by go_num, trivial, Lib.hid Hs.out⟩, by simp [intOf]; omega⟩
      ·have c2' : (kk != k) = true := by simp [c2]
       have hs := hbad (by simp [c2]);obtain ⟨Hs, Hall, Hpj, Hmem, Hkk, Hfit, Hstep, Hbad⟩ := hd8 hs hall hpj hmem hkk hfit hstep hbad;have Hc2 := Lib.hid c2;clear c2 hbad hstep hfit hkk hmem hpj hall hs;go_wp2_with fail;go_ret;rw [Hs.out];exact ⟨rfl, rfl⟩
     ·have hs := hstep rfl;obtain ⟨Hs, Hall, Hpj, Hmem, Hkk, Hfit, Hstep, Hbad⟩ := hd8 hs hall hpj hmem hkk hfit hstep hbad;clear hbad hstep hfit hkk hmem hpj hall hs;go_wp2_with fail;exact ⟨⟨j + 1, by omega, by go_num, trivial, Lib.hid Hs.out⟩, by simp [intOf]; omega⟩
    ·have c1' : (L : Int) <= P := by omega
     have hs := hbad (by unfold fitsB; rw [HL.out]; simp [c1]);obtain ⟨Hs, Hall, Hpj, Hmem, Hstep, Hbad⟩ := hd6 hs hall hpj hmem hstep hbad;clear hbad hstep hmem hpj hall hs;clear hu0;go_wp2_with fail;go_ret;rw [Hs.out];exact ⟨rfl, rfl⟩
   ·have c0' : p < 0 := by omega
    have hs := hbad (by unfold fitsB; simp [c0]);obtain ⟨Hs, Hall, Hpj, Hmem, Hstep, Hbad, Hc0⟩ := hd7 hs hall hpj hmem hstep hbad c0;clear c0 hbad hstep hmem hpj hall hs;clear hu0;go_wp2_with fail;go_ret;rw [Hs.out];exact ⟨rfl, rfl⟩
  ·have hs : r = true := by
    rw [<- Hr.out];unfold isB;rw [List.take_of_length_le (by rw [Hm.out]; omega)] at hall;exact List.all_eq_true.2 hall.out
   obtain ⟨Hs, Hall⟩ := hd2 hs hall;clear hall hs;go_wp2_with fail;go_ret;rw [Hs.out];exact ⟨rfl, rfl⟩
end
theorem index_any (w : World) (D : Nat) (A : Option Addr) (m c : Nat) (ps : List Int) (hP : Reads w D 1 A m (ps.map (Value.int .i64))) (hm : ps.length = m) (hmc : m <= 140737488351232) (x : Int) :
  Calls Try.prog 51 #[.slice A m c, .int .i64 x] w fun e w' => (∃ n : Int, e = .returned (.int .i64 n) /\ (0 <= n ↔ x ∈ ps)) /\ w = w' := by
 obtain ⟨HP, Hm⟩ := hd2 hP hm;clear hm hP;go_enter Try.func51, Try.ntmps51;go_wp2_with fail
 go_loopw [8] (fun i wq => ∃ j : Nat, j <= m /\ i = .int .i64 j /\ wq = w /\ Hid (x ∉ ps.take j)) (fun i _ => m - (intOf i).toNat)
 case atStart => exact ⟨0, by omega, rfl, rfl, (show x ∉ ps.take 0 by simp)⟩
 case round =>
  obtain ⟨j, hj, rfl, hwr, hall⟩ := hrel;subst hwr
  by_cases hjm : j < m
  ·obtain ⟨ad, u0, hA, _, hu0, hce⟩ := HP.out.at_ hjm;subst hA
   obtain ⟨p, hpj, rfl⟩ : ∃ p, ps[j]? = some p /\ u0 = .int .i64 p := by
    rw [List.getElem?_map, Option.map_eq_some_iff] at hu0;obtain ⟨x, h1, h2⟩ := hu0;exact ⟨x, h1, h2.symm⟩
   have hmem := List.mem_of_getElem? hpj
   by_cases hx : x = p
   ·have hb : (x == p) = true := by simp [hx]
    have hin : x ∈ ps := hx ▸ hmem;obtain ⟨Hall, Hpj, Hmem, Hx, Hin⟩ := hd5 hall hpj hmem hx hin;clear hin hx hmem hpj hall;clear hu0;go_wp2_with fail;go_ret;exact ⟨⟨j, rfl, by simp [Hin.out]⟩, rfl⟩
   ·have hb : (x == p) = false := by simp [hx]
    have hs : x ∉ ps.take (j + 1) := by
     rw [List.take_add_one, hpj];simp only [Option.toList, List.mem_append, List.mem_singleton];rintro (h | h)
     ·exact hall.out h
     ·exact hx h
    obtain ⟨Hall, Hpj, Hmem, Hx, Hs⟩ := hd5 hall hpj hmem hx hs;clear hs hx hmem hpj hall;clear hu0;go_wp2_with fail;exact ⟨⟨j + 1, by omega, by go_num, trivial, Lib.hid Hs.out⟩, by simp [intOf]; omega⟩
  ·have hs : x ∉ ps := by
    rw [List.take_of_length_le (by rw [Hm.out]; omega)] at hall;exact hall.out
   obtain ⟨Hs, Hall⟩ := hd2 hs hall;clear hall hs;go_wp2_with fail;go_ret;exact ⟨⟨-1, rfl, by simp [Hs.out]⟩, rfl⟩
theorem contains_any (w : World) (D : Nat) (A : Option Addr) (m c : Nat) (ps : List Int) (hP : Reads w D 1 A m (ps.map (Value.int .i64))) (hm : ps.length = m) (hmc : m <= 140737488351232) (x : Int) :
  Calls Try.prog 40 #[.slice A m c, .int .i64 x] w fun e w' => e = .returned (.bool (decide (x ∈ ps))) /\ w = w' := by
 obtain ⟨HP, Hm⟩ := hd2 hP hm;clear hm hP;go_enter Try.func40, Try.ntmps40;go_wp2_with fail;refine (index_any w D A m c ps HP.out Hm.out hmc x).mono ?_;rintro e w1 ⟨⟨n, rfl, hn⟩, rfl⟩;have Hn := Lib.hid hn;clear hn;go_wp2_with fail;go_ret;exact ⟨by simp [Hn.out], rfl⟩
theorem ptr_any (w : World) (k : Int) : Calls Try.prog 38 #[.int .u8 k] w fun e w' => e = .returned (.bool (decide (1 < k))) /\ w = w' := by
 go_enter Try.func38, Try.ntmps38;go_wp2_with fail;go_ret;exact ⟨rfl, rfl⟩
end Go.Proofs.Ytncpehhfjkncoaa
namespace Go.Proofs.Ytncpehhfjkncoaa
open Go.RowKit

def nextL (x : NodeD) : List Int := if x.op = 12 ∨ x.op = 14 ∨ x.op = 18 then [] else if x.op = 9 /\ x.els ≠ x.next then [x.next, x.els] else if x.op < 1 ∨ 18 < x.op then [] else [x.next]
/-- a list answered: it lies somewhere, and holds these numbers -/
def Lst (w : World) (v : Value) (l : List Int) : Prop := ∃ A c, v = .slice A l.length c /\ l.length <= c /\ c <= maxLen /\ Reads w w.heap.size 1 A l.length (l.map (Value.int .i64))
theorem Lst.nil (w : World) : Lst w (.slice none 0 0) [] := ⟨none, 0, rfl, Nat.le_refl _, by unfold maxLen; simp, Reads.none_⟩
theorem Lst.below {w w' : World} {v : Value} {l : List Int} (h : Lst w v l) (hb : Below w.heap.size w w') : Lst w' v l := by
 obtain ⟨A, c, h1, h2, h3, h4⟩ := h;exact ⟨A, c, h1, h2, h3, (h4.below hb).more hb.size⟩
theorem Reads.newL (w : World) (t : TypeId) (l : List Value) : Reads (w.alloc (.cells l.toArray t)) (w.heap.size + 1) 1 (some ⟨w.heap.size, 0, none⟩) l.length l := by
 refine ⟨by simp, fun _ => ⟨_, rfl, by simp, fun j u hu => ?_⟩⟩;have h := (Blk.new w t l.toArray).cell j;rw [Addr.add_mid, Nat.zero_add, h, List.getElem?_toArray, hu]
theorem Lst.new (w : World) (t : TypeId) (l : List Int) (hl : l.length <= 100) {g n : Nat} {cs : Array Value} (hg : g = w.heap.size) (hn : n = l.length) (hc : cs = (l.map (Value.int .i64)).toArray) : Lst (w.alloc (.cells cs t)) (.slice (some ⟨g, 0, none⟩) n n) l := by
 subst hg hn hc;refine ⟨_, _, rfl, Nat.le_refl _, by unfold maxLen; omega, ?_⟩;have h := Reads.newL w t (l.map (Value.int .i64));rw [List.length_map] at h
 simpa using h
theorem next_any (w : World) (x : NodeD) (av : Value) :
  Calls Try.prog 22 #[.agg (ncells x av).toArray] w fun e w' => (∃ v, e = .returned v /\ Lst w' v (nextL x)) /\ Below w.heap.size w w' := by
 obtain ⟨op, byo, d, e, a, b, f, cell, imm, args, next, els⟩ := x;have hP := Blk.new w 52 #[.int .u8 op, .int .u8 byo, .int .i64 d, .int .i64 e, .int .i64 a, .int .i64 b, .int .i64 f, .int .i64 cell, .int .u64 imm, av, .int .i64 next, .int .i64 els];have kp0 := bc hP 0;have kp10 := bc hP 10;have kp11 := bc hP 11;have hb := (Below.refl w.heap.size w).alloc (Nat.le_refl _) (.cells #[.int .u8 op, .int .u8 byo, .int .i64 d, .int .i64 e, .int .i64 a, .int .i64 b, .int .i64 f, .int .i64 cell, .int .u64 imm, av, .int .i64 next, .int .i64 els] 52);simp only [ncells];obtain ⟨N, hN⟩ := mn (nextL ⟨op, byo, d, e, a, b, f, cell, imm, args, next, els⟩);rw [hN];unfold nextL at hN;simp only at hN
 by_cases e12 : op = 12 ∨ op = 14 ∨ op = 18
 ·rw [if_pos e12] at hN;subst hN;obtain ⟨Hb, HP⟩ := hd2 hb hP;clear hP hb
  rcases e12 with rfl | rfl | rfl
  all_goals
   go_enter Try.func22, Try.ntmps22;go_wp2_with fail;go_ret;exact ⟨⟨_, rfl, Lst.nil _⟩, Hb.out⟩
 ·rw [if_neg e12] at hN
  have b12 : (op == 12) = false := by rw [beq_eq_false_iff_ne]; omega
  have b14 : (op == 14) = false := by rw [beq_eq_false_iff_ne]; omega
  have b18 : (op == 18) = false := by rw [beq_eq_false_iff_ne]; omega
  by_cases e9 : op = 9
  ·subst e9
   by_cases en : els = next
   ·have bn : (els != next) = false := by simp [en]
    rw [if_neg (fun h => h.2 en), if_neg (by omega)] at hN;subst hN;obtain ⟨Hb, HP, Hen, He12⟩ := hd4 hb hP en e12;clear e12 en hP hb;go_enter Try.func22, Try.ntmps22;go_wp2_with fail;go_ret;exact ⟨⟨_, rfl, Lst.new _ _ [next] (by simp) (by simp) rfl rfl⟩, Hb.out.alloc Hb.out.size _⟩
   ·have bn : (els != next) = true := by simp [en]
    rw [if_pos ⟨rfl, en⟩] at hN;subst hN;obtain ⟨Hb, HP, Hen, He12⟩ := hd4 hb hP en e12;clear e12 en hP hb;go_enter Try.func22, Try.ntmps22;go_wp2_with fail;go_ret;exact ⟨⟨_, rfl, Lst.new _ _ [next, els] (by simp) (by simp) rfl rfl⟩, Hb.out.alloc Hb.out.size _⟩
  ·have b9 : (op == 9) = false := by rw [beq_eq_false_iff_ne]; omega
   rw [if_neg (fun h => e9 h.1)] at hN
   have hcase : (op < 1 /\ N = []) ∨ (¬ op < 1 /\ 18 < op /\ N = []) ∨ (¬ op < 1 /\ ¬ 18 < op /\ N = [next]) := by
    by_cases h1 : op < 1
    ·rw [if_pos (.inl h1)] at hN; exact .inl ⟨h1, hN.symm⟩
    ·by_cases h2 : 18 < op
     ·rw [if_pos (.inr h2)] at hN; exact .inr (.inl ⟨h1, h2, hN.symm⟩)
     ·rw [if_neg (by omega)] at hN; exact .inr (.inr ⟨h1, h2, hN.symm⟩)
   obtain ⟨Hb, HP, He12, He9, HN⟩ := hd5 hb hP e12 e9 hN;clear hN e9 e12 hP hb
   rcases hcase with ⟨h1, rfl⟩ | ⟨h1, h2, rfl⟩ | ⟨h1, h2, rfl⟩
   ·go_enter Try.func22, Try.ntmps22;go_wp2_with fail;go_ret;exact ⟨⟨_, rfl, Lst.nil _⟩, Hb.out⟩
   ·go_enter Try.func22, Try.ntmps22;go_wp2_with fail;go_ret;exact ⟨⟨_, rfl, Lst.nil _⟩, Hb.out⟩
   ·go_enter Try.func22, Try.ntmps22;go_wp2_with fail;go_ret;exact ⟨⟨_, rfl, Lst.new _ _ [next] (by simp) (by simp) rfl rfl⟩, Hb.out.alloc Hb.out.size _⟩
theorem indexFunc_any (w : World) (D : Nat) (A : Option Addr) (m c : Nat) (ks : List Int) (hP : Reads w D 1 A m (ks.map (Value.int .u8))) (hm : ks.length = m) (hmc : m <= 140737488351232) :
  Calls Try.prog 50 #[.slice A m c, .func (.func 38) #[] #[]] w fun e w' => (∃ n : Int, e = .returned (.int .i64 n) /\ (0 <= n ↔ ∃ k ∈ ks, 1 < k)) /\ w = w' := by
 obtain ⟨HP, Hm⟩ := hd2 hP hm;clear hm hP;go_enter Try.func50, Try.ntmps50;go_wp2_with fail
 go_loopw [8] (fun i wq => ∃ j : Nat, j <= m /\ i = .int .i64 j /\ wq = w /\ Hid (¬ ∃ k ∈ ks.take j, 1 < k)) (fun i _ => m - (intOf i).toNat)
 case atStart => exact ⟨0, by omega, rfl, rfl, (show ¬ ∃ k ∈ ks.take 0, 1 < k by simp)⟩
 case round =>
  obtain ⟨j, hj, rfl, hwr, hall⟩ := hrel;subst hwr
  by_cases hjm : j < m
  ·obtain ⟨ad, u0, hA, _, hu0, hce⟩ := HP.out.at_ hjm;subst hA
   obtain ⟨p, hpj, rfl⟩ : ∃ p, ks[j]? = some p /\ u0 = .int .u8 p := by
    rw [List.getElem?_map, Option.map_eq_some_iff] at hu0;obtain ⟨x, h1, h2⟩ := hu0;exact ⟨x, h1, h2.symm⟩
   have hmem := List.mem_of_getElem? hpj;clear hu0
   by_cases hx : 1 < p
   ·have hin : ∃ k ∈ ks, 1 < k := ⟨p, hmem, hx⟩
    obtain ⟨Hall, Hpj, Hmem, Hin⟩ := hd4 hall hpj hmem hin;clear hin hmem hpj hall;go_wp2_with fail;refine (ptr_any _ p).mono ?_;rintro e w1 ⟨rfl, rfl⟩;go_wp2_with fail;go_ret;exact ⟨⟨j, rfl, by simp [Hin.out]⟩, rfl⟩
   ·have hs : ¬ ∃ k ∈ ks.take (j + 1), 1 < k := by
     rw [List.take_add_one, hpj];rintro ⟨k, hk, h1⟩;simp only [Option.toList, List.mem_append, List.mem_singleton] at hk
     rcases hk with h | h
     ·exact hall.out ⟨k, h, h1⟩
     ·exact hx (h ▸ h1)
    obtain ⟨Hall, Hpj, Hmem, Hs⟩ := hd4 hall hpj hmem hs;clear hs hmem hpj hall;go_wp2_with fail;refine (ptr_any _ p).mono ?_;rintro e w1 ⟨rfl, rfl⟩;go_wp2_with fail;exact ⟨⟨j + 1, by omega, by go_num, trivial, Lib.hid Hs.out⟩, by simp [intOf]; omega⟩
  ·have hs : ¬ ∃ k ∈ ks, 1 < k := by
    rw [List.take_of_length_le (by rw [Hm.out]; omega)] at hall;exact hall.out
   obtain ⟨Hs, Hall⟩ := hd2 hs hall;clear hall hs;go_wp2_with fail;go_ret;exact ⟨⟨-1, rfl, by simp [Hs.out]⟩, rfl⟩
theorem containsFunc_any (w : World) (D : Nat) (A : Option Addr) (m c : Nat) (ks : List Int) (hP : Reads w D 1 A m (ks.map (Value.int .u8))) (hm : ks.length = m) (hmc : m <= 140737488351232) :
  Calls Try.prog 37 #[.slice A m c, .func (.func 38) #[] #[]] w fun e w' => e = .returned (.bool (ks.any fun k => decide (1 < k))) /\ w = w' := by
 obtain ⟨HP, Hm⟩ := hd2 hP hm;clear hm hP;go_enter Try.func37, Try.ntmps37;go_wp2_with fail;refine (indexFunc_any w D A m c ks HP.out Hm.out hmc).mono ?_;rintro e w1 ⟨⟨n, rfl, hn⟩, rfl⟩
 have hr : decide (0 <= n) = ks.any fun k => decide (1 < k) := by
  rw [Bool.eq_iff_iff, decide_eq_true_iff, hn, List.any_eq_true];simp
 obtain ⟨Hn, Hr⟩ := hd2 hn hr;clear hr hn;go_wp2_with fail;go_ret;rw [<- Hr.out];exact ⟨rfl, rfl⟩
end Go.Proofs.Ytncpehhfjkncoaa
