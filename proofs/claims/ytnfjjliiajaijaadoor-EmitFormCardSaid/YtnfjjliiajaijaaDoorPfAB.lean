/- Part of the proof, named by its texts: Words2 IrD IrIs IrNext LinP LinMap. No condition of its own. -/
import Derived.Test.YtnfjjliiajaijaaDoorRows
import Derived.Test.YtnfjjliiajaijaaDoorPfAA
import Derived.Laws.CopyOwn
import Derived.Laws.ResultCell
import Derived.OneCell
import Derived.WalkKit
import Derived.Maps.OwnOps
import Derived.Maps.OwnSet
import Derived.Maps.Views
set_option linter.unusedVariables false
set_option linter.unusedSimpArgs false
set_option maxRecDepth 100000
set_option maxHeartbeats 16000000
namespace Go.Proofs.YtnfjjliiajaijaaDoor
open Go.RowKit
theorem zbU (R k : Nat) : (⟨R, 0, none⟩ : Addr).add k = ⟨R, k, none⟩ := by
 unfold Addr.add
 by_cases h : k = 0
 ·simp [h]
 ·simp [h]
theorem zmJ (R o k : Nat) : (⟨R, o, none⟩ : Addr).add k = ⟨R, o + k, none⟩ := by
 unfold Addr.add
 by_cases h : k = 0
 ·simp [h]
 ·simp [h]
theorem zdT (ad : Addr) (m t : Nat) (ht : 0 < t) : (⟨(ad.add m).block, (ad.add m).off + t, none⟩ : Addr) = ad.add (m + t) := by
 unfold Addr.add
 by_cases h : m = 0
 ·subst h; simp [show ¬ t = 0 by omega]
 ·simp [h, Nat.add_assoc]
theorem Blk.new2 (w : World) (o : Obj) (t : TypeId) (cs : Array Value) : Blk ((w.alloc o).alloc (.cells cs t)) (w.heap.size + 1) t cs := by
 have := Blk.new (w.alloc o) t cs
 rwa [World.size_alloc] at this
theorem zal.newS {w : World} (H : Nat) (hH : w.heap.size = H) (cs : Array Value) (t : TypeId) (size n : Nat) (xs : List Value) (hx : cs.toList = xs) (hn : xs.length = n * size) : zal (w.alloc (.cells cs t)) (H + 1) size (some ⟨H, 0, none⟩) n xs := by
 subst hH hx;exact ⟨hn, fun _ => ⟨_, rfl, Nat.lt_succ_self _, World.news_of_block (cs := cs) (t := t) (fr := (0, 0)) (heap_alloc_new w _)⟩⟩
theorem zal.of_blk {w : World} {g size n : Nat} {t : TypeId} {cs : Array Value} {xs : List Value} (h : Blk w g t cs) (hx : cs.toList = xs) (hn : xs.length = n * size) : zal w w.heap.size size (some ⟨g, 0, none⟩) n xs := by
 subst hx;exact ⟨hn, fun _ => ⟨_, rfl, h.lt, World.news_of_block (cs := cs) (t := t) (fr := (0, 0)) h⟩⟩
theorem zal.take {w : World} {B n k : Nat} {A : Option Addr} {xs : List Value} (h : zal w B 1 A n xs) (hk : k <= n) : zal w B 1 A k (xs.take k) :=
 ⟨by have := h.1; rw [List.length_take]; omega, fun hn => by
  obtain ⟨ad, e, hb, hc⟩ := h.2 (by omega);refine ⟨ad, e, hb, fun j u hu => hc j u ?_⟩;have hj := (List.getElem?_eq_some_iff.1 hu).1;rw [List.length_take] at hj
  rwa [List.getElem?_take_of_lt (by omega)] at hu⟩
theorem zc3 {w : World} {g base size n : Nat} {t : TypeId} {cs : Array Value} {xs : List Value} (h : Blk w g t cs) (hb : base <= g) (hx : cs.toList = xs) (hn : xs.length = n * size) (hm : n <= maxLen) : w.ownsRow base t size (.slice (some ⟨g, 0, none⟩) n n) n xs := by
 subst hx;exact ⟨hn, .inr ⟨g, n, cs, rfl, hb, h, Nat.le_refl _, hm, by simpa using hn, by rw [<- hn]; exact List.take_length⟩⟩
theorem zci {w : World} {base size n g : Nat} {e : TypeId} {v : Value} {xs : List Value} (h : w.ownsRow base e size v n xs) (hg : v.ownBlock = some g) : ∃ cs, Blk w g e cs := by
 rcases h.2 with ⟨rfl, _⟩ | ⟨g', cap, cur, rfl, _, hh, _⟩
 ·cases hg
 ·injection hg with hg;simp only at hg;subst hg;exact ⟨cur, hh⟩
theorem zdh {w : World} {base size n : Nat} {e : TypeId} {v : Value} {xs ys : List Value} (h : w.ownsRow base e size v (0 + n) ([] ++ xs)) (hx : xs = ys) : w.ownsRow base e size v n ys := by
 subst hx; rw [Nat.zero_add, List.nil_append] at h; exact h
theorem zar (w : World) (p : Addr) (u : Value) : w.grownBy (w.setCell p u) (some p.block) := zaZ (g := p.block) (World.grownBy.refl w _) (.inl rfl) u
theorem zaX {w w' : World} {base size n : Nat} {e : TypeId} {v : Value} {xs : List Value} {row : Option Nat} (h : w.ownsRow base e size v n xs) (hg : w.grownBy w' row)
  (hr : ∀ g, row = some g -> w.heap.size <= g ∨ ∃ t cs, Blk w g t cs /\ t ≠ e) : w'.ownsRow base e size v n xs := by
 refine h.kept hg ?_
 by_cases hv : v.ownBlock = none
 ·exact .inl hv
 ·right
  intro heq
  cases hrow : row with
  | none => exact hv (by rw [heq, hrow])
  | some g =>
   rw [hrow] at heq
   rcases hr g hrow with h1 | ⟨t, cs, h1, h2⟩
   ·have := (h.lt g heq).2; omega
   ·exact zaq h h1 (Ne.symm h2) heq
theorem zd7 {w : World} {M size n' n c : Nat} {e : TypeId} {A : Option Addr} {xs : List Value} (h : w.ownsRow M e size (.slice A n c) n' xs) (hn : 0 < n) :
  n' = n /\ ∃ g, A = some ⟨g, 0, none⟩ /\ M <= g /\ (∃ cs, Blk w g e cs) /\ ∀ (j : Nat) u, xs[j]? = some u -> w.cell? ((⟨g, 0, none⟩ : Addr).add j) = some u := by
 obtain ⟨A', c', e1, _⟩ := zak h;injection e1 with e1 e2 e3;subst e2;obtain ⟨g, cap, e4, hb, _⟩ := zbn h (by omega);injection e4 with e4;subst e4;exact ⟨rfl, g, rfl, hb, zci h rfl, h.cells (g := g) rfl⟩
theorem za5 {fn : Func} {p u : Tmp} {ty : TypeId} {P : Program} (h : fn.results = #[.cell p ty, .tmp u]) (tmps : Array Value) (w : World) (g : Nat) (t : TypeId) (cs : Array Value) (fr : Nat × Nat) (d : Array Field)
  (hp : tmps.getD p undef = .pointer (some ⟨g, 0, none⟩)) (hg : w.heap[g]? = some (.cells cs t fr))
  (hu : P.underlying ty = some (.struct d)) (hi : (P.info? ty).map (·.size) = some cs.size) :
  (results fn tmps).run P w = .ok (.tuple #[.agg cs, tmps.getD u undef]) w := by
 rw [results_cell_tmp h, hp];simp [asAddr, run_loadVar_row w g t ty cs fr (.struct d) hg hu rfl hi]
structure zbz (S : Nat -> Prop) (w w' : World) : Prop where
 os : w'.os = w.os
 tape : w'.tape = w.tape
 output : w'.output = w.output
 size : w.heap.size <= w'.heap.size
 block : ∀ i, i < w.heap.size -> ¬ S i -> w'.heap[i]? = w.heap[i]?
section
variable {S S' : Nat -> Prop} {w w' w'' : World}
theorem zbz.refl (S : Nat -> Prop) (w : World) : zbz S w w := ⟨rfl, rfl, rfl, Nat.le_refl _, fun _ _ _ => rfl⟩
theorem zbz.trans (h : zbz S w w') (k : zbz S' w' w'') (hS : ∀ i, S' i -> S i ∨ w.heap.size <= i) : zbz S w w'' :=
 ⟨k.os.trans h.os, k.tape.trans h.tape, k.output.trans h.output, Nat.le_trans h.size k.size, fun i hi hn =>
  (k.block i (Nat.lt_of_lt_of_le hi h.size) (fun hs => by rcases hS i hs with h1 | h1; exact hn h1; omega)).trans (h.block i hi hn)⟩
theorem zbz.drewN (h : zbz S w w') (q : Nat) : zbz S w (w'.drewN q) := ⟨h.os, h.tape, h.output, h.size, h.block⟩
theorem zbz.drew (h : zbz S w w') : zbz S w w'.drew := ⟨h.os, h.tape, h.output, h.size, h.block⟩
theorem zbz.of_drew (h : zbz S w.drew w') : zbz S w w' := ⟨h.os, h.tape, h.output, h.size, h.block⟩
theorem zbz.grown {row : Option Nat} (h : zbz S w w') (hg : w'.grownBy w'' row) (hr : ∀ g, row = some g -> S g ∨ w.heap.size <= g) : zbz S w w'' :=
 ⟨hg.os.trans h.os, hg.tape.trans h.tape, hg.output.trans h.output, Nat.le_trans h.size hg.size, fun i hi hn =>
  (hg.block i (Nat.lt_of_lt_of_le hi h.size) (fun e => by rcases hr i e.symm with h1 | h1; exact hn h1; omega)).trans (h.block i hi hn)⟩
theorem zbz.alloc (h : zbz S w w') (o : Obj) : zbz S w (w'.alloc o) := h.grown (World.grownBy_alloc w' o none) nofun
theorem zbz.setCell (h : zbz S w w') {p : Addr} (hp : S p.block ∨ w.heap.size <= p.block) (u : Value) : zbz S w (w'.setCell p u) :=
 h.grown (zar w' p u) fun g e => by injection e with e; subst e; exact hp
theorem zbz.below {B : Nat} (h : zbz S w w') (hb : Below B w' w'') (hB : w.heap.size <= B) : zbz S w w'' :=
 ⟨hb.os.trans h.os, hb.tape.trans h.tape, hb.output.trans h.output, Nat.le_trans h.size hb.size, fun i hi hn => (hb.block i (by omega)).trans (h.block i hi hn)⟩
theorem zbz.mono (h : zbz S w w') (hS : ∀ i, i < w.heap.size -> S i -> S' i) : zbz S' w w' := ⟨h.os, h.tape, h.output, h.size, fun i hi hn => h.block i hi fun hs => hn (hS i hi hs)⟩
theorem zbz.blk {g : Nat} {t : TypeId} {cs : Array Value} (h : zbz S w w') (hb : Blk w g t cs) (hg : ¬ S g) : Blk w' g t cs := (h.block g hb.lt hg).trans hb
theorem zbz.cell (h : zbz S w w') {p : Addr} (hl : p.block < w.heap.size) (hp : ¬ S p.block) : w'.cell? p = w.cell? p := World.cell?_of_block (h.block _ hl hp)
theorem zbz.own {base size n : Nat} {e : TypeId} {v : Value} {xs : List Value} (h : zbz S w w') (ho : w.ownsRow base e size v n xs) (hs : ∀ k, v.ownBlock = some k -> ¬ S k) : w'.ownsRow base e size v n xs := by
 rcases ho.2 with h0 | ⟨g, cap, cur, rfl, h1, h2, h3⟩
 ·exact ⟨ho.1, .inl h0⟩
 ·exact ⟨ho.1, .inr ⟨g, cap, cur, rfl, h1, h.blk (t := e) (cs := cur) h2 (hs g rfl), h3⟩⟩
theorem zbz.reads {B size n : Nat} {A : Option Addr} {xs : List Value} (h : zbz S w w') (hr : zal w B size A n xs) (hB : B <= w.heap.size) (hs : ∀ ad, A = some ad -> ¬ S ad.block) : zal w' B size A n xs :=
 ⟨hr.1, fun hn => by
  obtain ⟨ad, e, hb, hc⟩ := hr.2 hn
  exact ⟨ad, e, hb, fun j u hu => (h.cell (by rw [zas]; omega) (by rw [zas]; exact hs ad e)).trans (hc j u hu)⟩⟩
end
structure zam where
 op : Int
 byo : Int
 d : Int
 e : Int
 a : Int
 b : Int
 f : Int
 cell : Int
 imm : Int
 args : List Int
 next : Int
 els : Int
structure zad where
 params : List Int
 kinds : List Int
 cells : Int
 init : List Int
 result : Bool
 keep : Int
 nodes : List zam
 entry : Int
def zae (x : zam) (av : Value) : List Value := [.int .u8 x.op, .int .u8 x.byo, .int .i64 x.d, .int .i64 x.e, .int .i64 x.a, .int .i64 x.b, .int .i64 x.f, .int .i64 x.cell, .int .u64 x.imm, av, .int .i64 x.next, .int .i64 x.els]
def zaH (g : zad) (pv kv iv nv : Value) : List Value := [pv, kv, .int .i64 g.cells, iv, .bool g.result, .int .i64 g.keep, nv, .int .i64 g.entry]
def zaO (k : IntKind) (w : World) (B : Nat) (v : Value) (l : List Int) : Prop := ∃ A n c, v = .slice A n c /\ n <= c /\ c <= maxLen /\ l.length = n /\ zal w B 1 A n (l.map (Value.int k))
def zaE {α : Type} (size : Nat) (R : World -> Nat -> List Value -> α -> Prop) (w : World) (B : Nat) (v : Value) (l : List α) : Prop := ∃ A n c, ∃ css : List (List Value), v = .slice A n c /\ n <= c /\ c <= maxLen /\ l.length = n /\ css.length = n /\ (∀ cs ∈ css, cs.length = size) /\ zal w B size A n css.flatten /\
 ∀ (i : Nat) x, l[i]? = some x -> ∃ cs, css[i]? = some cs /\ R w B cs x
def zbj (w : World) (B : Nat) (cs : List Value) (x : zam) : Prop := ∃ av, cs = zae x av /\ zaO .i64 w B av x.args
def zds (w : World) (B : Nat) (cs : List Value) (g : zad) : Prop := ∃ pv kv iv nv, cs = zaH g pv kv iv nv /\ zaO .i64 w B pv g.params /\ zaO .u8 w B kv g.kinds /\ zaO .i64 w B iv g.init /\ zaE 12 zbj w B nv g.nodes
def zaI (w : World) (B : Nat) (v : Value) (gs : List zad) : Prop := zaE 8 zds w B v gs
section
variable {w w' : World} {B B' : Nat} {v : Value}
theorem zaO.keep {k : IntKind} {l : List Int} (h : zaO k w B v l) (hk : ∀ p : Addr, p.block < B -> w'.cell? p = w.cell? p) : zaO k w' B v l := by
 obtain ⟨A, n, c, h1, h2, h3, h4, h5⟩ := h;exact ⟨A, n, c, h1, h2, h3, h4, h5.keep hk⟩
theorem zaO.more {k : IntKind} {l : List Int} (h : zaO k w B v l) (hB : B <= B') : zaO k w B' v l := by
 obtain ⟨A, n, c, h1, h2, h3, h4, h5⟩ := h;exact ⟨A, n, c, h1, h2, h3, h4, h5.more hB⟩
theorem zaO.below {k : IntKind} {l : List Int} (h : zaO k w B v l) (hb : Below B w w') : zaO k w' B v l := h.keep fun _ hp => hb.cell hp
theorem zaE.keep {α : Type} {size : Nat} {R : World -> Nat -> List Value -> α -> Prop} {l : List α} (h : zaE size R w B v l) (hk : ∀ p : Addr, p.block < B -> w'.cell? p = w.cell? p) (hR : ∀ cs x, R w B cs x -> R w' B cs x) : zaE size R w' B v l := by
 obtain ⟨A, n, c, css, h1, h2, h3, h4, h5, h6, h7, h8⟩ := h;refine ⟨A, n, c, css, h1, h2, h3, h4, h5, h6, h7.keep hk, fun i x hx => ?_⟩;obtain ⟨cs, q1, q2⟩ := h8 i x hx;exact ⟨cs, q1, hR cs x q2⟩
theorem zaE.more {α : Type} {size : Nat} {R : World -> Nat -> List Value -> α -> Prop} {l : List α} (h : zaE size R w B v l) (hB : B <= B') (hR : ∀ cs x, R w B cs x -> R w B' cs x) : zaE size R w B' v l := by
 obtain ⟨A, n, c, css, h1, h2, h3, h4, h5, h6, h7, h8⟩ := h;refine ⟨A, n, c, css, h1, h2, h3, h4, h5, h6, h7.more hB, fun i x hx => ?_⟩;obtain ⟨cs, q1, q2⟩ := h8 i x hx;exact ⟨cs, q1, hR cs x q2⟩
theorem zbj.keep {cs : List Value} {x : zam} (h : zbj w B cs x) (hk : ∀ p : Addr, p.block < B -> w'.cell? p = w.cell? p) : zbj w' B cs x := by
 obtain ⟨av, h1, h2⟩ := h;exact ⟨av, h1, h2.keep hk⟩
theorem zbj.more {cs : List Value} {x : zam} (h : zbj w B cs x) (hB : B <= B') : zbj w B' cs x := by
 obtain ⟨av, h1, h2⟩ := h;exact ⟨av, h1, h2.more hB⟩
theorem zds.keep {cs : List Value} {x : zad} (h : zds w B cs x) (hk : ∀ p : Addr, p.block < B -> w'.cell? p = w.cell? p) : zds w' B cs x := by
 obtain ⟨pv, kv, iv, nv, h1, h2, h3, h4, h5⟩ := h;exact ⟨pv, kv, iv, nv, h1, h2.keep hk, h3.keep hk, h4.keep hk, h5.keep hk fun _ _ h => h.keep hk⟩
theorem zds.more {cs : List Value} {x : zad} (h : zds w B cs x) (hB : B <= B') : zds w B' cs x := by
 obtain ⟨pv, kv, iv, nv, h1, h2, h3, h4, h5⟩ := h;exact ⟨pv, kv, iv, nv, h1, h2.more hB, h3.more hB, h4.more hB, h5.more hB fun _ _ h => h.more hB⟩
theorem zaI.keep {gs : List zad} (h : zaI w B v gs) (hk : ∀ p : Addr, p.block < B -> w'.cell? p = w.cell? p) : zaI w' B v gs := zaE.keep h hk fun _ _ h => h.keep hk
theorem zaI.more {gs : List zad} (h : zaI w B v gs) (hB : B <= B') : zaI w B' v gs := zaE.more h hB fun _ _ h => h.more hB
theorem zaI.below {gs : List zad} (h : zaI w B v gs) (hb : Below B w w') : zaI w' B v gs := h.keep fun _ hp => hb.cell hp
theorem zbj.below {cs : List Value} {x : zam} (h : zbj w B cs x) (hb : Below B w w') : zbj w' B cs x := h.keep fun _ hp => hb.cell hp
end
theorem zdl (css : List (List Value)) (size k : Nat) (cs : List Value) (h : css[k]? = some cs) (hs : ∀ c ∈ css, c.length = size) (j : Nat) (hj : j < size) : css.flatten[k * size + j]? = cs[j]? := by
 induction css generalizing k with
 | nil => simp at h
 | cons x r ih =>
  have hx := hs x List.mem_cons_self
  cases k with
  | zero =>
   simp at h; subst h;rw [List.flatten_cons, Nat.zero_mul, Nat.zero_add, List.getElem?_append_left (by omega)]
  | succ k =>
   have h' := ih k (by simpa using h) (fun c hc => hs c (List.mem_cons_of_mem _ hc));rw [List.flatten_cons, List.getElem?_append_right (by rw [hx, Nat.add_mul]; omega), hx, show (k + 1) * size + j - size = k * size + j by rw [Nat.add_mul]; omega];exact h'
theorem zaE.at_ {α : Type} {size : Nat} {R : World -> Nat -> List Value -> α -> Prop} {w : World} {B : Nat} {A : Option Addr} {n c : Nat} {l : List α} (h : zaE size R w B (.slice A n c) l) {k : Nat} {x : α} (hk : l[k]? = some x) :
  ∃ ad cs, A = some ad /\ ad.block < B /\ k < n /\ cs.length = size /\ R w B cs x /\ (∀ u, cs[0]? = some u -> w.cell? (ad.add (k * size)) = some u) /\ ∀ j u, 0 < j -> cs[j]? = some u -> w.cell? ⟨(ad.add (k * size)).block, (ad.add (k * size)).off + j, none⟩ = some u := by
 obtain ⟨A', n', c', css, h1, h2, h3, h4, h5, h6, h7, h8⟩ := h;injection h1 with e1 e2 e3;subst e1 e2 e3;obtain ⟨cs, q1, q2⟩ := h8 k x hk
 have hkn : k < n := by have := (List.getElem?_eq_some_iff.1 hk).1; omega
 have hsz := h6 cs (List.mem_of_getElem? q1);obtain ⟨ad, e, hlt, hc⟩ := h7.2 (by omega);refine ⟨ad, cs, e, hlt, hkn, hsz, q2, fun u hu => ?_, fun j u hj hu => ?_⟩
 ·have hp : 0 < size := by rw [<- hsz]; exact (List.getElem?_eq_some_iff.1 hu).1
  have := hc (k * size + 0) u (by rw [zdl css size k cs q1 h6 0 hp]; exact hu)
  simpa using this
 ·rw [zdT ad (k * size) j hj];exact hc _ _ (by rw [zdl css size k cs q1 h6 j (by rw [<- hsz]; exact (List.getElem?_eq_some_iff.1 hu).1)]; exact hu)
structure zdc (w : World) (B : Nat) (ga : Addr) (g : zad) (pv kv iv nv : Value) : Prop where
 lt : ga.block < B
 c0 : w.cell? ga = some pv
 c1 : w.cell? ⟨ga.block, ga.off + 1, none⟩ = some kv
 c2 : w.cell? ⟨ga.block, ga.off + 2, none⟩ = some (.int .i64 g.cells)
 c3 : w.cell? ⟨ga.block, ga.off + 3, none⟩ = some iv
 c4 : w.cell? ⟨ga.block, ga.off + 4, none⟩ = some (.bool g.result)
 c5 : w.cell? ⟨ga.block, ga.off + 5, none⟩ = some (.int .i64 g.keep)
 c6 : w.cell? ⟨ga.block, ga.off + 6, none⟩ = some nv
 c7 : w.cell? ⟨ga.block, ga.off + 7, none⟩ = some (.int .i64 g.entry)
 params : zaO .i64 w B pv g.params
 kinds : zaO .u8 w B kv g.kinds
 init : zaO .i64 w B iv g.init
 nodes : zaE 12 zbj w B nv g.nodes
theorem zdc.keep {w w' : World} {B : Nat} {ga : Addr} {g : zad} {pv kv iv nv : Value} (h : zdc w B ga g pv kv iv nv) (hk : ∀ p : Addr, p.block < B -> w'.cell? p = w.cell? p) : zdc w' B ga g pv kv iv nv :=
 ⟨h.lt, (hk _ h.lt).trans h.c0, (hk ⟨ga.block, _, none⟩ h.lt).trans h.c1, (hk ⟨ga.block, _, none⟩ h.lt).trans h.c2, (hk ⟨ga.block, _, none⟩ h.lt).trans h.c3, (hk ⟨ga.block, _, none⟩ h.lt).trans h.c4, (hk ⟨ga.block, _, none⟩ h.lt).trans h.c5, (hk ⟨ga.block, _, none⟩ h.lt).trans h.c6, (hk ⟨ga.block, _, none⟩ h.lt).trans h.c7, h.params.keep hk, h.kinds.keep hk, h.init.keep hk, h.nodes.keep hk fun _ _ h => h.keep hk⟩
theorem zdc.below {w w' : World} {B : Nat} {ga : Addr} {g : zad} {pv kv iv nv : Value} (h : zdc w B ga g pv kv iv nv) (hb : Below B w w') : zdc w' B ga g pv kv iv nv := h.keep fun _ hp => hb.cell hp
theorem block_add (ad : Addr) (m : Nat) : (ad.add m).block = ad.block := by
 unfold Addr.add
 split <;> rfl
theorem zaI.at_ {w : World} {B : Nat} {A : Option Addr} {n c : Nat} {gs : List zad} (h : zaI w B (.slice A n c) gs) {k : Nat} {g : zad} (hk : gs[k]? = some g) :
  ∃ ad pv kv iv nv, A = some ad /\ k < n /\ zdc w B (ad.add (k * 8)) g pv kv iv nv := by
 obtain ⟨ad, cs, e, hlt, hkn, hsz, hR, h0, hj⟩ := zaE.at_ h hk;obtain ⟨pv, kv, iv, nv, rfl, h1, h2, h3, h4⟩ := hR;exact ⟨ad, pv, kv, iv, nv, e, hkn, ⟨by rw [block_add]; exact hlt, h0 _ rfl, hj 1 _ (by omega) rfl, hj 2 _ (by omega) rfl, hj 3 _ (by omega) rfl, hj 4 _ (by omega) rfl, hj 5 _ (by omega) rfl, hj 6 _ (by omega) rfl, hj 7 _ (by omega) rfl, h1, h2, h3, h4⟩⟩
theorem zaI.slice {w : World} {B : Nat} {v : Value} {gs : List zad} (h : zaI w B v gs) : ∃ A c, v = .slice A gs.length c /\ gs.length <= c /\ c <= maxLen := by
 obtain ⟨A, n, c, css, rfl, h2, h3, h4, _⟩ := h;exact ⟨A, c, by rw [h4], by omega, h3⟩
theorem zaO.slice {k : IntKind} {w : World} {B : Nat} {v : Value} {l : List Int} (h : zaO k w B v l) : ∃ A c, v = .slice A l.length c /\ l.length <= c /\ c <= maxLen /\ zal w B 1 A l.length (l.map (Value.int k)) := by
 obtain ⟨A, n, c, rfl, h2, h3, h4, h5⟩ := h;subst h4;exact ⟨A, c, rfl, h2, h3, h5⟩
structure Ck (w : World) (B cb : Nat) (allv : Value) (gs : List zad) (ga : Addr) (g : zad) (pv kv iv nv : Value) (bound : Bool) : Prop where
 blk : Blk w cb 93 #[allv, .pointer (some ga), .bool bound]
 le : B <= cb
 all : zaI w B allv gs
 gm : zdc w B ga g pv kv iv nv
theorem Ck.below {w w' : World} {B cb : Nat} {allv : Value} {gs : List zad} {ga : Addr} {g : zad} {pv kv iv nv : Value} {bound : Bool} (h : Ck w B cb allv gs ga g pv kv iv nv bound) (hb : Below w.heap.size w w') : Ck w' B cb allv gs ga g pv kv iv nv bound :=
 ⟨h.blk.below hb h.blk.lt, h.le, h.all.below (hb.mono (by have := h.le; have := h.blk.lt; omega)), h.gm.below (hb.mono (by have := h.le; have := h.blk.lt; omega))⟩
def zbT (g : zad) (n : Int) : Bool := decide (0 <= n) && decide (n < g.cells)
def za7 (g : zad) (bound : Bool) (k p : Int) : Bool := decide (0 <= p) && decide (p < g.kinds.length) && (bound || decide (g.kinds.getD p.toNat 0 = k))
def isB (g : zad) (bound : Bool) (k : Int) (ps : List Int) : Bool := ps.all (za7 g bound k)
section
variable {w : World} {B cb : Nat} {allv : Value} {gs : List zad} {ga : Addr} {g : zad} {pv kv iv nv : Value} {bound : Bool}
theorem zex (h : Ck w B cb allv gs ga g pv kv iv nv bound) (n : Int) :
  Calls Tryd.prog 51 #[.pointer (some ⟨cb, 0, none⟩), .int .i64 n] w fun e w' => e = .returned (.bool (zbT g n)) /\ w = w' := by
 have kc1 := bc h.blk 1;have k2 := h.gm.c2;clear h;obtain ⟨r, hr⟩ := mn (zbT g n)
 have hcase : (¬ 0 <= n /\ r = false) ∨ (0 <= n /\ ¬ n < g.cells /\ r = false) ∨ (0 <= n /\ n < g.cells /\ r = true) := by
  rw [<- hr];unfold zbT
  by_cases h1 : 0 <= n
  ·by_cases h2 : n < g.cells
   ·exact .inr (.inr ⟨h1, h2, by simp [h1, h2]⟩)
   ·exact .inr (.inl ⟨h1, h2, by simp [h2]⟩)
  ·exact .inl ⟨h1, by simp [h1]⟩
 rw [hr];clear hr
 rcases hcase with ⟨c0, rfl⟩ | ⟨c0, c1, rfl⟩ | ⟨c0, c1, rfl⟩
 all_goals
  go_enter Tryd.func51, Tryd.ntmps51;go_wp2_with fail;go_ret;exact ⟨rfl, rfl⟩
theorem zcu (h : Ck w B cb allv gs ga g pv kv iv nv bound) (k : Int) (D : Nat) (A : Option Addr) (m c : Nat) (ps : List Int) (hP : zal w D 1 A m (ps.map (Value.int .i64))) (hm : ps.length = m) (hmc : m <= 140737488351232) :
  Calls Tryd.prog 53 #[.pointer (some ⟨cb, 0, none⟩), .int .u8 k, .slice A m c] w fun e w' => e = .returned (.bool (isB g bound k ps)) /\ w = w' := by
 have kc1 := bc h.blk 1;have kc2 := bc h.blk 2;obtain ⟨KA, kc', hkv, _, _, hK⟩ := h.gm.kinds.slice;subst hkv;have k1 := h.gm.c1;obtain ⟨r, hr⟩ := mn (isB g bound k ps);rw [hr];obtain ⟨L, hL⟩ := mn (g.kinds.length);rw [hL] at k1 hK;obtain ⟨H, HP, Hm, Hr, HK, HL⟩ := hd6 h hP hm hr hK hL;clear hL hK hr hm hP h;go_enter Tryd.func53, Tryd.ntmps53;go_wp2_with fail
 go_loopw [11] (fun i wq => ∃ j : Nat, j <= m /\ i = .int .i64 j /\ wq = w /\ Hid (∀ p ∈ ps.take j, za7 g bound k p = true)) (fun i _ => m - (intOf i).toNat)
 case atStart => exact ⟨0, by omega, rfl, rfl, (show ∀ p ∈ ps.take 0, za7 g bound k p = true from fun p hp => by simp at hp)⟩
 case round =>
  obtain ⟨j, hj, rfl, hwr, hall⟩ := hrel;subst hwr
  by_cases hjm : j < m
  ·obtain ⟨ad, u0, hA, _, hu0, hce⟩ := HP.out.at_ hjm;subst hA
   obtain ⟨p, hpj, rfl⟩ : ∃ p, ps[j]? = some p /\ u0 = .int .i64 p := by
    rw [List.getElem?_map, Option.map_eq_some_iff] at hu0;obtain ⟨x, h1, h2⟩ := hu0;exact ⟨x, h1, h2.symm⟩
   have hmem := List.mem_of_getElem? hpj
   have hstep : za7 g bound k p = true -> ∀ q ∈ ps.take (j + 1), za7 g bound k q = true := fun hf q hq => by
    rw [List.take_add_one, hpj] at hq
    rcases List.mem_append.1 hq with hq | hq
    ·exact hall.out q hq
    ·simp at hq; rw [hq]; exact hf
   have hbad : za7 g bound k p = false -> r = false := fun hf => by
    rw [<- Hr.out];unfold isB
    rcases hh : ps.all (za7 g bound k) with _ | _
    ·rfl
    ·rw [List.all_eq_true.1 hh p hmem] at hf; cases hf
   by_cases c0 : 0 <= p
   ·obtain ⟨P, rfl⟩ := Int.eq_ofNat_of_zero_le c0
    have c0' : ¬ (P : Int) < 0 := by omega
    clear c0
    by_cases c1 : P < L
    ·have c1' : ¬ (L : Int) <= P := by omega
     have c1'' : (P : Int) < L := by omega
     obtain ⟨kad, ku, hkA, _, hku, hkc⟩ := HK.out.at_ c1;subst hkA
     obtain ⟨kk, hkk, rfl⟩ : ∃ kk, g.kinds[P]? = some kk /\ ku = .int .u8 kk := by
      rw [List.getElem?_map, Option.map_eq_some_iff] at hku;obtain ⟨x, h1, h2⟩ := hku;exact ⟨x, h1, h2.symm⟩
     have hfit : za7 g bound k P = (bound || decide (kk = k)) := by
      unfold za7;rw [HL.out, Int.toNat_natCast, List.getD_eq_getElem?_getD, hkk, Option.getD_some];simp [c1]
     rw [hfit] at hstep hbad;clear hu0 hku
     cases bound
     ·by_cases c2 : kk = k
      ·have c2' : (kk != k) = false := by simp [c2]
       have hs := hstep (by simp [c2]);obtain ⟨Hs, Hall, Hpj, Hmem, Hkk, Hfit, Hstep, Hbad⟩ := hd8 hs hall hpj hmem hkk hfit hstep hbad;have Hc2 := Lib.hid c2;clear c2 hbad hstep hfit hkk hmem hpj hall hs;go_wp2_with fail;exact ⟨⟨j + 1, by omega, by go_num, trivial, Lib.hid Hs.out⟩, by simp [intOf]; omega⟩
      ·have c2' : (kk != k) = true := by simp [c2]
       have hs := hbad (by simp [c2]);obtain ⟨Hs, Hall, Hpj, Hmem, Hkk, Hfit, Hstep, Hbad⟩ := hd8 hs hall hpj hmem hkk hfit hstep hbad;have Hc2 := Lib.hid c2;clear c2 hbad hstep hfit hkk hmem hpj hall hs;go_wp2_with fail;go_ret;rw [Hs.out];exact ⟨rfl, rfl⟩
     ·have hs := hstep rfl;obtain ⟨Hs, Hall, Hpj, Hmem, Hkk, Hfit, Hstep, Hbad⟩ := hd8 hs hall hpj hmem hkk hfit hstep hbad;clear hbad hstep hfit hkk hmem hpj hall hs;go_wp2_with fail;exact ⟨⟨j + 1, by omega, by go_num, trivial, Lib.hid Hs.out⟩, by simp [intOf]; omega⟩
    ·have c1' : (L : Int) <= P := by omega
     have hs := hbad (by unfold za7; rw [HL.out]; simp [c1]);obtain ⟨Hs, Hall, Hpj, Hmem, Hstep, Hbad⟩ := hd6 hs hall hpj hmem hstep hbad;clear hbad hstep hmem hpj hall hs;clear hu0;go_wp2_with fail;go_ret;rw [Hs.out];exact ⟨rfl, rfl⟩
   ·have c0' : p < 0 := by omega
    have hs := hbad (by unfold za7; simp [c0]);obtain ⟨Hs, Hall, Hpj, Hmem, Hstep, Hbad, Hc0⟩ := hd7 hs hall hpj hmem hstep hbad c0;clear c0 hbad hstep hmem hpj hall hs;clear hu0;go_wp2_with fail;go_ret;rw [Hs.out];exact ⟨rfl, rfl⟩
  ·have hs : r = true := by
    rw [<- Hr.out];unfold isB;rw [List.take_of_length_le (by rw [Hm.out]; omega)] at hall;exact List.all_eq_true.2 hall.out
   obtain ⟨Hs, Hall⟩ := hd2 hs hall;clear hall hs;go_wp2_with fail;go_ret;rw [Hs.out];exact ⟨rfl, rfl⟩
end
theorem zkB (w : World) (D : Nat) (A : Option Addr) (m c : Nat) (ps : List Int) (hP : zal w D 1 A m (ps.map (Value.int .i64))) (hm : ps.length = m) (hmc : m <= 140737488351232) (x : Int) :
  Calls Tryd.prog 83 #[.slice A m c, .int .i64 x] w fun e w' => (∃ n : Int, e = .returned (.int .i64 n) /\ (0 <= n ↔ x ∈ ps)) /\ w = w' := by
 obtain ⟨HP, Hm⟩ := hd2 hP hm;clear hm hP;go_enter Tryd.func83, Tryd.ntmps83;go_wp2_with fail
 go_loopw [8] (fun i wq => ∃ j : Nat, j <= m /\ i = .int .i64 j /\ wq = w /\ Hid (x ∉ ps.take j)) (fun i _ => m - (intOf i).toNat)
 case atStart => exact ⟨0, by omega, rfl, rfl, (show x ∉ ps.take 0 by simp)⟩
 case round =>
  obtain ⟨j, hj, rfl, hwr, hall⟩ := hrel;subst hwr
  by_cases hjm : j < m
  ·obtain ⟨ad, u0, hA, _, hu0, hce⟩ := HP.out.at_ hjm;subst hA
   obtain ⟨p, hpj, rfl⟩ : ∃ p, ps[j]? = some p /\ u0 = .int .i64 p := by
    rw [List.getElem?_map, Option.map_eq_some_iff] at hu0;obtain ⟨x, h1, h2⟩ := hu0;exact ⟨x, h1, h2.symm⟩
   have hmem := List.mem_of_getElem? hpj
   by_cases hx : x = p
   ·have hb : (x == p) = true := by simp [hx]
    have hin : x ∈ ps := hx ▸ hmem;obtain ⟨Hall, Hpj, Hmem, Hx, Hin⟩ := hd5 hall hpj hmem hx hin;clear hin hx hmem hpj hall;clear hu0;go_wp2_with fail;go_ret;exact ⟨⟨j, rfl, by simp [Hin.out]⟩, rfl⟩
   ·have hb : (x == p) = false := by simp [hx]
    have hs : x ∉ ps.take (j + 1) := by
     rw [List.take_add_one, hpj];simp only [Option.toList, List.mem_append, List.mem_singleton];rintro (h | h)
     ·exact hall.out h
     ·exact hx h
    obtain ⟨Hall, Hpj, Hmem, Hx, Hs⟩ := hd5 hall hpj hmem hx hs;clear hs hx hmem hpj hall;clear hu0;go_wp2_with fail;exact ⟨⟨j + 1, by omega, by go_num, trivial, Lib.hid Hs.out⟩, by simp [intOf]; omega⟩
  ·have hs : x ∉ ps := by
    rw [List.take_of_length_le (by rw [Hm.out]; omega)] at hall;exact hall.out
   obtain ⟨Hs, Hall⟩ := hd2 hs hall;clear hall hs;go_wp2_with fail;go_ret;exact ⟨⟨-1, rfl, by simp [Hs.out]⟩, rfl⟩
theorem zcv (w : World) (D : Nat) (A : Option Addr) (m c : Nat) (ps : List Int) (hP : zal w D 1 A m (ps.map (Value.int .i64))) (hm : ps.length = m) (hmc : m <= 140737488351232) (x : Int) :
  Calls Tryd.prog 52 #[.slice A m c, .int .i64 x] w fun e w' => e = .returned (.bool (decide (x ∈ ps))) /\ w = w' := by
 obtain ⟨HP, Hm⟩ := hd2 hP hm;clear hm hP;go_enter Tryd.func52, Tryd.ntmps52;go_wp2_with fail;refine (zkB w D A m c ps HP.out Hm.out hmc x).mono ?_;rintro e w1 ⟨⟨n, rfl, hn⟩, rfl⟩;have Hn := Lib.hid hn;clear hn;go_wp2_with fail;go_ret;exact ⟨by simp [Hn.out], rfl⟩
theorem zj5 (w : World) (k : Int) : Calls Tryd.prog 50 #[.int .u8 k] w fun e w' => e = .returned (.bool (decide (1 < k))) /\ w = w' := by
 go_enter Tryd.func50, Tryd.ntmps50;go_wp2_with fail;go_ret;exact ⟨rfl, rfl⟩
def zaR (x : zam) : List Int := if x.op = 12 ∨ x.op = 14 ∨ x.op = 18 then [] else if x.op = 9 /\ x.els ≠ x.next then [x.next, x.els] else if x.op < 1 ∨ 18 < x.op then [] else [x.next]
def Lst (w : World) (v : Value) (l : List Int) : Prop := ∃ A c, v = .slice A l.length c /\ l.length <= c /\ c <= maxLen /\ zal w w.heap.size 1 A l.length (l.map (Value.int .i64))
theorem Lst.nil (w : World) : Lst w (.slice none 0 0) [] := ⟨none, 0, rfl, Nat.le_refl _, by unfold maxLen; simp, zal.none_⟩
theorem Lst.below {w w' : World} {v : Value} {l : List Int} (h : Lst w v l) (hb : Below w.heap.size w w') : Lst w' v l := by
 obtain ⟨A, c, h1, h2, h3, h4⟩ := h;exact ⟨A, c, h1, h2, h3, (h4.below hb).more hb.size⟩
theorem zal.newL (w : World) (t : TypeId) (l : List Value) : zal (w.alloc (.cells l.toArray t)) (w.heap.size + 1) 1 (some ⟨w.heap.size, 0, none⟩) l.length l := by
 refine ⟨by simp, fun _ => ⟨_, rfl, by simp, fun j u hu => ?_⟩⟩;have h := (Blk.new w t l.toArray).cell j;rw [Addr.add_mid, Nat.zero_add, h, List.getElem?_toArray, hu]
theorem Lst.new (w : World) (t : TypeId) (l : List Int) (hl : l.length <= 100) {g n : Nat} {cs : Array Value} (hg : g = w.heap.size) (hn : n = l.length) (hc : cs = (l.map (Value.int .i64)).toArray) : Lst (w.alloc (.cells cs t)) (.slice (some ⟨g, 0, none⟩) n n) l := by
 subst hg hn hc;refine ⟨_, _, rfl, Nat.le_refl _, by unfold maxLen; omega, ?_⟩;have h := zal.newL w t (l.map (Value.int .i64));rw [List.length_map] at h
 simpa using h
theorem zfe (w : World) (x : zam) (av : Value) :
  Calls Tryd.prog 54 #[.agg (zae x av).toArray] w fun e w' => (∃ v, e = .returned v /\ Lst w' v (zaR x)) /\ Below w.heap.size w w' := by
 obtain ⟨op, byo, d, e, a, b, f, cell, imm, args, next, els⟩ := x;have hP := Blk.new w 55 #[.int .u8 op, .int .u8 byo, .int .i64 d, .int .i64 e, .int .i64 a, .int .i64 b, .int .i64 f, .int .i64 cell, .int .u64 imm, av, .int .i64 next, .int .i64 els];have kp0 := bc hP 0;have kp10 := bc hP 10;have kp11 := bc hP 11;have hb := (Below.refl w.heap.size w).alloc (Nat.le_refl _) (.cells #[.int .u8 op, .int .u8 byo, .int .i64 d, .int .i64 e, .int .i64 a, .int .i64 b, .int .i64 f, .int .i64 cell, .int .u64 imm, av, .int .i64 next, .int .i64 els] 55);simp only [zae];obtain ⟨N, hN⟩ := mn (zaR ⟨op, byo, d, e, a, b, f, cell, imm, args, next, els⟩);rw [hN];unfold zaR at hN;simp only at hN
 by_cases e12 : op = 12 ∨ op = 14 ∨ op = 18
 ·rw [if_pos e12] at hN;subst hN;obtain ⟨Hb, HP⟩ := hd2 hb hP;clear hP hb
  rcases e12 with rfl | rfl | rfl
  all_goals
   go_enter Tryd.func54, Tryd.ntmps54;go_wp2_with fail;go_ret;exact ⟨⟨_, rfl, Lst.nil _⟩, Hb.out⟩
 ·rw [if_neg e12] at hN
  have b12 : (op == 12) = false := by rw [beq_eq_false_iff_ne]; omega
  have b14 : (op == 14) = false := by rw [beq_eq_false_iff_ne]; omega
  have b18 : (op == 18) = false := by rw [beq_eq_false_iff_ne]; omega
  by_cases e9 : op = 9
  ·subst e9
   by_cases en : els = next
   ·have bn : (els != next) = false := by simp [en]
    rw [if_neg (fun h => h.2 en), if_neg (by omega)] at hN;subst hN;obtain ⟨Hb, HP, Hen, He12⟩ := hd4 hb hP en e12;clear e12 en hP hb;go_enter Tryd.func54, Tryd.ntmps54;go_wp2_with fail;go_ret;exact ⟨⟨_, rfl, Lst.new _ _ [next] (by simp) (by simp) rfl rfl⟩, Hb.out.alloc Hb.out.size _⟩
   ·have bn : (els != next) = true := by simp [en]
    rw [if_pos ⟨rfl, en⟩] at hN;subst hN;obtain ⟨Hb, HP, Hen, He12⟩ := hd4 hb hP en e12;clear e12 en hP hb;go_enter Tryd.func54, Tryd.ntmps54;go_wp2_with fail;go_ret;exact ⟨⟨_, rfl, Lst.new _ _ [next, els] (by simp) (by simp) rfl rfl⟩, Hb.out.alloc Hb.out.size _⟩
  ·have b9 : (op == 9) = false := by rw [beq_eq_false_iff_ne]; omega
   rw [if_neg (fun h => e9 h.1)] at hN
   have hcase : (op < 1 /\ N = []) ∨ (¬ op < 1 /\ 18 < op /\ N = []) ∨ (¬ op < 1 /\ ¬ 18 < op /\ N = [next]) := by
    by_cases h1 : op < 1
    ·rw [if_pos (.inl h1)] at hN; exact .inl ⟨h1, hN.symm⟩
    ·by_cases h2 : 18 < op
     ·rw [if_pos (.inr h2)] at hN; exact .inr (.inl ⟨h1, h2, hN.symm⟩)
     ·rw [if_neg (by omega)] at hN; exact .inr (.inr ⟨h1, h2, hN.symm⟩)
   obtain ⟨Hb, HP, He12, He9, HN⟩ := hd5 hb hP e12 e9 hN;clear hN e9 e12 hP hb
   rcases hcase with ⟨h1, rfl⟩ | ⟨h1, h2, rfl⟩ | ⟨h1, h2, rfl⟩
   ·go_enter Tryd.func54, Tryd.ntmps54;go_wp2_with fail;go_ret;exact ⟨⟨_, rfl, Lst.nil _⟩, Hb.out⟩
   ·go_enter Tryd.func54, Tryd.ntmps54;go_wp2_with fail;go_ret;exact ⟨⟨_, rfl, Lst.nil _⟩, Hb.out⟩
   ·go_enter Tryd.func54, Tryd.ntmps54;go_wp2_with fail;go_ret;exact ⟨⟨_, rfl, Lst.new _ _ [next] (by simp) (by simp) rfl rfl⟩, Hb.out.alloc Hb.out.size _⟩
theorem zgH (w : World) (D : Nat) (A : Option Addr) (m c : Nat) (ks : List Int) (hP : zal w D 1 A m (ks.map (Value.int .u8))) (hm : ks.length = m) (hmc : m <= 140737488351232) :
  Calls Tryd.prog 82 #[.slice A m c, .func (.func 50) #[] #[]] w fun e w' => (∃ n : Int, e = .returned (.int .i64 n) /\ (0 <= n ↔ ∃ k ∈ ks, 1 < k)) /\ w = w' := by
 obtain ⟨HP, Hm⟩ := hd2 hP hm;clear hm hP;go_enter Tryd.func82, Tryd.ntmps82;go_wp2_with fail
 go_loopw [8] (fun i wq => ∃ j : Nat, j <= m /\ i = .int .i64 j /\ wq = w /\ Hid (¬ ∃ k ∈ ks.take j, 1 < k)) (fun i _ => m - (intOf i).toNat)
 case atStart => exact ⟨0, by omega, rfl, rfl, (show ¬ ∃ k ∈ ks.take 0, 1 < k by simp)⟩
 case round =>
  obtain ⟨j, hj, rfl, hwr, hall⟩ := hrel;subst hwr
  by_cases hjm : j < m
  ·obtain ⟨ad, u0, hA, _, hu0, hce⟩ := HP.out.at_ hjm;subst hA
   obtain ⟨p, hpj, rfl⟩ : ∃ p, ks[j]? = some p /\ u0 = .int .u8 p := by
    rw [List.getElem?_map, Option.map_eq_some_iff] at hu0;obtain ⟨x, h1, h2⟩ := hu0;exact ⟨x, h1, h2.symm⟩
   have hmem := List.mem_of_getElem? hpj;clear hu0
   by_cases hx : 1 < p
   ·have hin : ∃ k ∈ ks, 1 < k := ⟨p, hmem, hx⟩
    obtain ⟨Hall, Hpj, Hmem, Hin⟩ := hd4 hall hpj hmem hin;clear hin hmem hpj hall;go_wp2_with fail;refine (zj5 _ p).mono ?_;rintro e w1 ⟨rfl, rfl⟩;go_wp2_with fail;go_ret;exact ⟨⟨j, rfl, by simp [Hin.out]⟩, rfl⟩
   ·have hs : ¬ ∃ k ∈ ks.take (j + 1), 1 < k := by
     rw [List.take_add_one, hpj];rintro ⟨k, hk, h1⟩;simp only [Option.toList, List.mem_append, List.mem_singleton] at hk
     rcases hk with h | h
     ·exact hall.out ⟨k, h, h1⟩
     ·exact hx (h ▸ h1)
    obtain ⟨Hall, Hpj, Hmem, Hs⟩ := hd4 hall hpj hmem hs;clear hs hmem hpj hall;go_wp2_with fail;refine (zj5 _ p).mono ?_;rintro e w1 ⟨rfl, rfl⟩;go_wp2_with fail;exact ⟨⟨j + 1, by omega, by go_num, trivial, Lib.hid Hs.out⟩, by simp [intOf]; omega⟩
  ·have hs : ¬ ∃ k ∈ ks, 1 < k := by
    rw [List.take_of_length_le (by rw [Hm.out]; omega)] at hall;exact hall.out
   obtain ⟨Hs, Hall⟩ := hd2 hs hall;clear hall hs;go_wp2_with fail;go_ret;exact ⟨⟨-1, rfl, by simp [Hs.out]⟩, rfl⟩
theorem zdv (w : World) (D : Nat) (A : Option Addr) (m c : Nat) (ks : List Int) (hP : zal w D 1 A m (ks.map (Value.int .u8))) (hm : ks.length = m) (hmc : m <= 140737488351232) :
  Calls Tryd.prog 49 #[.slice A m c, .func (.func 50) #[] #[]] w fun e w' => e = .returned (.bool (ks.any fun k => decide (1 < k))) /\ w = w' := by
 obtain ⟨HP, Hm⟩ := hd2 hP hm;clear hm hP;go_enter Tryd.func49, Tryd.ntmps49;go_wp2_with fail;refine (zgH w D A m c ks HP.out Hm.out hmc).mono ?_;rintro e w1 ⟨⟨n, rfl, hn⟩, rfl⟩
 have hr : decide (0 <= n) = ks.any fun k => decide (1 < k) := by
  rw [Bool.eq_iff_iff, decide_eq_true_iff, hn, List.any_eq_true];simp
 obtain ⟨Hn, Hr⟩ := hd2 hn hr;clear hr hn;go_wp2_with fail;go_ret;rw [<- Hr.out];exact ⟨rfl, rfl⟩
end Go.Proofs.YtnfjjliiajaijaaDoor
namespace Go.Proofs.YtnfjjliiajaijaaDoor
def znl : zam := ⟨0, 0, 0, 0, 0, 0, 0, 0, 0, [], 0, 0⟩
def nd (ns : List zam) (i : Nat) : zam := ns.getD i znl
def hop (ns : List zam) (i : Nat) : Nat := if (nd ns i).op = 10 then (nd ns i).next.toNat else i
def zbX (ns : List zam) : Nat -> Nat -> Nat
 | 0, i => i
 | k + 1, i => zbX ns k (hop ns i)
def zhi (ns : List zam) (x : Nat) : Nat -> Nat
 | 0 => x
 | m + 1 => min (zhi ns x m) (zbX ns m x)
def zcU (ns : List zam) (i : Nat) : Nat := if (nd ns (zbX ns ns.length i)).op = 10 then zhi ns (zbX ns ns.length i) ns.length else zbX ns ns.length i
def upd (f : Nat -> Option Nat) (k v : Nat) : Nat -> Option Nat := fun j => if j = k then some v else f j
def zbJ (f : Nat -> Option Nat) : Nat -> Nat
 | 0 => 0
 | n + 1 => zbJ f n + if (f n).isSome then 1 else 0
structure LS where
 at_ : Nat -> Option Nat
 out : List zam
 todo : List Nat
def ziD (i : Nat) : zam := ⟨10, 0, 0, 0, 0, 0, 0, 0, 0, [], i, 0⟩
def zcq (ns : List zam) (x : zam) : zam := if x.op = 9 then { x with els := (zcU ns x.els.toNat : Nat) } else x
def zeC (ns : List zam) : Nat -> LS -> Nat -> LS
 | 0, s, _ => s
 | fuel + 1, s, i =>
  match s.at_ i with
  | some _ => s
  | none =>
   if (nd ns i).op = 10 then ⟨upd s.at_ i s.out.length, s.out ++ [{ nd ns i with next := i }], s.todo⟩
   else if zaR (nd ns i) = [] then ⟨upd s.at_ i s.out.length, s.out ++ [zcq ns (nd ns i)], s.todo⟩
   else
    zeC ns fuel ⟨upd s.at_ i s.out.length,
     (s.out ++ [zcq ns (nd ns i)]) ++ (if (upd s.at_ i s.out.length (zcU ns (nd ns i).next.toNat)).isSome then [ziD (zcU ns (nd ns i).next.toNat)] else []),
     if (nd ns i).op = 9 then s.todo ++ [zcU ns (nd ns i).els.toNat] else s.todo⟩ (zcU ns (nd ns i).next.toNat)
def zd3 (ns : List zam) : Nat -> LS -> LS
 | 0, s => s
 | f + 1, s => match s.todo with
  | [] => s
  | i :: r => zd3 ns f (zeC ns (ns.length + 1) ⟨s.at_, s.out, r⟩ i)
def zgM (at_ : Nat -> Option Nat) (k : Nat) (x : zam) : zam :=
 let y : zam := if x.op = 10 then { x with next := ((at_ x.next.toNat).getD 0 : Nat) } else if zaR x = [] then x else { x with next := k + 1 }
 if x.op = 9 then { y with els := ((at_ x.els.toNat).getD 0 : Nat) } else y
def zfB (ns : List zam) (entry : Nat) : LS := zd3 ns (ns.length + 2) ⟨fun _ => none, [], [zcU ns entry]⟩
def zea (ns : List zam) (entry : Nat) : List zam := (zfB ns entry).out.mapIdx (zgM (zfB ns entry).at_)
def zaK (g : zad) : zad := { g with nodes := zea g.nodes g.entry.toNat, entry := 0 }
def Hop (ns : List zam) : Prop := ∀ x ∈ ns, x.op = 10 -> 0 <= x.next /\ x.next < ns.length
section
variable {ns : List zam}
theorem zfw {i : Nat} (h : i < ns.length) : nd ns i ∈ ns := by unfold nd; rw [List.getD_eq_getElem?_getD, List.getElem?_eq_getElem h]; exact List.getElem_mem h
theorem zl2 {i : Nat} (h : i < ns.length) : ns[i]? = some (nd ns i) := by unfold nd; rw [List.getD_eq_getElem?_getD, List.getElem?_eq_getElem h]; rfl
theorem zmX (hg : Hop ns) {i : Nat} (hi : i < ns.length) : hop ns i < ns.length := by
 unfold hop
 split
 ·rename_i h
  have := hg _ (zfw hi) h
  omega
 ·exact hi
theorem zfG (hg : Hop ns) : ∀ (k : Nat) {i : Nat}, i < ns.length -> zbX ns k i < ns.length
 | 0, _, h => h
 | k + 1, _, h => zfG hg k (zmX hg h)
theorem zbP : ∀ (a b i : Nat), zbX ns (a + b) i = zbX ns b (zbX ns a i)
 | 0, b, i => by rw [Nat.zero_add]; rfl
 | a + 1, b, i => by rw [show a + 1 + b = (a + b) + 1 by omega]; exact zbP a b (hop ns i)
theorem zht (k i : Nat) : zbX ns (k + 1) i = hop ns (zbX ns k i) := by rw [zbP k 1 i]; rfl
theorem zmy {i : Nat} (h : (nd ns i).op ≠ 10) : hop ns i = i := by unfold hop; rw [if_neg h]
theorem zkD {i : Nat} (h : (nd ns i).op = 10) : hop ns i = (nd ns i).next.toNat := by unfold hop; rw [if_pos h]
theorem zgI : ∀ (k : Nat) {i : Nat}, (nd ns i).op ≠ 10 -> zbX ns k i = i
 | 0, _, _ => rfl
 | k + 1, i, h => by
  show zbX ns k (hop ns i) = i;rw [zmy h]; exact zgI k h
theorem zjS {i k : Nat} (hk : k <= ns.length) (h : (nd ns (zbX ns k i)).op ≠ 10) : zcU ns i = zbX ns k i := by
 have he : zbX ns ns.length i = zbX ns k i := by
  rw [show ns.length = k + (ns.length - k) by omega, zbP];exact zgI _ h
 unfold zcU;rw [he, if_neg h]
theorem zh8 {x : Nat} : ∀ {m t : Nat}, t < m -> zhi ns x m <= zbX ns t x
 | m + 1, t, h => by
  show min _ _ <= _
  rcases Nat.lt_or_ge t m with h1 | h1
  ·have := zh8 (x := x) h1; omega
  ·have : t = m := by omega
   subst this; omega
theorem zff {x : Nat} : ∀ m : Nat, ∃ t, t <= m /\ zhi ns x m = zbX ns t x
 | 0 => ⟨0, Nat.le_refl _, rfl⟩
 | m + 1 => by
  obtain ⟨t, h1, h2⟩ := zff (x := x) m;show ∃ t, t <= m + 1 /\ min _ _ = _
  rcases Nat.le_total (zhi ns x m) (zbX ns m x) with h | h
  ·exact ⟨t, by omega, by omega⟩
  ·exact ⟨m, by omega, by omega⟩
theorem zfc {x p : Nat} (hr : zbX ns p x = x) (t : Nat) : zbX ns t x = zbX ns (t % p) x := by
 have h : ∀ q r, zbX ns (p * q + r) x = zbX ns r x := by
  intro q
  induction q with
  | zero => intro r; rw [Nat.mul_zero, Nat.zero_add]
  | succ q ih =>
   intro r;rw [show p * (q + 1) + r = p + (p * q + r) by rw [Nat.mul_succ]; omega, zbP, hr];exact ih r
 have := h (t / p) (t % p)
 rwa [Nat.div_add_mod] at this
theorem zko {x p s n : Nat} (hp : 0 < p) (hr : zbX ns p x = x) (hn : p <= n) : zhi ns (zbX ns s x) n = zhi ns x p := by
 have hle : ∀ t, zhi ns x p <= zbX ns t x := fun t => by
  rw [zfc hr t]; exact zh8 (Nat.mod_lt _ hp)
 have hr' : zbX ns p (zbX ns s x) = zbX ns s x := by
  rw [<- zbP, show s + p = p + s by omega, zbP, hr]
 have hle' : ∀ t, zhi ns (zbX ns s x) n <= zbX ns t (zbX ns s x) := fun t => by
  rw [zfc hr' t]; exact zh8 (Nat.lt_of_lt_of_le (Nat.mod_lt _ hp) hn)
 obtain ⟨t, _, ht⟩ := zff (ns := ns) (x := zbX ns s x) n;obtain ⟨u, _, hu⟩ := zff (ns := ns) (x := x) p
 have h1 : zhi ns x p <= zhi ns (zbX ns s x) n := by rw [ht, <- zbP]; exact hle _
 have h2 : zhi ns (zbX ns s x) n <= zhi ns x p := by
  -- x's u-th is reached out of its s-th
  have hx : ∃ v, zbX ns v (zbX ns s x) = zbX ns u x := by
   refine ⟨(p - s % p) + u, ?_⟩;rw [zfc hr s, <- zbP, show s % p + ((p - s % p) + u) = p + u by have := Nat.mod_lt s hp; omega, zbP, hr]
  obtain ⟨v, hv⟩ := hx;rw [hu, <- hv]; exact hle' v
 omega
theorem zjT {i k p : Nat} (hp : 0 < p) (hk : k <= ns.length) (hpn : p <= ns.length) (hop : (nd ns (zbX ns k i)).op = 10) (hr : zbX ns p (zbX ns k i) = zbX ns k i) : zcU ns i = zhi ns (zbX ns k i) p := by
 have hX : zbX ns ns.length i = zbX ns (ns.length - k) (zbX ns k i) := by rw [<- zbP, show k + (ns.length - k) = ns.length by omega]
 have hn : (nd ns (zbX ns ns.length i)).op = 10 := by
  by_cases h : (nd ns (zbX ns ns.length i)).op = 10
  ·exact h
  ·exfalso
   rw [hX] at h;have hf := zgI (p - (ns.length - k) % p) h;rw [<- zbP, zfc hr (ns.length - k + (p - (ns.length - k) % p))] at hf
   have hz : (ns.length - k + (p - (ns.length - k) % p)) % p = 0 := by
    have h1 := Nat.div_add_mod (ns.length - k) p;have h2 := Nat.mod_lt (ns.length - k) hp;rw [show ns.length - k + (p - (ns.length - k) % p) = p * ((ns.length - k) / p) + p by omega, Nat.mul_add_mod];exact Nat.mod_self p
   rw [hz] at hf;rw [<- hf] at h;exact h hop
 unfold zcU;rw [if_pos hn, hX];exact zko hp hr hpn
theorem zeG (hg : Hop ns) {i : Nat} (hi : i < ns.length) : zcU ns i < ns.length := by
 unfold zcU
 split
 ·obtain ⟨t, _, h⟩ := zff (ns := ns) (x := zbX ns ns.length i) ns.length;rw [h]; exact zfG hg _ (zfG hg _ hi)
 ·exact zfG hg _ hi
end
section
variable {f : Nat -> Option Nat}
theorem zcE : ∀ n, zbJ f n <= n
 | 0 => Nat.le_refl _
 | n + 1 => by
  have := zcE n;show zbJ f n + _ <= n + 1
  split <;> omega
theorem zhD {k v : Nat} : ∀ {n : Nat}, n <= k -> zbJ (upd f k v) n = zbJ f n
 | 0, _ => rfl
 | n + 1, h => by
  show zbJ (upd f k v) n + _ = zbJ f n + _;rw [zhD (by omega)]
  have : upd f k v n = f n := by unfold upd; rw [if_neg (by omega)]
  rw [this]
theorem zcc {k v : Nat} (hk : f k = none) : ∀ {n : Nat}, k < n -> zbJ (upd f k v) n = zbJ f n + 1
 | n + 1, h => by
  show zbJ (upd f k v) n + _ = zbJ f n + _ + 1
  rcases Nat.lt_or_ge k n with h1 | h1
  ·rw [zcc hk h1]
   have : upd f k v n = f n := by unfold upd; rw [if_neg (by omega)]
   rw [this]; omega
  ·have e : k = n := by omega
   subst e;rw [zhD (Nat.le_refl _)]
   have : upd f k v k = some v := by unfold upd; rw [if_pos rfl]
   rw [this, hk]; rfl
theorem zgk {k : Nat} (hk : f k = none) {n : Nat} (hn : k < n) : zbJ f n < n := by
 have h1 := zcc (v := 0) hk hn;have h2 := zcE (f := upd f k 0) n
 omega
theorem zcY {k v : Nat} : upd f k v k = some v := by unfold upd; rw [if_pos rfl]
theorem upd_ne {k v j : Nat} (h : j ≠ k) : upd f k v j = f j := by unfold upd; rw [if_neg h]
theorem zb2 : ∀ n, zbJ (fun _ => none) n = 0
 | 0 => rfl
 | n + 1 => by show zbJ (fun _ => none) n + 0 = 0; rw [zb2 n]
end
end Go.Proofs.YtnfjjliiajaijaaDoor
namespace Go.Proofs.YtnfjjliiajaijaaDoor
open Go.RowKit Go.Maps
theorem zic : Keyed Tryd.prog 3 := int_keyed Tryd.underlying3
theorem zmN (w : World) : (zeroValue 3).run Tryd.prog w = .ok (.int .i64 0) w := by kernel_rfl
theorem wfI (k : Nat) (hk : k < 9223372036854775808) : (Lit.int .i64 (k : Int)).wf = true := by
 simp [Lit.wf, IntKind.min, IntKind.max, IntKind.bits, IntKind.signed]; omega
theorem zdD {a b : Int} (h : (DataW.lit (.int .i64 a) : DataW Unit) = .lit (.int .i64 b)) : a = b := by
 simpa using h
theorem znn (k : Nat) (hk : k < 9223372036854775808) : keyOf Tryd.prog 3 (.int .i64 k) = some (.int .i64 k) := keyOf_int_mk Tryd.underlying3 (wfI k hk)
def zcx (w : World) (b n : Nat) (f : Nat -> Option Nat) : Prop :=
 ∃ D : DataW Unit, w.ownsMap Tryd.prog 3 (plainElem Tryd.prog 3) b n D /\
  (∀ k : Nat, (∀ v, f k = some v -> Maps.has D (.int .i64 k) = true /\ ∀ z, D.atKey (.int .i64 k) z = .lit (.int .i64 v)) /\ (f k = none -> Maps.has D (.int .i64 k) = false)) /\ ∀ kl, Maps.has D kl = true -> ∃ k : Nat, kl = .int .i64 k
section
variable {w w' : World} {b n : Nat} {f : Nat -> Option Nat}
theorem zcx.made (w : World) : zcx (w.alloc (.map #[] 0)) w.heap.size 0 (fun _ => none) :=
 ⟨_, World.ownsMap_made w Tryd.prog _ _, fun k => ⟨nofun, fun _ => rfl⟩, fun kl h => by cases h⟩
theorem zcx.lt (h : zcx w b n f) : b < w.heap.size := by
 obtain ⟨D, h, _⟩ := h;exact h.lt
theorem zcx.kept {row : Option Nat} (h : zcx w b n f) (hg : w.grownBy w' row) (hne : some b ≠ row) : zcx w' b n f := by
 obtain ⟨D, h1, h2⟩ := h;exact ⟨D, h1.kept hg hne, h2⟩
theorem zcx.alloc (h : zcx w b n f) (o : Obj) : zcx (w.alloc o) b n f := h.kept (World.grownBy_alloc w o none) nofun
theorem zcx.drew (h : zcx w b n f) : zcx w.drew b n f := h
theorem zcx.mono (h : zcx w b n f) {n' : Nat} (hn : n <= n') : zcx w b n' f := by
 obtain ⟨D, h1, h2⟩ := h;exact ⟨D, h1.mono hn, h2⟩
theorem zcx.set (h : zcx w b n f) {p : Addr} (hp : b ≠ p.block) (u : Value) : zcx (w.setCell p u) b n f :=
 h.kept (row := some p.block) ⟨rfl, rfl, rfl, by simp [World.setCell], fun k _ hk => Below.heap_setCell w p u k (fun e => hk (by rw [e]))⟩ (fun e => hp (Option.some.inj e))
theorem zcx.below {B : Nat} (h : zcx w b n f) (hb : Below B w w') (hg : b < B) : zcx w' b n f := by
 obtain ⟨D, ⟨es, clock, hh, h1⟩, h2⟩ := h;exact ⟨D, ⟨es, clock, (hb.block b hg).trans hh, h1⟩, h2⟩
theorem zcx.ne_blk {g : Nat} {t : TypeId} {cs : Array Value} (h : zcx w b n f) (hg : Blk w g t cs) : b ≠ g := by
 rintro rfl;obtain ⟨D, ⟨es, clock, hh, _⟩, _⟩ := h;unfold Blk at hg;rw [hh] at hg
 cases hg
theorem zcx.ne_row {base size m : Nat} {e : TypeId} {v : Value} {xs : List Value} (h : zcx w b n f) (hv : w.ownsRow base e size v m xs) : some b ≠ v.ownBlock := by
 rcases hv.2 with ⟨rfl, _⟩ | ⟨g', cap, cur, rfl, _, hh, _⟩
 ·nofun
 ·intro e
  have e' : b = g' := by simpa [Value.ownBlock] using e
  exact h.ne_blk (show Blk w g' _ _ from hh) e'
theorem zcx.look (h : zcx w b n f) (k : Nat) (hk : k < 9223372036854775808) : (Instr.lookup 64 (.map (some b)) (.int .i64 k) false).run Tryd.prog w = .ok (.int .i64 (((f k).getD 0 : Nat) : Int)) w := by
 obtain ⟨D, h1, h2, h3⟩ := h;obtain ⟨c, hrun, hat, _⟩ := h1.lookup_int zic Tryd.underlying64 Tryd.underlying3 (zmN w) (znn k hk);rw [hrun]
 rcases hf : f k with _ | v
 ·rw [atKey_of_not_has ((h2 k).2 hf)] at hat;rw [<- zdD hat]; rfl
 ·rw [((h2 k).1 v hf).2] at hat;rw [<- zdD hat]; rfl
theorem zcx.look_ok (h : zcx w b n f) (k : Nat) (hk : k < 9223372036854775808) : (Instr.lookup 64 (.map (some b)) (.int .i64 k) true).run Tryd.prog w = .ok (.tuple #[.int .i64 (((f k).getD 0 : Nat) : Int), .bool (f k).isSome]) w := by
 obtain ⟨D, h1, h2, h3⟩ := h;obtain ⟨v, ps, hrun, hv⟩ := h1.look_ok zic Tryd.underlying64 (zmN w) (plainElem_int Tryd.underlying3 (by decide)) (znn k hk);obtain ⟨c, rfl, hc, _⟩ := plainElem_int_inv Tryd.underlying3 hv;simp only [Prod.mk.injEq] at hc;have hat := hc.1;rw [hrun]
 rcases hf : f k with _ | u
 ·rw [atKey_of_not_has ((h2 k).2 hf)] at hat;rw [<- zdD hat, (h2 k).2 hf]; rfl
 ·rw [((h2 k).1 u hf).2] at hat;rw [<- zdD hat, ((h2 k).1 u hf).1]; rfl
theorem zcx.put (h : zcx w b n f) (k v : Nat) (hk : k < 9223372036854775808) (hv : v < 9223372036854775808) (hn : n < maxLen) :
  ∃ w', (Instr.mapUpdate 64 (.map (some b)) (.int .i64 k) (.int .i64 v)).run Tryd.prog w = .ok () w' /\ zcx w' b (n + 1) (upd f k v) /\ w.grownBy w' (some b) := by
 obtain ⟨D, h1, h2, h3⟩ := h;have hD := h1.isMap;obtain ⟨w', hrun, r1, r2⟩ := h1.update zic Tryd.underlying64 hn (znn k hk) (plainElem_int (a := (v : Int)) Tryd.underlying3 (wfI v hv))
 have hkey : WideAt.IsKeyLit (.int .i64 (k : Int)) := by first | trivial | simp [WideAt.IsKeyLit]
 refine ⟨w', hrun, ⟨_, r1, fun j => ?_, fun kl hkl => ?_⟩, r2⟩
 rotate_left
 ·by_cases hj : kl = .int .i64 (k : Int)
  ·exact ⟨k, hj⟩
  ·rw [has_put_other hj] at hkl;exact h3 kl hkl
 by_cases hj : j = k
 ·subst hj;rw [zcY];refine ⟨fun u hu => ?_, nofun⟩;injection hu with hu;subst hu;exact ⟨has_put_same hD hkey _, fun z => atKey_put_same hD hkey _ z⟩
 ·have hne : (Lit.int .i64 (j : Int)) ≠ Lit.int .i64 (k : Int) := fun e => by
   injection e with _ e;exact hj (by omega)
  rw [upd_ne hj, has_put_other hne];refine ⟨fun u hu => ⟨((h2 j).1 u hu).1, fun z => ?_⟩, (h2 j).2⟩;rw [atKey_put_other hne];exact ((h2 j).1 u hu).2 z
end
theorem ziS (w : World) {ops : Array Oper} {rest : List Oper} {o : Oper} {a : Act} {Q : Exit -> Act -> World -> Prop}
  (hg : o.guard = none) (m x v : Operand) (hop : o.op = Op.mapUpdate 64 m x v) (b n : Nat) (f : Nat -> Option Nat)
  (hm : a.eval m = .map (some b)) (h : zcx w b n f) (hn : n < maxLen) (k u : Nat) (hk : k < 9223372036854775808) (hu : u < 9223372036854775808) (hx : a.eval x = .int .i64 k) (hv : a.eval v = .int .i64 u)
  (hK : ∀ w', zcx w' b (n + 1) (upd f k u) -> w.grownBy w' (some b) -> wpList Tryd.prog ops Q rest (a.put o.dst undef) w') : wpList Tryd.prog ops Q (o :: rest) a w := by
 refine wpList_plain hg fun K' hK' => ?_
 obtain ⟨w', hrun, r1, r2⟩ := h.put k u hk hu hn;unfold Oper.wp;simp [execOp, hop, hm, hx, hv, hrun, Result.andThen];exact hK' _ _ (hK w' r1 r2)
end Go.Proofs.YtnfjjliiajaijaaDoor
