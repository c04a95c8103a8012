/- Programs of graphs as plain data, and how they lie in memory. No condition. Walks of the checker's small questions: a cell, places of a kind, lists. Conditions: the checker and the lists lie in memory. Walks of ir's Next, and of the question whether a list of kinds holds one that is none. Conditions: the lists lie in memory. Nodes laid in a line, plainly: what is behind jumps, and the line itself. No condition. A map of the call's own from numbers to numbers, as a function. No condition. Things of a call's own that lie apart in memory (rows, blocks, maps): a change of one leaves the rest. No condition. -/
import Derived.Test.YtnfjjliiajaijaaDoorPkAA
import Derived.WalkKit
import Derived.Maps.OwnOps
import Derived.Maps.OwnSet
import Derived.Maps.Views
set_option linter.unusedVariables false
set_option linter.unusedSimpArgs false
set_option maxRecDepth 100000
set_option maxHeartbeats 10000000
namespace Go.Proofs.YtnfjjliiajaijaaDoor
open Go.RowKit

structure NodeD where
 op : Int
 byo : Int
 d : Int
 e : Int
 a : Int
 b : Int
 f : Int
 cell : Int
 imm : Int
 args : List Int
 next : Int
 els : Int
structure GraphD where
 params : List Int
 kinds : List Int
 cells : Int
 init : List Int
 result : Bool
 keep : Int
 nodes : List NodeD
 entry : Int
def ncells (x : NodeD) (av : Value) : List Value := [.int .u8 x.op, .int .u8 x.byo, .int .i64 x.d, .int .i64 x.e, .int .i64 x.a, .int .i64 x.b, .int .i64 x.f, .int .i64 x.cell, .int .u64 x.imm, av, .int .i64 x.next, .int .i64 x.els]
def gcells (g : GraphD) (pv kv iv nv : Value) : List Value := [pv, kv, .int .i64 g.cells, iv, .bool g.result, .int .i64 g.keep, nv, .int .i64 g.entry]
/-- numbers in a slice -/
def NumsAt (k : IntKind) (w : World) (B : Nat) (v : Value) (l : List Int) : Prop := ∃ A n c, v = .slice A n c ∧ n ≤ c ∧ c ≤ maxLen ∧ l.length = n ∧ Reads w B 1 A n (l.map (Value.int k))
/-- things of some cells in a slice -/
def RowsAt {α : Type} (size : Nat) (R : World → Nat → List Value → α → Prop) (w : World) (B : Nat) (v : Value) (l : List α) : Prop := ∃ A n c, ∃ css : List (List Value), v = .slice A n c ∧ n ≤ c ∧ c ≤ maxLen ∧ l.length = n ∧ css.length = n ∧ (∀ cs ∈ css, cs.length = size) ∧ Reads w B size A n css.flatten ∧
 ∀ (i : Nat) x, l[i]? = some x → ∃ cs, css[i]? = some cs ∧ R w B cs x
def NodeAt (w : World) (B : Nat) (cs : List Value) (x : NodeD) : Prop := ∃ av, cs = ncells x av ∧ NumsAt .i64 w B av x.args
def GraphAt (w : World) (B : Nat) (cs : List Value) (g : GraphD) : Prop := ∃ pv kv iv nv, cs = gcells g pv kv iv nv ∧ NumsAt .i64 w B pv g.params ∧ NumsAt .u8 w B kv g.kinds ∧ NumsAt .i64 w B iv g.init ∧ RowsAt 12 NodeAt w B nv g.nodes
def GraphsAt (w : World) (B : Nat) (v : Value) (gs : List GraphD) : Prop := RowsAt 8 GraphAt w B v gs
section
variable {w w' : World} {B B' : Nat} {v : Value}
theorem NumsAt.keep {k : IntKind} {l : List Int} (h : NumsAt k w B v l) (hk : ∀ p : Addr, p.block < B → w'.cell? p = w.cell? p) : NumsAt k w' B v l := by
 obtain ⟨A, n, c, h1, h2, h3, h4, h5⟩ := h
 exact ⟨A, n, c, h1, h2, h3, h4, h5.keep hk⟩
theorem NumsAt.more {k : IntKind} {l : List Int} (h : NumsAt k w B v l) (hB : B ≤ B') : NumsAt k w B' v l := by
 obtain ⟨A, n, c, h1, h2, h3, h4, h5⟩ := h
 exact ⟨A, n, c, h1, h2, h3, h4, h5.more hB⟩
theorem NumsAt.below {k : IntKind} {l : List Int} (h : NumsAt k w B v l) (hb : Below B w w') : NumsAt k w' B v l := h.keep fun _ hp => hb.cell hp
theorem RowsAt.keep {α : Type} {size : Nat} {R : World → Nat → List Value → α → Prop} {l : List α} (h : RowsAt size R w B v l) (hk : ∀ p : Addr, p.block < B → w'.cell? p = w.cell? p) (hR : ∀ cs x, R w B cs x → R w' B cs x) : RowsAt size R w' B v l := by
 obtain ⟨A, n, c, css, h1, h2, h3, h4, h5, h6, h7, h8⟩ := h
 refine ⟨A, n, c, css, h1, h2, h3, h4, h5, h6, h7.keep hk, fun i x hx => ?_⟩
 obtain ⟨cs, q1, q2⟩ := h8 i x hx
 exact ⟨cs, q1, hR cs x q2⟩
theorem RowsAt.more {α : Type} {size : Nat} {R : World → Nat → List Value → α → Prop} {l : List α} (h : RowsAt size R w B v l) (hB : B ≤ B') (hR : ∀ cs x, R w B cs x → R w B' cs x) : RowsAt size R w B' v l := by
 obtain ⟨A, n, c, css, h1, h2, h3, h4, h5, h6, h7, h8⟩ := h
 refine ⟨A, n, c, css, h1, h2, h3, h4, h5, h6, h7.more hB, fun i x hx => ?_⟩
 obtain ⟨cs, q1, q2⟩ := h8 i x hx
 exact ⟨cs, q1, hR cs x q2⟩
theorem NodeAt.keep {cs : List Value} {x : NodeD} (h : NodeAt w B cs x) (hk : ∀ p : Addr, p.block < B → w'.cell? p = w.cell? p) : NodeAt w' B cs x := by
 obtain ⟨av, h1, h2⟩ := h
 exact ⟨av, h1, h2.keep hk⟩
theorem NodeAt.more {cs : List Value} {x : NodeD} (h : NodeAt w B cs x) (hB : B ≤ B') : NodeAt w B' cs x := by
 obtain ⟨av, h1, h2⟩ := h
 exact ⟨av, h1, h2.more hB⟩
theorem GraphAt.keep {cs : List Value} {x : GraphD} (h : GraphAt w B cs x) (hk : ∀ p : Addr, p.block < B → w'.cell? p = w.cell? p) : GraphAt w' B cs x := by
 obtain ⟨pv, kv, iv, nv, h1, h2, h3, h4, h5⟩ := h
 exact ⟨pv, kv, iv, nv, h1, h2.keep hk, h3.keep hk, h4.keep hk, h5.keep hk fun _ _ h => h.keep hk⟩
theorem GraphAt.more {cs : List Value} {x : GraphD} (h : GraphAt w B cs x) (hB : B ≤ B') : GraphAt w B' cs x := by
 obtain ⟨pv, kv, iv, nv, h1, h2, h3, h4, h5⟩ := h
 exact ⟨pv, kv, iv, nv, h1, h2.more hB, h3.more hB, h4.more hB, h5.more hB fun _ _ h => h.more hB⟩
theorem GraphsAt.keep {gs : List GraphD} (h : GraphsAt w B v gs) (hk : ∀ p : Addr, p.block < B → w'.cell? p = w.cell? p) : GraphsAt w' B v gs := RowsAt.keep h hk fun _ _ h => h.keep hk
theorem GraphsAt.more {gs : List GraphD} (h : GraphsAt w B v gs) (hB : B ≤ B') : GraphsAt w B' v gs := RowsAt.more h hB fun _ _ h => h.more hB
theorem GraphsAt.below {gs : List GraphD} (h : GraphsAt w B v gs) (hb : Below B w w') : GraphsAt w' B v gs := h.keep fun _ hp => hb.cell hp
theorem NodeAt.below {cs : List Value} {x : NodeD} (h : NodeAt w B cs x) (hb : Below B w w') : NodeAt w' B cs x := h.keep fun _ hp => hb.cell hp
end
theorem flatten_get (css : List (List Value)) (size k : Nat) (cs : List Value) (h : css[k]? = some cs) (hs : ∀ c ∈ css, c.length = size) (j : Nat) (hj : j < size) : css.flatten[k * size + j]? = cs[j]? := by
 induction css generalizing k with
 | nil => simp at h
 | cons x r ih =>
  have hx := hs x List.mem_cons_self
  cases k with
  | zero =>
   simp at h; subst h
   rw [List.flatten_cons, Nat.zero_mul, Nat.zero_add, List.getElem?_append_left (by omega)]
  | succ k =>
   have h' := ih k (by simpa using h) (fun c hc => hs c (List.mem_cons_of_mem _ hc))
   rw [List.flatten_cons, List.getElem?_append_right (by rw [hx, Nat.add_mul]; omega), hx, show (k + 1) * size + j - size = k * size + j by rw [Nat.add_mul]; omega]
   exact h'
/-- a thing's cells, one by one -/
theorem RowsAt.at_ {α : Type} {size : Nat} {R : World → Nat → List Value → α → Prop} {w : World} {B : Nat} {A : Option Addr} {n c : Nat} {l : List α} (h : RowsAt size R w B (.slice A n c) l) {k : Nat} {x : α} (hk : l[k]? = some x) :
  ∃ ad cs, A = some ad ∧ ad.block < B ∧ k < n ∧ cs.length = size ∧ R w B cs x ∧ (∀ u, cs[0]? = some u → w.cell? (ad.add (k * size)) = some u) ∧ ∀ j u, 0 < j → cs[j]? = some u → w.cell? ⟨(ad.add (k * size)).block, (ad.add (k * size)).off + j, none⟩ = some u := by
 obtain ⟨A', n', c', css, h1, h2, h3, h4, h5, h6, h7, h8⟩ := h
 injection h1 with e1 e2 e3
 subst e1 e2 e3
 obtain ⟨cs, q1, q2⟩ := h8 k x hk
 have hkn : k < n := by have := (List.getElem?_eq_some_iff.1 hk).1; omega
 have hsz := h6 cs (List.mem_of_getElem? q1)
 obtain ⟨ad, e, hlt, hc⟩ := h7.2 (by omega)
 refine ⟨ad, cs, e, hlt, hkn, hsz, q2, fun u hu => ?_, fun j u hj hu => ?_⟩
 ·have hp : 0 < size := by rw [← hsz]; exact (List.getElem?_eq_some_iff.1 hu).1
  have := hc (k * size + 0) u (by rw [flatten_get css size k cs q1 h6 0 hp]; exact hu)
  simpa using this
 ·rw [addr_sub ad (k * size) j hj]
  exact hc _ _ (by rw [flatten_get css size k cs q1 h6 j (by rw [← hsz]; exact (List.getElem?_eq_some_iff.1 hu).1)]; exact hu)
/-- a graph's cells at an address -/
structure GraphM (w : World) (B : Nat) (ga : Addr) (g : GraphD) (pv kv iv nv : Value) : Prop where
 lt : ga.block < B
 c0 : w.cell? ga = some pv
 c1 : w.cell? ⟨ga.block, ga.off + 1, none⟩ = some kv
 c2 : w.cell? ⟨ga.block, ga.off + 2, none⟩ = some (.int .i64 g.cells)
 c3 : w.cell? ⟨ga.block, ga.off + 3, none⟩ = some iv
 c4 : w.cell? ⟨ga.block, ga.off + 4, none⟩ = some (.bool g.result)
 c5 : w.cell? ⟨ga.block, ga.off + 5, none⟩ = some (.int .i64 g.keep)
 c6 : w.cell? ⟨ga.block, ga.off + 6, none⟩ = some nv
 c7 : w.cell? ⟨ga.block, ga.off + 7, none⟩ = some (.int .i64 g.entry)
 params : NumsAt .i64 w B pv g.params
 kinds : NumsAt .u8 w B kv g.kinds
 init : NumsAt .i64 w B iv g.init
 nodes : RowsAt 12 NodeAt w B nv g.nodes
theorem GraphM.keep {w w' : World} {B : Nat} {ga : Addr} {g : GraphD} {pv kv iv nv : Value} (h : GraphM w B ga g pv kv iv nv) (hk : ∀ p : Addr, p.block < B → w'.cell? p = w.cell? p) : GraphM w' B ga g pv kv iv nv :=
 ⟨h.lt, (hk _ h.lt).trans h.c0, (hk ⟨ga.block, _, none⟩ h.lt).trans h.c1, (hk ⟨ga.block, _, none⟩ h.lt).trans h.c2, (hk ⟨ga.block, _, none⟩ h.lt).trans h.c3, (hk ⟨ga.block, _, none⟩ h.lt).trans h.c4, (hk ⟨ga.block, _, none⟩ h.lt).trans h.c5, (hk ⟨ga.block, _, none⟩ h.lt).trans h.c6, (hk ⟨ga.block, _, none⟩ h.lt).trans h.c7, h.params.keep hk, h.kinds.keep hk, h.init.keep hk, h.nodes.keep hk fun _ _ h => h.keep hk⟩
theorem GraphM.below {w w' : World} {B : Nat} {ga : Addr} {g : GraphD} {pv kv iv nv : Value} (h : GraphM w B ga g pv kv iv nv) (hb : Below B w w') : GraphM w' B ga g pv kv iv nv := h.keep fun _ hp => hb.cell hp
theorem block_add (ad : Addr) (m : Nat) : (ad.add m).block = ad.block := by
 unfold Addr.add
 split <;> rfl
theorem GraphsAt.at_ {w : World} {B : Nat} {A : Option Addr} {n c : Nat} {gs : List GraphD} (h : GraphsAt w B (.slice A n c) gs) {k : Nat} {g : GraphD} (hk : gs[k]? = some g) :
  ∃ ad pv kv iv nv, A = some ad ∧ k < n ∧ GraphM w B (ad.add (k * 8)) g pv kv iv nv := by
 obtain ⟨ad, cs, e, hlt, hkn, hsz, hR, h0, hj⟩ := RowsAt.at_ h hk
 obtain ⟨pv, kv, iv, nv, rfl, h1, h2, h3, h4⟩ := hR
 exact ⟨ad, pv, kv, iv, nv, e, hkn, ⟨by rw [block_add]; exact hlt, h0 _ rfl, hj 1 _ (by omega) rfl, hj 2 _ (by omega) rfl, hj 3 _ (by omega) rfl, hj 4 _ (by omega) rfl, hj 5 _ (by omega) rfl, hj 6 _ (by omega) rfl, hj 7 _ (by omega) rfl, h1, h2, h3, h4⟩⟩
theorem GraphsAt.slice {w : World} {B : Nat} {v : Value} {gs : List GraphD} (h : GraphsAt w B v gs) : ∃ A c, v = .slice A gs.length c ∧ gs.length ≤ c ∧ c ≤ maxLen := by
 obtain ⟨A, n, c, css, rfl, h2, h3, h4, _⟩ := h
 exact ⟨A, c, by rw [h4], by omega, h3⟩
theorem NumsAt.slice {k : IntKind} {w : World} {B : Nat} {v : Value} {l : List Int} (h : NumsAt k w B v l) : ∃ A c, v = .slice A l.length c ∧ l.length ≤ c ∧ c ≤ maxLen ∧ Reads w B 1 A l.length (l.map (Value.int k)) := by
 obtain ⟨A, n, c, rfl, h2, h3, h4, h5⟩ := h
 subst h4
 exact ⟨A, c, rfl, h2, h3, h5⟩
/-- a checker of a graph -/
structure Ck (w : World) (B cb : Nat) (allv : Value) (gs : List GraphD) (ga : Addr) (g : GraphD) (pv kv iv nv : Value) (bound : Bool) : Prop where
 blk : Blk w cb 93 #[allv, .pointer (some ga), .bool bound]
 le : B ≤ cb
 all : GraphsAt w B allv gs
 gm : GraphM w B ga g pv kv iv nv
theorem Ck.below {w w' : World} {B cb : Nat} {allv : Value} {gs : List GraphD} {ga : Addr} {g : GraphD} {pv kv iv nv : Value} {bound : Bool} (h : Ck w B cb allv gs ga g pv kv iv nv bound) (hb : Below w.heap.size w w') : Ck w' B cb allv gs ga g pv kv iv nv bound :=
 ⟨h.blk.below hb h.blk.lt, h.le, h.all.below (hb.mono (by have := h.le; have := h.blk.lt; omega)), h.gm.below (hb.mono (by have := h.le; have := h.blk.lt; omega))⟩
end Go.Proofs.YtnfjjliiajaijaaDoor
namespace Go.Proofs.YtnfjjliiajaijaaDoor
open Go.RowKit

def cellB (g : GraphD) (n : Int) : Bool := decide (0 ≤ n) && decide (n < g.cells)
def fitsB (g : GraphD) (bound : Bool) (k p : Int) : Bool := decide (0 ≤ p) && decide (p < g.kinds.length) && (bound || decide (g.kinds.getD p.toNat 0 = k))
def isB (g : GraphD) (bound : Bool) (k : Int) (ps : List Int) : Bool := ps.all (fitsB g bound k)
section
variable {w : World} {B cb : Nat} {allv : Value} {gs : List GraphD} {ga : Addr} {g : GraphD} {pv kv iv nv : Value} {bound : Bool}
theorem cell_any (h : Ck w B cb allv gs ga g pv kv iv nv bound) (n : Int) :
  Calls Tryd.prog 51 #[.pointer (some ⟨cb, 0, none⟩), .int .i64 n] w fun e w' => e = .returned (.bool (cellB g n)) ∧ w = w' := by
 have kc1 := Blk.cell h.blk 1
 simp only [List.getElem?_toArray, List.getElem?_cons_zero, List.getElem?_cons_succ] at kc1
 have k2 := h.gm.c2
 clear h
 obtain ⟨r, hr⟩ : ∃ r, cellB g n = r := ⟨_, rfl⟩
 have hcase : (¬ 0 ≤ n ∧ r = false) ∨ (0 ≤ n ∧ ¬ n < g.cells ∧ r = false) ∨ (0 ≤ n ∧ n < g.cells ∧ r = true) := by
  rw [← hr]
  unfold cellB
  by_cases h1 : 0 ≤ n
  ·by_cases h2 : n < g.cells
   ·exact .inr (.inr ⟨h1, h2, by simp [h1, h2]⟩)
   ·exact .inr (.inl ⟨h1, h2, by simp [h2]⟩)
  ·exact .inl ⟨h1, by simp [h1]⟩
 rw [hr]
 clear hr
 rcases hcase with ⟨c0, rfl⟩ | ⟨c0, c1, rfl⟩ | ⟨c0, c1, rfl⟩
 all_goals
  go_enter Tryd.func51, Tryd.ntmps51
  go_wp2_with fail
  go_ret
  exact ⟨rfl, rfl⟩
theorem is_any (h : Ck w B cb allv gs ga g pv kv iv nv bound) (k : Int) (D : Nat) (A : Option Addr) (m c : Nat) (ps : List Int) (hP : Reads w D 1 A m (ps.map (Value.int .i64))) (hm : ps.length = m) (hmc : m ≤ 140737488351232) :
  Calls Tryd.prog 53 #[.pointer (some ⟨cb, 0, none⟩), .int .u8 k, .slice A m c] w fun e w' => e = .returned (.bool (isB g bound k ps)) ∧ w = w' := by
 have kc1 := Blk.cell h.blk 1
 have kc2 := Blk.cell h.blk 2
 simp only [List.getElem?_toArray, List.getElem?_cons_zero, List.getElem?_cons_succ] at kc1 kc2
 obtain ⟨KA, kc', hkv, _, _, hK⟩ := h.gm.kinds.slice
 subst hkv
 have k1 := h.gm.c1
 obtain ⟨r, hr⟩ : ∃ r, isB g bound k ps = r := ⟨_, rfl⟩
 rw [hr]
 obtain ⟨L, hL⟩ : ∃ L, g.kinds.length = L := ⟨_, rfl⟩
 rw [hL] at k1 hK
 obtain ⟨H, HP, Hm, Hr, HK, HL⟩ := hd6 h hP hm hr hK hL
 clear hL hK hr hm hP h
 go_enter Tryd.func53, Tryd.ntmps53
 go_wp2_with fail
 go_loopw [11] (fun i wq => ∃ j : Nat, j ≤ m ∧ i = .int .i64 j ∧ wq = w ∧ Hid (∀ p ∈ ps.take j, fitsB g bound k p = true)) (fun i _ => m - (intOf i).toNat)
 case atStart => exact ⟨0, by omega, rfl, rfl, (show ∀ p ∈ ps.take 0, fitsB g bound k p = true from fun p hp => by simp at hp)⟩
 case round =>
  obtain ⟨j, hj, rfl, hwr, hall⟩ := hrel
  subst hwr
  by_cases hjm : j < m
  ·obtain ⟨ad, u0, hA, _, hu0, hce⟩ := HP.out.at_ hjm
   subst hA
   obtain ⟨p, hpj, rfl⟩ : ∃ p, ps[j]? = some p ∧ u0 = .int .i64 p := by
    rw [List.getElem?_map, Option.map_eq_some_iff] at hu0
    obtain ⟨x, h1, h2⟩ := hu0
    exact ⟨x, h1, h2.symm⟩
   have hmem := List.mem_of_getElem? hpj
   have hstep : fitsB g bound k p = true → ∀ q ∈ ps.take (j + 1), fitsB g bound k q = true := fun hf q hq => by
    rw [List.take_add_one, hpj] at hq
    rcases List.mem_append.1 hq with hq | hq
    ·exact hall.out q hq
    ·simp at hq; rw [hq]; exact hf
   have hbad : fitsB g bound k p = false → r = false := fun hf => by
    rw [← Hr.out]
    unfold isB
    rcases hh : ps.all (fitsB g bound k) with _ | _
    ·rfl
    ·rw [List.all_eq_true.1 hh p hmem] at hf; cases hf
   by_cases c0 : 0 ≤ p
   ·obtain ⟨P, rfl⟩ := Int.eq_ofNat_of_zero_le c0
    have c0' : ¬ (P : Int) < 0 := by omega
    clear c0
    by_cases c1 : P < L
    ·have c1' : ¬ (L : Int) ≤ P := by omega
     have c1'' : (P : Int) < L := by omega
     obtain ⟨kad, ku, hkA, _, hku, hkc⟩ := HK.out.at_ c1
     subst hkA
     obtain ⟨kk, hkk, rfl⟩ : ∃ kk, g.kinds[P]? = some kk ∧ ku = .int .u8 kk := by
      rw [List.getElem?_map, Option.map_eq_some_iff] at hku
      obtain ⟨x, h1, h2⟩ := hku
      exact ⟨x, h1, h2.symm⟩
     have hfit : fitsB g bound k P = (bound || decide (kk = k)) := by
      unfold fitsB
      rw [HL.out, Int.toNat_natCast, List.getD_eq_getElem?_getD, hkk, Option.getD_some]
      simp [c1]
     rw [hfit] at hstep hbad
     clear hu0 hku
     cases bound
     ·by_cases c2 : kk = k
      ·have c2' : (kk != k) = false := by simp [c2]
       have hs := hstep (by simp [c2])
       obtain ⟨Hs, Hall, Hpj, Hmem, Hkk, Hfit, Hstep, Hbad⟩ := hd8 hs hall hpj hmem hkk hfit hstep hbad
       have Hc2 := Lib.hid c2
       clear c2 hbad hstep hfit hkk hmem hpj hall hs
       go_wp2_with fail
       exact ⟨⟨j + 1, by omega, by go_num, trivial, Lib.hid Hs.out⟩, by simp [intOf]; omega⟩
      ·have c2' : (kk != k) = true := by simp [c2]
       have hs := hbad (by simp [c2])
       obtain ⟨Hs, Hall, Hpj, Hmem, Hkk, Hfit, Hstep, Hbad⟩ := hd8 hs hall hpj hmem hkk hfit hstep hbad
       have Hc2 := Lib.hid c2
       clear c2 hbad hstep hfit hkk hmem hpj hall hs
       go_wp2_with fail
       go_ret
       rw [Hs.out]
       exact ⟨rfl, rfl⟩
     ·have hs := hstep rfl
      obtain ⟨Hs, Hall, Hpj, Hmem, Hkk, Hfit, Hstep, Hbad⟩ := hd8 hs hall hpj hmem hkk hfit hstep hbad
      clear hbad hstep hfit hkk hmem hpj hall hs
      go_wp2_with fail
      exact ⟨⟨j + 1, by omega, by go_num, trivial, Lib.hid Hs.out⟩, by simp [intOf]; omega⟩
    ·have c1' : (L : Int) ≤ P := by omega
     have hs := hbad (by unfold fitsB; rw [HL.out]; simp [c1])
     obtain ⟨Hs, Hall, Hpj, Hmem, Hstep, Hbad⟩ := hd6 hs hall hpj hmem hstep hbad
     clear hbad hstep hmem hpj hall hs
     clear hu0
     go_wp2_with fail
     go_ret
     rw [Hs.out]
     exact ⟨rfl, rfl⟩
   ·have c0' : p < 0 := by omega
    have hs := hbad (by unfold fitsB; simp [c0])
    obtain ⟨Hs, Hall, Hpj, Hmem, Hstep, Hbad, Hc0⟩ := hd7 hs hall hpj hmem hstep hbad c0
    clear c0 hbad hstep hmem hpj hall hs
    clear hu0
    go_wp2_with fail
    go_ret
    rw [Hs.out]
    exact ⟨rfl, rfl⟩
  ·have hs : r = true := by
    rw [← Hr.out]
    unfold isB
    rw [List.take_of_length_le (by rw [Hm.out]; omega)] at hall
    exact List.all_eq_true.2 hall.out
   obtain ⟨Hs, Hall⟩ := hd2 hs hall
   clear hall hs
   go_wp2_with fail
   go_ret
   rw [Hs.out]
   exact ⟨rfl, rfl⟩
end
theorem index_any (w : World) (D : Nat) (A : Option Addr) (m c : Nat) (ps : List Int) (hP : Reads w D 1 A m (ps.map (Value.int .i64))) (hm : ps.length = m) (hmc : m ≤ 140737488351232) (x : Int) :
  Calls Tryd.prog 83 #[.slice A m c, .int .i64 x] w fun e w' => (∃ n : Int, e = .returned (.int .i64 n) ∧ (0 ≤ n ↔ x ∈ ps)) ∧ w = w' := by
 obtain ⟨HP, Hm⟩ := hd2 hP hm
 clear hm hP
 go_enter Tryd.func83, Tryd.ntmps83
 go_wp2_with fail
 go_loopw [8] (fun i wq => ∃ j : Nat, j ≤ m ∧ i = .int .i64 j ∧ wq = w ∧ Hid (x ∉ ps.take j)) (fun i _ => m - (intOf i).toNat)
 case atStart => exact ⟨0, by omega, rfl, rfl, (show x ∉ ps.take 0 by simp)⟩
 case round =>
  obtain ⟨j, hj, rfl, hwr, hall⟩ := hrel
  subst hwr
  by_cases hjm : j < m
  ·obtain ⟨ad, u0, hA, _, hu0, hce⟩ := HP.out.at_ hjm
   subst hA
   obtain ⟨p, hpj, rfl⟩ : ∃ p, ps[j]? = some p ∧ u0 = .int .i64 p := by
    rw [List.getElem?_map, Option.map_eq_some_iff] at hu0
    obtain ⟨x, h1, h2⟩ := hu0
    exact ⟨x, h1, h2.symm⟩
   have hmem := List.mem_of_getElem? hpj
   by_cases hx : x = p
   ·have hb : (x == p) = true := by simp [hx]
    have hin : x ∈ ps := hx ▸ hmem
    obtain ⟨Hall, Hpj, Hmem, Hx, Hin⟩ := hd5 hall hpj hmem hx hin
    clear hin hx hmem hpj hall
    clear hu0
    go_wp2_with fail
    go_ret
    exact ⟨⟨j, rfl, by simp [Hin.out]⟩, rfl⟩
   ·have hb : (x == p) = false := by simp [hx]
    have hs : x ∉ ps.take (j + 1) := by
     rw [List.take_add_one, hpj]
     simp only [Option.toList, List.mem_append, List.mem_singleton]
     rintro (h | h)
     ·exact hall.out h
     ·exact hx h
    obtain ⟨Hall, Hpj, Hmem, Hx, Hs⟩ := hd5 hall hpj hmem hx hs
    clear hs hx hmem hpj hall
    clear hu0
    go_wp2_with fail
    exact ⟨⟨j + 1, by omega, by go_num, trivial, Lib.hid Hs.out⟩, by simp [intOf]; omega⟩
  ·have hs : x ∉ ps := by
    rw [List.take_of_length_le (by rw [Hm.out]; omega)] at hall
    exact hall.out
   obtain ⟨Hs, Hall⟩ := hd2 hs hall
   clear hall hs
   go_wp2_with fail
   go_ret
   exact ⟨⟨-1, rfl, by simp [Hs.out]⟩, rfl⟩
theorem contains_any (w : World) (D : Nat) (A : Option Addr) (m c : Nat) (ps : List Int) (hP : Reads w D 1 A m (ps.map (Value.int .i64))) (hm : ps.length = m) (hmc : m ≤ 140737488351232) (x : Int) :
  Calls Tryd.prog 52 #[.slice A m c, .int .i64 x] w fun e w' => e = .returned (.bool (decide (x ∈ ps))) ∧ w = w' := by
 obtain ⟨HP, Hm⟩ := hd2 hP hm
 clear hm hP
 go_enter Tryd.func52, Tryd.ntmps52
 go_wp2_with fail
 refine (index_any w D A m c ps HP.out Hm.out hmc x).mono ?_
 rintro e w1 ⟨⟨n, rfl, hn⟩, rfl⟩
 have Hn := Lib.hid hn
 clear hn
 go_wp2_with fail
 go_ret
 exact ⟨by simp [Hn.out], rfl⟩
theorem ptr_any (w : World) (k : Int) : Calls Tryd.prog 50 #[.int .u8 k] w fun e w' => e = .returned (.bool (decide (1 < k))) ∧ w = w' := by
 go_enter Tryd.func50, Tryd.ntmps50
 go_wp2_with fail
 go_ret
 exact ⟨rfl, rfl⟩
end Go.Proofs.YtnfjjliiajaijaaDoor
namespace Go.Proofs.YtnfjjliiajaijaaDoor
open Go.RowKit

def nextL (x : NodeD) : List Int := if x.op = 12 ∨ x.op = 14 ∨ x.op = 18 then [] else if x.op = 9 ∧ x.els ≠ x.next then [x.next, x.els] else if x.op < 1 ∨ 18 < x.op then [] else [x.next]
/-- a list answered: it lies somewhere, and holds these numbers -/
def Lst (w : World) (v : Value) (l : List Int) : Prop := ∃ A c, v = .slice A l.length c ∧ l.length ≤ c ∧ c ≤ maxLen ∧ Reads w w.heap.size 1 A l.length (l.map (Value.int .i64))
theorem Lst.nil (w : World) : Lst w (.slice none 0 0) [] := ⟨none, 0, rfl, Nat.le_refl _, by unfold maxLen; simp, Reads.none_⟩
theorem Lst.below {w w' : World} {v : Value} {l : List Int} (h : Lst w v l) (hb : Below w.heap.size w w') : Lst w' v l := by
 obtain ⟨A, c, h1, h2, h3, h4⟩ := h
 exact ⟨A, c, h1, h2, h3, (h4.below hb).more hb.size⟩
theorem Reads.newL (w : World) (t : TypeId) (l : List Value) : Reads (w.alloc (.cells l.toArray t)) (w.heap.size + 1) 1 (some ⟨w.heap.size, 0, none⟩) l.length l := by
 refine ⟨by simp, fun _ => ⟨_, rfl, by simp, fun j u hu => ?_⟩⟩
 have h := (Blk.new w t l.toArray).cell j
 rw [Addr.add_mid, Nat.zero_add, h, List.getElem?_toArray, hu]
theorem Lst.new (w : World) (t : TypeId) (l : List Int) (hl : l.length ≤ 100) {g n : Nat} {cs : Array Value} (hg : g = w.heap.size) (hn : n = l.length) (hc : cs = (l.map (Value.int .i64)).toArray) : Lst (w.alloc (.cells cs t)) (.slice (some ⟨g, 0, none⟩) n n) l := by
 subst hg hn hc
 refine ⟨_, _, rfl, Nat.le_refl _, by unfold maxLen; omega, ?_⟩
 have h := Reads.newL w t (l.map (Value.int .i64))
 rw [List.length_map] at h
 simpa using h
theorem next_any (w : World) (x : NodeD) (av : Value) :
  Calls Tryd.prog 54 #[.agg (ncells x av).toArray] w fun e w' => (∃ v, e = .returned v ∧ Lst w' v (nextL x)) ∧ Below w.heap.size w w' := by
 obtain ⟨op, byo, d, e, a, b, f, cell, imm, args, next, els⟩ := x
 have hP := Blk.new w 55 #[.int .u8 op, .int .u8 byo, .int .i64 d, .int .i64 e, .int .i64 a, .int .i64 b, .int .i64 f, .int .i64 cell, .int .u64 imm, av, .int .i64 next, .int .i64 els]
 have kp0 := Blk.cell hP 0
 have kp10 := Blk.cell hP 10
 have kp11 := Blk.cell hP 11
 simp only [List.getElem?_toArray, List.getElem?_cons_zero, List.getElem?_cons_succ] at kp0 kp10 kp11
 have hb := (Below.refl w.heap.size w).alloc (Nat.le_refl _) (.cells #[.int .u8 op, .int .u8 byo, .int .i64 d, .int .i64 e, .int .i64 a, .int .i64 b, .int .i64 f, .int .i64 cell, .int .u64 imm, av, .int .i64 next, .int .i64 els] 55)
 simp only [ncells]
 obtain ⟨N, hN⟩ : ∃ N, nextL ⟨op, byo, d, e, a, b, f, cell, imm, args, next, els⟩ = N := ⟨_, rfl⟩
 rw [hN]
 unfold nextL at hN
 simp only at hN
 by_cases e12 : op = 12 ∨ op = 14 ∨ op = 18
 ·rw [if_pos e12] at hN
  subst hN
  obtain ⟨Hb, HP⟩ := hd2 hb hP
  clear hP hb
  rcases e12 with rfl | rfl | rfl
  all_goals
   go_enter Tryd.func54, Tryd.ntmps54
   go_wp2_with fail
   go_ret
   exact ⟨⟨_, rfl, Lst.nil _⟩, Hb.out⟩
 ·rw [if_neg e12] at hN
  have b12 : (op == 12) = false := by rw [beq_eq_false_iff_ne]; omega
  have b14 : (op == 14) = false := by rw [beq_eq_false_iff_ne]; omega
  have b18 : (op == 18) = false := by rw [beq_eq_false_iff_ne]; omega
  by_cases e9 : op = 9
  ·subst e9
   by_cases en : els = next
   ·have bn : (els != next) = false := by simp [en]
    rw [if_neg (fun h => h.2 en), if_neg (by omega)] at hN
    subst hN
    obtain ⟨Hb, HP, Hen, He12⟩ := hd4 hb hP en e12
    clear e12 en hP hb
    go_enter Tryd.func54, Tryd.ntmps54
    go_wp2_with fail
    go_ret
    exact ⟨⟨_, rfl, Lst.new _ _ [next] (by simp) (by simp) rfl rfl⟩, Hb.out.alloc Hb.out.size _⟩
   ·have bn : (els != next) = true := by simp [en]
    rw [if_pos ⟨rfl, en⟩] at hN
    subst hN
    obtain ⟨Hb, HP, Hen, He12⟩ := hd4 hb hP en e12
    clear e12 en hP hb
    go_enter Tryd.func54, Tryd.ntmps54
    go_wp2_with fail
    go_ret
    exact ⟨⟨_, rfl, Lst.new _ _ [next, els] (by simp) (by simp) rfl rfl⟩, Hb.out.alloc Hb.out.size _⟩
  ·have b9 : (op == 9) = false := by rw [beq_eq_false_iff_ne]; omega
   rw [if_neg (fun h => e9 h.1)] at hN
   have hcase : (op < 1 ∧ N = []) ∨ (¬ op < 1 ∧ 18 < op ∧ N = []) ∨ (¬ op < 1 ∧ ¬ 18 < op ∧ N = [next]) := by
    by_cases h1 : op < 1
    ·rw [if_pos (.inl h1)] at hN; exact .inl ⟨h1, hN.symm⟩
    ·by_cases h2 : 18 < op
     ·rw [if_pos (.inr h2)] at hN; exact .inr (.inl ⟨h1, h2, hN.symm⟩)
     ·rw [if_neg (by omega)] at hN; exact .inr (.inr ⟨h1, h2, hN.symm⟩)
   obtain ⟨Hb, HP, He12, He9, HN⟩ := hd5 hb hP e12 e9 hN
   clear hN e9 e12 hP hb
   rcases hcase with ⟨h1, rfl⟩ | ⟨h1, h2, rfl⟩ | ⟨h1, h2, rfl⟩
   ·go_enter Tryd.func54, Tryd.ntmps54
    go_wp2_with fail
    go_ret
    exact ⟨⟨_, rfl, Lst.nil _⟩, Hb.out⟩
   ·go_enter Tryd.func54, Tryd.ntmps54
    go_wp2_with fail
    go_ret
    exact ⟨⟨_, rfl, Lst.nil _⟩, Hb.out⟩
   ·go_enter Tryd.func54, Tryd.ntmps54
    go_wp2_with fail
    go_ret
    exact ⟨⟨_, rfl, Lst.new _ _ [next] (by simp) (by simp) rfl rfl⟩, Hb.out.alloc Hb.out.size _⟩
theorem indexFunc_any (w : World) (D : Nat) (A : Option Addr) (m c : Nat) (ks : List Int) (hP : Reads w D 1 A m (ks.map (Value.int .u8))) (hm : ks.length = m) (hmc : m ≤ 140737488351232) :
  Calls Tryd.prog 82 #[.slice A m c, .func (.func 50) #[] #[]] w fun e w' => (∃ n : Int, e = .returned (.int .i64 n) ∧ (0 ≤ n ↔ ∃ k ∈ ks, 1 < k)) ∧ w = w' := by
 obtain ⟨HP, Hm⟩ := hd2 hP hm
 clear hm hP
 go_enter Tryd.func82, Tryd.ntmps82
 go_wp2_with fail
 go_loopw [8] (fun i wq => ∃ j : Nat, j ≤ m ∧ i = .int .i64 j ∧ wq = w ∧ Hid (¬ ∃ k ∈ ks.take j, 1 < k)) (fun i _ => m - (intOf i).toNat)
 case atStart => exact ⟨0, by omega, rfl, rfl, (show ¬ ∃ k ∈ ks.take 0, 1 < k by simp)⟩
 case round =>
  obtain ⟨j, hj, rfl, hwr, hall⟩ := hrel
  subst hwr
  by_cases hjm : j < m
  ·obtain ⟨ad, u0, hA, _, hu0, hce⟩ := HP.out.at_ hjm
   subst hA
   obtain ⟨p, hpj, rfl⟩ : ∃ p, ks[j]? = some p ∧ u0 = .int .u8 p := by
    rw [List.getElem?_map, Option.map_eq_some_iff] at hu0
    obtain ⟨x, h1, h2⟩ := hu0
    exact ⟨x, h1, h2.symm⟩
   have hmem := List.mem_of_getElem? hpj
   clear hu0
   by_cases hx : 1 < p
   ·have hin : ∃ k ∈ ks, 1 < k := ⟨p, hmem, hx⟩
    obtain ⟨Hall, Hpj, Hmem, Hin⟩ := hd4 hall hpj hmem hin
    clear hin hmem hpj hall
    go_wp2_with fail
    refine (ptr_any _ p).mono ?_
    rintro e w1 ⟨rfl, rfl⟩
    go_wp2_with fail
    go_ret
    exact ⟨⟨j, rfl, by simp [Hin.out]⟩, rfl⟩
   ·have hs : ¬ ∃ k ∈ ks.take (j + 1), 1 < k := by
     rw [List.take_add_one, hpj]
     rintro ⟨k, hk, h1⟩
     simp only [Option.toList, List.mem_append, List.mem_singleton] at hk
     rcases hk with h | h
     ·exact hall.out ⟨k, h, h1⟩
     ·exact hx (h ▸ h1)
    obtain ⟨Hall, Hpj, Hmem, Hs⟩ := hd4 hall hpj hmem hs
    clear hs hmem hpj hall
    go_wp2_with fail
    refine (ptr_any _ p).mono ?_
    rintro e w1 ⟨rfl, rfl⟩
    go_wp2_with fail
    exact ⟨⟨j + 1, by omega, by go_num, trivial, Lib.hid Hs.out⟩, by simp [intOf]; omega⟩
  ·have hs : ¬ ∃ k ∈ ks, 1 < k := by
    rw [List.take_of_length_le (by rw [Hm.out]; omega)] at hall
    exact hall.out
   obtain ⟨Hs, Hall⟩ := hd2 hs hall
   clear hall hs
   go_wp2_with fail
   go_ret
   exact ⟨⟨-1, rfl, by simp [Hs.out]⟩, rfl⟩
theorem containsFunc_any (w : World) (D : Nat) (A : Option Addr) (m c : Nat) (ks : List Int) (hP : Reads w D 1 A m (ks.map (Value.int .u8))) (hm : ks.length = m) (hmc : m ≤ 140737488351232) :
  Calls Tryd.prog 49 #[.slice A m c, .func (.func 50) #[] #[]] w fun e w' => e = .returned (.bool (ks.any fun k => decide (1 < k))) ∧ w = w' := by
 obtain ⟨HP, Hm⟩ := hd2 hP hm
 clear hm hP
 go_enter Tryd.func49, Tryd.ntmps49
 go_wp2_with fail
 refine (indexFunc_any w D A m c ks HP.out Hm.out hmc).mono ?_
 rintro e w1 ⟨⟨n, rfl, hn⟩, rfl⟩
 have hr : decide (0 ≤ n) = ks.any fun k => decide (1 < k) := by
  rw [Bool.eq_iff_iff, decide_eq_true_iff, hn, List.any_eq_true]
  simp
 obtain ⟨Hn, Hr⟩ := hd2 hn hr
 clear hr hn
 go_wp2_with fail
 go_ret
 rw [← Hr.out]
 exact ⟨rfl, rfl⟩
end Go.Proofs.YtnfjjliiajaijaaDoor
namespace Go.Proofs.YtnfjjliiajaijaaDoor

def nodeZ : NodeD := ⟨0, 0, 0, 0, 0, 0, 0, 0, 0, [], 0, 0⟩
def nd (ns : List NodeD) (i : Nat) : NodeD := ns.getD i nodeZ
def hop (ns : List NodeD) (i : Nat) : Nat := if (nd ns i).op = 10 then (nd ns i).next.toNat else i
def hops (ns : List NodeD) : Nat → Nat → Nat
 | 0, i => i
 | k + 1, i => hops ns k (hop ns i)
def minK (ns : List NodeD) (x : Nat) : Nat → Nat
 | 0 => x
 | m + 1 => min (minK ns x m) (hops ns m x)
def thru (ns : List NodeD) (i : Nat) : Nat := if (nd ns (hops ns ns.length i)).op = 10 then minK ns (hops ns ns.length i) ns.length else hops ns ns.length i
def upd (f : Nat → Option Nat) (k v : Nat) : Nat → Option Nat := fun j => if j = k then some v else f j
def cardF (f : Nat → Option Nat) : Nat → Nat
 | 0 => 0
 | n + 1 => cardF f n + if (f n).isSome then 1 else 0
structure LS where
 at_ : Nat → Option Nat
 out : List NodeD
 todo : List Nat
def nopD (i : Nat) : NodeD := ⟨10, 0, 0, 0, 0, 0, 0, 0, 0, [], i, 0⟩
def turned (ns : List NodeD) (x : NodeD) : NodeD := if x.op = 9 then { x with els := (thru ns x.els.toNat : Nat) } else x
def runF (ns : List NodeD) : Nat → LS → Nat → LS
 | 0, s, _ => s
 | fuel + 1, s, i =>
  match s.at_ i with
  | some _ => s
  | none =>
   if (nd ns i).op = 10 then ⟨upd s.at_ i s.out.length, s.out ++ [{ nd ns i with next := i }], s.todo⟩
   else if nextL (nd ns i) = [] then ⟨upd s.at_ i s.out.length, s.out ++ [turned ns (nd ns i)], s.todo⟩
   else
    runF ns fuel ⟨upd s.at_ i s.out.length,
     (s.out ++ [turned ns (nd ns i)]) ++ (if (upd s.at_ i s.out.length (thru ns (nd ns i).next.toNat)).isSome then [nopD (thru ns (nd ns i).next.toNat)] else []),
     if (nd ns i).op = 9 then s.todo ++ [thru ns (nd ns i).els.toNat] else s.todo⟩ (thru ns (nd ns i).next.toNat)
def workF (ns : List NodeD) : Nat → LS → LS
 | 0, s => s
 | f + 1, s => match s.todo with
  | [] => s
  | i :: r => workF ns f (runF ns (ns.length + 1) ⟨s.at_, s.out, r⟩ i)
def fixN (at_ : Nat → Option Nat) (k : Nat) (x : NodeD) : NodeD :=
 let y : NodeD := if x.op = 10 then { x with next := ((at_ x.next.toNat).getD 0 : Nat) } else if nextL x = [] then x else { x with next := k + 1 }
 if x.op = 9 then { y with els := ((at_ x.els.toNat).getD 0 : Nat) } else y
def lineS (ns : List NodeD) (entry : Nat) : LS := workF ns (ns.length + 2) ⟨fun _ => none, [], [thru ns entry]⟩
def lineN (ns : List NodeD) (entry : Nat) : List NodeD := (lineS ns entry).out.mapIdx (fixN (lineS ns entry).at_)
def lineG (g : GraphD) : GraphD := { g with nodes := lineN g.nodes g.entry.toNat, entry := 0 }

/-- jumps lead to nodes -/
def Hop (ns : List NodeD) : Prop := ∀ x ∈ ns, x.op = 10 → 0 ≤ x.next ∧ x.next < ns.length
section
variable {ns : List NodeD}
theorem nd_mem {i : Nat} (h : i < ns.length) : nd ns i ∈ ns := by unfold nd; rw [List.getD_eq_getElem?_getD, List.getElem?_eq_getElem h]; exact List.getElem_mem h
theorem nd_get {i : Nat} (h : i < ns.length) : ns[i]? = some (nd ns i) := by unfold nd; rw [List.getD_eq_getElem?_getD, List.getElem?_eq_getElem h]; rfl
theorem hop_lt (hg : Hop ns) {i : Nat} (hi : i < ns.length) : hop ns i < ns.length := by
 unfold hop
 split
 ·rename_i h
  have := hg _ (nd_mem hi) h
  omega
 ·exact hi
theorem hops_lt (hg : Hop ns) : ∀ (k : Nat) {i : Nat}, i < ns.length → hops ns k i < ns.length
 | 0, _, h => h
 | k + 1, _, h => hops_lt hg k (hop_lt hg h)
theorem hops_add : ∀ (a b i : Nat), hops ns (a + b) i = hops ns b (hops ns a i)
 | 0, b, i => by rw [Nat.zero_add]; rfl
 | a + 1, b, i => by rw [show a + 1 + b = (a + b) + 1 by omega]; exact hops_add a b (hop ns i)
theorem hops_succ (k i : Nat) : hops ns (k + 1) i = hop ns (hops ns k i) := by rw [hops_add k 1 i]; rfl
theorem hop_fix {i : Nat} (h : (nd ns i).op ≠ 10) : hop ns i = i := by unfold hop; rw [if_neg h]
theorem hop_nop {i : Nat} (h : (nd ns i).op = 10) : hop ns i = (nd ns i).next.toNat := by unfold hop; rw [if_pos h]
theorem hops_fix : ∀ (k : Nat) {i : Nat}, (nd ns i).op ≠ 10 → hops ns k i = i
 | 0, _, _ => rfl
 | k + 1, i, h => by
  show hops ns k (hop ns i) = i
  rw [hop_fix h]; exact hops_fix k h
theorem thru_stop {i k : Nat} (hk : k ≤ ns.length) (h : (nd ns (hops ns k i)).op ≠ 10) : thru ns i = hops ns k i := by
 have he : hops ns ns.length i = hops ns k i := by
  rw [show ns.length = k + (ns.length - k) by omega, hops_add]
  exact hops_fix _ h
 unfold thru
 rw [he, if_neg h]
theorem minK_le {x : Nat} : ∀ {m t : Nat}, t < m → minK ns x m ≤ hops ns t x
 | m + 1, t, h => by
  show min _ _ ≤ _
  rcases Nat.lt_or_ge t m with h1 | h1
  ·have := minK_le (x := x) h1; omega
  ·have : t = m := by omega
   subst this; omega
theorem minK_mem {x : Nat} : ∀ m : Nat, ∃ t, t ≤ m ∧ minK ns x m = hops ns t x
 | 0 => ⟨0, Nat.le_refl _, rfl⟩
 | m + 1 => by
  obtain ⟨t, h1, h2⟩ := minK_mem (x := x) m
  show ∃ t, t ≤ m + 1 ∧ min _ _ = _
  rcases Nat.le_total (minK ns x m) (hops ns m x) with h | h
  ·exact ⟨t, by omega, by omega⟩
  ·exact ⟨m, by omega, by omega⟩
theorem ring_mod {x p : Nat} (hr : hops ns p x = x) (t : Nat) : hops ns t x = hops ns (t % p) x := by
 have h : ∀ q r, hops ns (p * q + r) x = hops ns r x := by
  intro q
  induction q with
  | zero => intro r; rw [Nat.mul_zero, Nat.zero_add]
  | succ q ih =>
   intro r
   rw [show p * (q + 1) + r = p + (p * q + r) by rw [Nat.mul_succ]; omega, hops_add, hr]
   exact ih r
 have := h (t / p) (t % p)
 rwa [Nat.div_add_mod] at this
theorem minK_ring {x p s n : Nat} (hp : 0 < p) (hr : hops ns p x = x) (hn : p ≤ n) : minK ns (hops ns s x) n = minK ns x p := by
 have hle : ∀ t, minK ns x p ≤ hops ns t x := fun t => by
  rw [ring_mod hr t]; exact minK_le (Nat.mod_lt _ hp)
 have hr' : hops ns p (hops ns s x) = hops ns s x := by
  rw [← hops_add, show s + p = p + s by omega, hops_add, hr]
 have hle' : ∀ t, minK ns (hops ns s x) n ≤ hops ns t (hops ns s x) := fun t => by
  rw [ring_mod hr' t]; exact minK_le (Nat.lt_of_lt_of_le (Nat.mod_lt _ hp) hn)
 obtain ⟨t, _, ht⟩ := minK_mem (ns := ns) (x := hops ns s x) n
 obtain ⟨u, _, hu⟩ := minK_mem (ns := ns) (x := x) p
 have h1 : minK ns x p ≤ minK ns (hops ns s x) n := by rw [ht, ← hops_add]; exact hle _
 have h2 : minK ns (hops ns s x) n ≤ minK ns x p := by
  -- x's u-th is reached out of its s-th
  have hx : ∃ v, hops ns v (hops ns s x) = hops ns u x := by
   refine ⟨(p - s % p) + u, ?_⟩
   rw [ring_mod hr s, ← hops_add, show s % p + ((p - s % p) + u) = p + u by have := Nat.mod_lt s hp; omega, hops_add, hr]
  obtain ⟨v, hv⟩ := hx
  rw [hu, ← hv]; exact hle' v
 omega
theorem thru_ring {i k p : Nat} (hp : 0 < p) (hk : k ≤ ns.length) (hpn : p ≤ ns.length) (hop : (nd ns (hops ns k i)).op = 10) (hr : hops ns p (hops ns k i) = hops ns k i) : thru ns i = minK ns (hops ns k i) p := by
 have hX : hops ns ns.length i = hops ns (ns.length - k) (hops ns k i) := by rw [← hops_add, show k + (ns.length - k) = ns.length by omega]
 have hn : (nd ns (hops ns ns.length i)).op = 10 := by
  by_cases h : (nd ns (hops ns ns.length i)).op = 10
  ·exact h
  ·exfalso
   rw [hX] at h
   have hf := hops_fix (p - (ns.length - k) % p) h
   rw [← hops_add, ring_mod hr (ns.length - k + (p - (ns.length - k) % p))] at hf
   have hz : (ns.length - k + (p - (ns.length - k) % p)) % p = 0 := by
    have h1 := Nat.div_add_mod (ns.length - k) p
    have h2 := Nat.mod_lt (ns.length - k) hp
    rw [show ns.length - k + (p - (ns.length - k) % p) = p * ((ns.length - k) / p) + p by omega, Nat.mul_add_mod]
    exact Nat.mod_self p
   rw [hz] at hf
   rw [← hf] at h
   exact h hop
 unfold thru
 rw [if_pos hn, hX]
 exact minK_ring hp hr hpn
theorem thru_lt (hg : Hop ns) {i : Nat} (hi : i < ns.length) : thru ns i < ns.length := by
 unfold thru
 split
 ·obtain ⟨t, _, h⟩ := minK_mem (ns := ns) (x := hops ns ns.length i) ns.length
  rw [h]; exact hops_lt hg _ (hops_lt hg _ hi)
 ·exact hops_lt hg _ hi
end
section
variable {f : Nat → Option Nat}
theorem cardF_le : ∀ n, cardF f n ≤ n
 | 0 => Nat.le_refl _
 | n + 1 => by
  have := cardF_le n
  show cardF f n + _ ≤ n + 1
  split <;> omega
theorem cardF_out {k v : Nat} : ∀ {n : Nat}, n ≤ k → cardF (upd f k v) n = cardF f n
 | 0, _ => rfl
 | n + 1, h => by
  show cardF (upd f k v) n + _ = cardF f n + _
  rw [cardF_out (by omega)]
  have : upd f k v n = f n := by unfold upd; rw [if_neg (by omega)]
  rw [this]
theorem cardF_upd {k v : Nat} (hk : f k = none) : ∀ {n : Nat}, k < n → cardF (upd f k v) n = cardF f n + 1
 | n + 1, h => by
  show cardF (upd f k v) n + _ = cardF f n + _ + 1
  rcases Nat.lt_or_ge k n with h1 | h1
  ·rw [cardF_upd hk h1]
   have : upd f k v n = f n := by unfold upd; rw [if_neg (by omega)]
   rw [this]; omega
  ·have e : k = n := by omega
   subst e
   rw [cardF_out (Nat.le_refl _)]
   have : upd f k v k = some v := by unfold upd; rw [if_pos rfl]
   rw [this, hk]; rfl
theorem cardF_room {k : Nat} (hk : f k = none) {n : Nat} (hn : k < n) : cardF f n < n := by
 have h1 := cardF_upd (v := 0) hk hn
 have h2 := cardF_le (f := upd f k 0) n
 omega
theorem upd_at {k v : Nat} : upd f k v k = some v := by unfold upd; rw [if_pos rfl]
theorem upd_ne {k v j : Nat} (h : j ≠ k) : upd f k v j = f j := by unfold upd; rw [if_neg h]
theorem cardF_none : ∀ n, cardF (fun _ => none) n = 0
 | 0 => rfl
 | n + 1 => by show cardF (fun _ => none) n + 0 = 0; rw [cardF_none n]
end
end Go.Proofs.YtnfjjliiajaijaaDoor
namespace Go.Proofs.YtnfjjliiajaijaaDoor
open Go.RowKit Go.Maps

theorem keysI : Keyed Tryd.prog 3 := int_keyed Tryd.underlying3
theorem zeroI (w : World) : (zeroValue 3).run Tryd.prog w = .ok (.int .i64 0) w := by kernel_rfl
theorem wfI (k : Nat) (hk : k < 9223372036854775808) : (Lit.int .i64 (k : Int)).wf = true := by
 simp [Lit.wf, IntKind.min, IntKind.max, IntKind.bits, IntKind.signed]; omega
theorem lit_inj {a b : Int} (h : (DataW.lit (.int .i64 a) : DataW Unit) = .lit (.int .i64 b)) : a = b := by
 simpa using h
theorem keyI (k : Nat) (hk : k < 9223372036854775808) : keyOf Tryd.prog 3 (.int .i64 k) = some (.int .i64 k) := keyOf_int_mk Tryd.underlying3 (wfI k hk)
/-- block b is a map of at most n entries that answers as f does -/
def IMap (w : World) (b n : Nat) (f : Nat → Option Nat) : Prop :=
 ∃ D : DataW Unit, w.ownsMap Tryd.prog 3 (plainElem Tryd.prog 3) b n D ∧
  (∀ k : Nat, (∀ v, f k = some v → Maps.has D (.int .i64 k) = true ∧ ∀ z, D.atKey (.int .i64 k) z = .lit (.int .i64 v)) ∧ (f k = none → Maps.has D (.int .i64 k) = false)) ∧ ∀ kl, Maps.has D kl = true → ∃ k : Nat, kl = .int .i64 k
section
variable {w w' : World} {b n : Nat} {f : Nat → Option Nat}
theorem IMap.made (w : World) : IMap (w.alloc (.map #[] 0)) w.heap.size 0 (fun _ => none) :=
 ⟨_, World.ownsMap_made w Tryd.prog _ _, fun k => ⟨nofun, fun _ => rfl⟩, fun kl h => by cases h⟩
theorem IMap.lt (h : IMap w b n f) : b < w.heap.size := by
 obtain ⟨D, h, _⟩ := h
 exact h.lt
theorem IMap.kept {row : Option Nat} (h : IMap w b n f) (hg : w.grownBy w' row) (hne : some b ≠ row) : IMap w' b n f := by
 obtain ⟨D, h1, h2⟩ := h
 exact ⟨D, h1.kept hg hne, h2⟩
theorem IMap.alloc (h : IMap w b n f) (o : Obj) : IMap (w.alloc o) b n f := h.kept (World.grownBy_alloc w o none) nofun
theorem IMap.drew (h : IMap w b n f) : IMap w.drew b n f := h
theorem IMap.mono (h : IMap w b n f) {n' : Nat} (hn : n ≤ n') : IMap w b n' f := by
 obtain ⟨D, h1, h2⟩ := h
 exact ⟨D, h1.mono hn, h2⟩
theorem IMap.set (h : IMap w b n f) {p : Addr} (hp : b ≠ p.block) (u : Value) : IMap (w.setCell p u) b n f :=
 h.kept (row := some p.block) ⟨rfl, rfl, rfl, by simp [World.setCell], fun k _ hk => Below.heap_setCell w p u k (fun e => hk (by rw [e]))⟩ (fun e => hp (Option.some.inj e))
theorem IMap.below {B : Nat} (h : IMap w b n f) (hb : Below B w w') (hg : b < B) : IMap w' b n f := by
 obtain ⟨D, ⟨es, clock, hh, h1⟩, h2⟩ := h
 exact ⟨D, ⟨es, clock, (hb.block b hg).trans hh, h1⟩, h2⟩
theorem IMap.ne_blk {g : Nat} {t : TypeId} {cs : Array Value} (h : IMap w b n f) (hg : Blk w g t cs) : b ≠ g := by
 rintro rfl
 obtain ⟨D, ⟨es, clock, hh, _⟩, _⟩ := h
 unfold Blk at hg
 rw [hh] at hg
 cases hg
theorem IMap.ne_row {base size m : Nat} {e : TypeId} {v : Value} {xs : List Value} (h : IMap w b n f) (hv : w.ownsRow base e size v m xs) : some b ≠ v.ownBlock := by
 rcases hv.2 with ⟨rfl, _⟩ | ⟨g', cap, cur, rfl, _, hh, _⟩
 ·nofun
 ·intro e
  have e' : b = g' := by simpa [Value.ownBlock] using e
  exact h.ne_blk (show Blk w g' _ _ from hh) e'
theorem IMap.look (h : IMap w b n f) (k : Nat) (hk : k < 9223372036854775808) : (Instr.lookup 64 (.map (some b)) (.int .i64 k) false).run Tryd.prog w = .ok (.int .i64 (((f k).getD 0 : Nat) : Int)) w := by
 obtain ⟨D, h1, h2, h3⟩ := h
 obtain ⟨c, hrun, hat, _⟩ := h1.lookup_int keysI Tryd.underlying64 Tryd.underlying3 (zeroI w) (keyI k hk)
 rw [hrun]
 rcases hf : f k with _ | v
 ·rw [atKey_of_not_has ((h2 k).2 hf)] at hat
  rw [← lit_inj hat]; rfl
 ·rw [((h2 k).1 v hf).2] at hat
  rw [← lit_inj hat]; rfl
theorem IMap.look_ok (h : IMap w b n f) (k : Nat) (hk : k < 9223372036854775808) : (Instr.lookup 64 (.map (some b)) (.int .i64 k) true).run Tryd.prog w = .ok (.tuple #[.int .i64 (((f k).getD 0 : Nat) : Int), .bool (f k).isSome]) w := by
 obtain ⟨D, h1, h2, h3⟩ := h
 obtain ⟨v, ps, hrun, hv⟩ := h1.look_ok keysI Tryd.underlying64 (zeroI w) (plainElem_int Tryd.underlying3 (by decide)) (keyI k hk)
 obtain ⟨c, rfl, hc, _⟩ := plainElem_int_inv Tryd.underlying3 hv
 simp only [Prod.mk.injEq] at hc
 have hat := hc.1
 rw [hrun]
 rcases hf : f k with _ | u
 ·rw [atKey_of_not_has ((h2 k).2 hf)] at hat
  rw [← lit_inj hat, (h2 k).2 hf]; rfl
 ·rw [((h2 k).1 u hf).2] at hat
  rw [← lit_inj hat, ((h2 k).1 u hf).1]; rfl
theorem IMap.put (h : IMap w b n f) (k v : Nat) (hk : k < 9223372036854775808) (hv : v < 9223372036854775808) (hn : n < maxLen) :
  ∃ w', (Instr.mapUpdate 64 (.map (some b)) (.int .i64 k) (.int .i64 v)).run Tryd.prog w = .ok () w' ∧ IMap w' b (n + 1) (upd f k v) ∧ w.grownBy w' (some b) := by
 obtain ⟨D, h1, h2, h3⟩ := h
 have hD := h1.isMap
 obtain ⟨w', hrun, r1, r2⟩ := h1.update keysI Tryd.underlying64 hn (keyI k hk) (plainElem_int (a := (v : Int)) Tryd.underlying3 (wfI v hv))
 have hkey : WideAt.IsKeyLit (.int .i64 (k : Int)) := by first | trivial | simp [WideAt.IsKeyLit]
 refine ⟨w', hrun, ⟨_, r1, fun j => ?_, fun kl hkl => ?_⟩, r2⟩
 rotate_left
 ·by_cases hj : kl = .int .i64 (k : Int)
  ·exact ⟨k, hj⟩
  ·rw [has_put_other hj] at hkl
   exact h3 kl hkl
 by_cases hj : j = k
 ·subst hj
  rw [upd_at]
  refine ⟨fun u hu => ?_, nofun⟩
  injection hu with hu
  subst hu
  exact ⟨has_put_same hD hkey _, fun z => atKey_put_same hD hkey _ z⟩
 ·have hne : (Lit.int .i64 (j : Int)) ≠ Lit.int .i64 (k : Int) := fun e => by
   injection e with _ e
   exact hj (by omega)
  rw [upd_ne hj, has_put_other hne]
  refine ⟨fun u hu => ⟨((h2 j).1 u hu).1, fun z => ?_⟩, (h2 j).2⟩
  rw [atKey_put_other hne]
  exact ((h2 j).1 u hu).2 z
end
/-- a store into the map, at the operation -/
theorem wpList_put (w : World) {ops : Array Oper} {rest : List Oper} {o : Oper} {a : Act} {Q : Exit → Act → World → Prop}
  (hg : o.guard = none) (m x v : Operand) (hop : o.op = Op.mapUpdate 64 m x v) (b n : Nat) (f : Nat → Option Nat)
  (hm : a.eval m = .map (some b)) (h : IMap w b n f) (hn : n < maxLen) (k u : Nat) (hk : k < 9223372036854775808) (hu : u < 9223372036854775808) (hx : a.eval x = .int .i64 k) (hv : a.eval v = .int .i64 u)
  (hK : ∀ w', IMap w' b (n + 1) (upd f k u) → w.grownBy w' (some b) → wpList Tryd.prog ops Q rest (a.put o.dst undef) w') : wpList Tryd.prog ops Q (o :: rest) a w := by
 refine wpList_plain hg fun K' hK' => ?_
 obtain ⟨w', hrun, r1, r2⟩ := h.put k u hk hu hn
 unfold Oper.wp
 simp [execOp, hop, hm, hx, hv, hrun, Result.andThen]
 exact hK' _ _ (hK w' r1 r2)
end Go.Proofs.YtnfjjliiajaijaaDoor
namespace Go.Proofs.YtnfjjliiajaijaaDoor
open Go.RowKit

theorem own_put_at {w : World} {M size n g j c : Nat} {e : TypeId} {u : Value} {xs : List Value} (h : w.ownsRow M e size (.slice (some ⟨g, 0, none⟩) n c) n xs) (hj : j < n * size) : (w.setCell ⟨g, j, none⟩ u).ownsRow M e size (.slice (some ⟨g, 0, none⟩) n c) n (xs.set j u) := by
 rcases h.2 with ⟨h0, _⟩ | ⟨g', cap, cur, hv, hb, hh, h1, h2, h3, h4⟩
 ·cases h0
 ·injection hv with hv1 _ hv3
  injection hv1 with hv1
  injection hv1 with hv1
  subst hv1 hv3
  have hset : (w.setCell ⟨g, j, none⟩ u).heap[g]? = some (.cells (cur.setIfInBounds j u) e (0, 0)) := Blk.set_ (show Blk w g e cur from hh) j u
  refine ⟨by rw [List.length_set]; exact h.1, .inr ⟨g, c, _, rfl, hb, hset, h1, h2, by simpa using h3, ?_⟩⟩
  rw [Array.toList_setIfInBounds, ← h4, List.take_set]

inductive It where
 | row (v : Value) (e : TypeId) (size n : Nat) (xs : List Value)
 | blk (g : Nat) (t : TypeId) (cs : Array Value)
 | map (b n : Nat) (f : Nat → Option Nat)
def It.block : It → Option Nat
 | .row v _ _ _ _ => v.ownBlock
 | .blk g _ _ => some g
 | .map b _ _ => some b
def It.At (w : World) (base : Nat) : It → Prop
 | .row v e size n xs => w.ownsRow base e size v n xs
 | .blk g t cs => base ≤ g ∧ Blk w g t cs
 | .map b n f => base ≤ b ∧ IMap w b n f
section
variable {w w' : World} {base base' B : Nat} {x y : It} {row : Option Nat}
theorem It.At.lt (h : x.At w base) : ∀ b, x.block = some b → base ≤ b ∧ b < w.heap.size := by
 cases x with
 | row v e size n xs => exact fun b hb => World.ownsRow.lt h b hb
 | blk g t cs => intro b hb; injection hb with hb; subst hb; exact ⟨h.1, h.2.lt⟩
 | map b n f => intro c hb; injection hb with hb; subst hb; exact ⟨h.1, h.2.lt⟩
theorem It.At.kept (h : x.At w base) (hg : w.grownBy w' row) (hne : ∀ b, x.block = some b → row ≠ some b) : x.At w' base := by
 cases x with
 | row v e size n xs =>
  refine World.ownsRow.kept h hg ?_
  rcases hv : v.ownBlock with _ | g
  ·exact .inl rfl
  ·exact .inr fun e => hne g hv e.symm
 | blk g t cs => exact ⟨h.1, h.2.grown hg fun e => hne g rfl e.symm⟩
 | map b n f => exact ⟨h.1, h.2.kept hg fun e => hne b rfl e.symm⟩
theorem It.At.lower (h : x.At w base) (hb : base' ≤ base) : x.At w base' := by
 cases x with
 | row v e size n xs => exact own_base h hb
 | blk g t cs => exact ⟨Nat.le_trans hb h.1, h.2⟩
 | map b n f => exact ⟨Nat.le_trans hb h.1, h.2⟩
end
/-- all of them lie so, no two in one block -/
structure Items (w : World) (base : Nat) (l : List It) : Prop where
 each : ∀ x ∈ l, x.At w base
 apart : ∀ (i j : Nat) x y, i ≠ j → l[i]? = some x → l[j]? = some y → ∀ b, x.block = some b → y.block ≠ some b
section
variable {w w' : World} {base base' B i j : Nat} {x x' y : It} {l l' : List It} {row : Option Nat}
theorem Items.at_ (h : Items w base l) (hi : l[i]? = some x) : x.At w base := h.each x (List.mem_of_getElem? hi)
theorem Items.nil (w : World) (base : Nat) : Items w base [] := ⟨nofun, by intro i j x y _ h; simp at h⟩
theorem Items.lower (h : Items w base l) (hb : base' ≤ base) : Items w base' l := ⟨fun x hx => (h.each x hx).lower hb, h.apart⟩
theorem Items.kept (h : Items w base l) (hg : w.grownBy w' row) (hne : ∀ x ∈ l, ∀ b, x.block = some b → row ≠ some b) : Items w' base l :=
 ⟨fun x hx => (h.each x hx).kept hg (hne x hx), h.apart⟩
theorem Items.keep (h : Items w base l) (hg : w.grownBy w' none) : Items w' base l := h.kept hg fun _ _ _ _ => nofun
theorem Items.below (h : Items w base l) (hb : Below w.heap.size w w') : Items w' base l := h.keep (only_of_below hb none)
theorem Items.alloc (h : Items w base l) (o : Obj) : Items (w.alloc o) base l := h.keep (World.grownBy_alloc w o none)
theorem Items.drew (h : Items w base l) : Items w.drew base l := h.keep (only_drew (World.grownBy.refl w none))
/-- one of them changes -/
theorem Items.change (h : Items w base l) (hi : l[i]? = some x) (hg : w.grownBy w' x.block) (hx : x'.At w' base) (hb : x'.block = x.block ∨ ∀ b, x'.block = some b → w.heap.size ≤ b) : Items w' base (l.set i x') := by
 have hil := (List.getElem?_eq_some_iff.1 hi).1
 have key : ∀ (j : Nat) y, j ≠ i → l[j]? = some y → (∀ b, x'.block = some b → y.block ≠ some b) := by
  intro j y hj hy b hxb hyb
  rcases hb with e | e
  ·rw [e] at hxb
   exact h.apart i j x y (Ne.symm hj) hi hy b hxb hyb
  ·have h1 := e b hxb
   have h2 := ((h.at_ hy).lt b hyb).2
   omega
 refine ⟨fun y hy => ?_, fun j k y z hjk hy hz b hyb => ?_⟩
 ·obtain ⟨j, hj, rfl⟩ := List.getElem_of_mem hy
  rw [List.length_set] at hj
  by_cases hji : i = j
  ·subst hji
   simpa using hx
  ·rw [List.getElem_set_ne hji]
   have hy' : l[j]? = some l[j] := List.getElem?_eq_getElem hj
   refine (h.at_ hy').kept hg fun b hb' => ?_
   exact h.apart j i _ x (Ne.symm hji) hy' hi b hb'
 ·by_cases hji : j = i
  ·subst hji
   rw [List.getElem?_set_self hil] at hy
   injection hy with hy
   subst hy
   rw [List.getElem?_set_ne hjk] at hz
   exact key k z (Ne.symm hjk) hz b hyb
  ·rw [List.getElem?_set_ne (Ne.symm hji)] at hy
   by_cases hki : k = i
   ·subst hki
    rw [List.getElem?_set_self hil] at hz
    injection hz with hz
    subst hz
    exact fun hzb => key j y hji hy b hzb hyb
   ·rw [List.getElem?_set_ne (Ne.symm hki)] at hz
    exact h.apart j k y z hjk hy hz b hyb
theorem Items.cons (h : Items w base l) (hx : x.At w base) (hb : ∀ b, x.block = some b → ∀ y ∈ l, y.block ≠ some b) : Items w base (x :: l) := by
 refine ⟨fun y hy => ?_, fun i j y z hij hy hz b hyb => ?_⟩
 ·rcases List.mem_cons.1 hy with rfl | hy
  ·exact hx
  ·exact h.each y hy
 ·match i, j, hij, hy, hz with
  | 0, 0, hij, _, _ => exact absurd rfl hij
  | 0, j + 1, _, hy, hz =>
   simp at hy hz
   subst hy
   exact hb b hyb z (List.mem_of_getElem? hz)
  | i + 1, 0, _, hy, hz =>
   simp at hy hz
   subst hz
   exact fun hzb => hb b hzb y (List.mem_of_getElem? hy) hyb
  | i + 1, j + 1, hij, hy, hz =>
   simp at hy hz
   exact h.apart i j y z (by omega) hy hz b hyb
/-- a new one -/
theorem Items.new (h : Items w base l) (hg : w.grownBy w' none) (hx : x.At w' base) (hb : ∀ b, x.block = some b → w.heap.size ≤ b) : Items w' base (x :: l) := by
 refine (h.keep hg).cons hx fun b hxb y hy hyb => ?_
 have h1 := hb b hxb
 have h2 := ((h.each y hy).lt b hyb).2
 omega
theorem Items.tail (h : Items w base (x :: l)) : Items w base l :=
 ⟨fun y hy => h.each y (List.mem_cons_of_mem _ hy), fun i j y z hij hy hz => h.apart (i + 1) (j + 1) y z (by omega) (by simpa using hy) (by simpa using hz)⟩
theorem apart_iff {l : List It} : (∀ (i j : Nat) x y, i ≠ j → l[i]? = some x → l[j]? = some y → ∀ b, x.block = some b → y.block ≠ some b) ↔ l.Pairwise fun x y => ∀ b, x.block = some b → y.block ≠ some b := by
 rw [List.pairwise_iff_getElem]
 refine ⟨fun h i j hi hj hij => h i j _ _ (by omega) (List.getElem?_eq_getElem hi) (List.getElem?_eq_getElem hj), fun h i j x y hij hx hy b hb => ?_⟩
 obtain ⟨hi, rfl⟩ := List.getElem?_eq_some_iff.1 hx
 obtain ⟨hj, rfl⟩ := List.getElem?_eq_some_iff.1 hy
 rcases Nat.lt_or_ge i j with h1 | h1
 ·exact h i j hi hj h1 b hb
 ·exact fun hb' => h j i hj hi (by omega) b hb' hb
theorem Items.perm (h : Items w base l) (hp : l.Perm l') : Items w base l' :=
 ⟨fun x hx => h.each x (hp.mem_iff.2 hx), apart_iff.2 ((hp.pairwise_iff fun {x y} hxy b hb hb' => hxy b hb' hb).1 (apart_iff.1 h.apart))⟩
theorem Items.sub (h : Items w base l) (hs : l'.Sublist l) : Items w base l' :=
 ⟨fun x hx => h.each x (hs.subset hx), apart_iff.2 ((apart_iff.1 h.apart).sublist hs)⟩
theorem Items.append (h : Items w base l) (h' : Items w base l') (hd : ∀ x ∈ l, ∀ y ∈ l', ∀ b, x.block = some b → y.block ≠ some b) : Items w base (l ++ l') :=
 ⟨fun x hx => (List.mem_append.1 hx).elim (h.each x) (h'.each x), apart_iff.2 (List.pairwise_append.2 ⟨apart_iff.1 h.apart, apart_iff.1 h'.apart, hd⟩)⟩
/-- a block that is one of them -/
theorem Items.blk {g : Nat} {t : TypeId} {cs : Array Value} (h : Items w base l) (hi : l[i]? = some (.blk g t cs)) : Blk w g t cs := (h.at_ hi).2
theorem Items.own {v : Value} {e : TypeId} {size n : Nat} {xs : List Value} (h : Items w base l) (hi : l[i]? = some (.row v e size n xs)) : w.ownsRow base e size v n xs := h.at_ hi
theorem Items.imap {b n : Nat} {f : Nat → Option Nat} (h : Items w base l) (hi : l[i]? = some (.map b n f)) : IMap w b n f := (h.at_ hi).2
/-- a store into one of the blocks -/
theorem Items.set_ {g : Nat} {t : TypeId} {cs : Array Value} (h : Items w base l) (hi : l[i]? = some (.blk g t cs)) (j : Nat) (u : Value) : Items (w.setCell ⟨g, j, none⟩ u) base (l.set i (.blk g t (cs.setIfInBounds j u))) :=
 h.change hi (grown_setCell w ⟨g, j, none⟩ u) ⟨(h.at_ hi).1, (h.blk hi).set_ j u⟩ (.inl rfl)
/-- a store into one of the rows -/
theorem Items.setRow {g n c size j : Nat} {e : TypeId} {xs : List Value} (h : Items w base l) (hi : l[i]? = some (.row (.slice (some ⟨g, 0, none⟩) n c) e size n xs)) (hj : j < n * size) (u : Value) : Items (w.setCell ⟨g, j, none⟩ u) base (l.set i (.row (.slice (some ⟨g, 0, none⟩) n c) e size n (xs.set j u))) :=
 h.change hi (grown_setCell w ⟨g, j, none⟩ u) (own_put_at (h.own hi) hj) (.inl rfl)
/-- one of the rows is appended to -/
theorem Items.push {v v' : Value} {e : TypeId} {size n n' : Nat} {xs xs' : List Value} (h : Items w base l) (hi : l[i]? = some (.row v e size n xs)) (ho : w'.ownsRow base e size v' n' xs') (hg : w.grownBy w' v.ownBlock) (hat : v'.ownBlock = v.ownBlock ∨ ∀ b, v'.ownBlock = some b → w.heap.size ≤ b) : Items w' base (l.set i (.row v' e size n' xs')) :=
 h.change hi hg ho hat
/-- one of the maps gets an entry -/
theorem Items.put {b n n' : Nat} {f f' : Nat → Option Nat} (h : Items w base l) (hi : l[i]? = some (.map b n f)) (hm : IMap w' b n' f') (hg : w.grownBy w' (some b)) : Items w' base (l.set i (.map b n' f')) :=
 h.change hi hg ⟨(h.at_ hi).1, hm⟩ (.inl rfl)
/-- a new block -/
theorem Items.newBlk (h : Items w base l) (hb : base ≤ w.heap.size) (t : TypeId) (cs : Array Value) : Items (w.alloc (.cells cs t)) base (.blk w.heap.size t cs :: l) :=
 h.new (World.grownBy_alloc w _ none) ⟨hb, Blk.new w t cs⟩ fun b e => by injection e with e; omega
/-- two of them do not lie in one block -/
theorem Items.ne {g g' : Nat} {t t' : TypeId} {cs cs' : Array Value} (h : Items w base l) (hi : l[i]? = some (.blk g t cs)) (hj : l[j]? = some (.blk g' t' cs')) (hij : i ≠ j) : g ≠ g' := fun e => by
 subst e
 exact h.apart i j _ _ hij hi hj g rfl rfl
theorem Items.ne_row {g n size : Nat} {t e : TypeId} {cs : Array Value} {v : Value} {xs : List Value} (h : Items w base l) (hi : l[i]? = some (.blk g t cs)) (hj : l[j]? = some (.row v e size n xs)) (hij : i ≠ j) : some g ≠ v.ownBlock := fun e =>
 h.apart i j _ _ hij hi hj g rfl e.symm
end
end Go.Proofs.YtnfjjliiajaijaaDoor
