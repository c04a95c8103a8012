/- A run of graphs as it lies in memory: the run, its frames, their rows. No condition. A run of graphs in memory, as it changes: numbers, places, cells, frames. No condition. Walks of the run's reading of a place. Conditions: the run lies in memory, the place is there. Walks of the run's writing of a place. Conditions: the run lies in memory, the place is there. -/
import Derived.Test.YtncpehhfjkncoaaPlAC
import Derived.Test.YtncpehhfjkncoaaPlAA
import Derived.Deep.QuietTactic
import Derived.Deep.CutBlock
import Derived.Deep.DeepMust
import Derived.Deep.DeepCutAuto
set_option linter.unusedVariables false
set_option linter.unusedSimpArgs false
set_option maxRecDepth 100000
set_option maxHeartbeats 16000000
namespace Go.Proofs.Ytncpehhfjkncoaa
open Go.RowKit

/-- where a frame's rows lie -/
structure FrV where
 pv : Value
 cv : Value
 wv : Value
 kv : Value
 av : List Value
def u64s (l : List Int) : List Value := l.map (Value.int .u64)
def frCells (x : FrD) (v : FrV) : List Value := [.int .i64 x.f, .int .i64 x.at_, .int .i64 x.why, v.pv, v.cv, v.wv, .bool x.ends, .int .u64 x.ret, v.kv]
def waitCells : List (Int × List Int) -> List Value -> List Value
 | d :: l, a :: s => .int .i64 d.1 :: a :: waitCells l s
 | _, _ => []
def argIts : List (Int × List Int) -> List Value -> List It
 | d :: l, a :: s => .row a 34 1 d.2.length (u64s d.2) :: argIts l s
 | _, _ => []
def frIts (x : FrD) (v : FrV) : List It := .row v.pv 34 1 x.places.length (u64s x.places) :: .row v.cv 34 1 x.cells.length (u64s x.cells) :: .row v.wv 93 2 x.waits.length (waitCells x.waits v.av) :: .row v.kv 34 1 x.kept.length (u64s x.kept) :: argIts x.waits v.av
def rowCells : List FrD -> List FrV -> List Value
 | x :: r, v :: s => rowCells r s ++ frCells x v
 | _, _ => []
def rowIts : List FrD -> List FrV -> List It
 | x :: r, v :: s => frIts x v ++ rowIts r s
 | _, _ => []
def rowLens : List FrD -> List FrV -> Prop
 | x :: r, v :: s => v.av.length = x.waits.length /\ rowLens r s
 | [], [] => True
 | _, _ => False
def panCells (l : List (Int × Bool)) : List Value := l.flatMap fun p => [.int .u64 p.1, .bool p.2]
def evCells (l : List (Int × Int)) : List Value := l.flatMap fun p => [.int .i64 p.1, .int .u64 p.2]
/-- what stays as it is in a run -/
structure RunX where
 rp : Nat
 gv : Value
 gs : List GraphD
 B : Nat
/-- where a run's rows lie -/
structure RunV where
 rg : Nat
 rv : Value
 lv : Value
 tv : Value
 ev : Value
 tz : Value
 tl : List Int
 fv : List FrV
def runCells (X : RunX) (V : RunV) (R : RunD) : List Value := [X.gv, .bool true, .slice (some ⟨V.rg, 0, none⟩) 16 16, V.rv, V.lv, V.tv, V.ev, .int .i64 R.endK, .int .u64 R.endV, .int .i64 R.steps, .int .i64 R.depth, .int .i64 R.defers, .int .i64 R.panics]
def runIts (X : RunX) (V : RunV) (R : RunD) : List It :=
 .blk X.rp 41 (runCells X V R).toArray :: .row (.slice (some ⟨V.rg, 0, none⟩) 16 16) 34 1 16 (u64s R.regs) ::
 .row V.rv 82 9 R.row.length (rowCells R.row V.fv) :: .row V.lv 96 2 R.list.length (panCells R.list) ::
 .row V.tz 34 1 V.tl.length (u64s V.tl) :: .row V.ev 62 2 R.events.length (evCells R.events) :: rowIts R.row V.fv
/-- what is left of the tape -/
def TapeOk (V : RunV) (R : RunD) : Prop := ∃ A c, V.tv = .slice A R.tape.length c /\ R.tape.length <= c /\ c <= maxLen /\
 (0 < R.tape.length -> ∃ g k N cap, V.tz = .slice (some ⟨g, 0, none⟩) N cap /\ A = some ⟨g, k, none⟩ /\ R.tape = V.tl.drop k /\ V.tl.length = N)
/-- the run lies there, and other things beside it -/
structure RunIn (w : World) (base : Nat) (X : RunX) (R : RunD) (V : RunV) (rest : List It) : Prop where
 tok : TapeOk V R
 lens : rowLens R.row V.fv
 its : Items w base (runIts X V R ++ rest)
structure RunAt (w : World) (base : Nat) (X : RunX) (R : RunD) (rest : List It) : Prop where
 le : X.B <= base
 gs : GraphsAt w X.B X.gv X.gs
 run : ∃ V, RunIn w base X R V rest
section
variable {w w' : World} {base : Nat} {X : RunX} {R : RunD} {V : RunV} {rest : List It}
theorem len_u64s (l : List Int) : (u64s l).length = l.length := by unfold u64s; rw [List.length_map]
theorem u64s_get (l : List Int) (k : Nat) (hk : k < l.length) : (u64s l)[k]? = some (.int .u64 (l.getD k 0)) := by
 unfold u64s;rw [List.getElem?_map, List.getElem?_eq_getElem hk, List.getD_eq_getElem?_getD, List.getElem?_eq_getElem hk]; rfl
theorem u64s_set (l : List Int) (k : Nat) (v : Int) : (u64s l).set k (.int .u64 v) = u64s (l.set k v) := by
 unfold u64s;rw [List.map_set]
theorem len_rowCells : ∀ {r : List FrD} {s : List FrV}, rowLens r s -> (rowCells r s).length = r.length * 9
 | x :: r, v :: s, h => by
  unfold rowCells;rw [List.length_append, len_rowCells h.2];show r.length * 9 + 9 = (r.length + 1) * 9
  omega
 | [], [], _ => rfl
 | x :: r, [], h => h.elim
 | [], v :: s, h => h.elim
theorem RunIn.blk (h : RunIn w base X R V rest) : Blk w X.rp 41 (runCells X V R).toArray := Items.blk h.its (i := 0) rfl
theorem RunIn.regs (h : RunIn w base X R V rest) : w.ownsRow base 34 1 (.slice (some ⟨V.rg, 0, none⟩) 16 16) 16 (u64s R.regs) := Items.own h.its (i := 1) rfl
theorem RunIn.rrow (h : RunIn w base X R V rest) : w.ownsRow base 82 9 V.rv R.row.length (rowCells R.row V.fv) := Items.own h.its (i := 2) rfl
theorem RunIn.list (h : RunIn w base X R V rest) : w.ownsRow base 96 2 V.lv R.list.length (panCells R.list) := Items.own h.its (i := 3) rfl
theorem RunIn.tape (h : RunIn w base X R V rest) : w.ownsRow base 34 1 V.tz V.tl.length (u64s V.tl) := Items.own h.its (i := 4) rfl
theorem RunIn.evs (h : RunIn w base X R V rest) : w.ownsRow base 62 2 V.ev R.events.length (evCells R.events) := Items.own h.its (i := 5) rfl
theorem RunIn.size_ (h : RunIn w base X R V rest) : base <= X.rp /\ base <= w.heap.size := by
 have h1 : (It.blk X.rp 41 (runCells X V R).toArray).At w base := Items.at_ h.its (i := 0) rfl;have h2 := h1.1;have h3 := h.blk.lt
 omega
theorem RunIn.drew (h : RunIn w base X R V rest) : RunIn w.drew base X R V rest := ⟨h.tok, h.lens, h.its.drew⟩
theorem RunIn.keep (h : RunIn w base X R V rest) (hg : w.grownBy w' none) : RunIn w' base X R V rest := ⟨h.tok, h.lens, h.its.keep hg⟩
theorem RunIn.alloc (h : RunIn w base X R V rest) (o : Obj) : RunIn (w.alloc o) base X R V rest := ⟨h.tok, h.lens, h.its.alloc o⟩
theorem RunIn.below (h : RunIn w base X R V rest) (hb : Below w.heap.size w w') : RunIn w' base X R V rest := ⟨h.tok, h.lens, h.its.below hb⟩
theorem RunIn.top_eq (h : RunIn w base X R V rest) (hne : R.row ≠ []) : ∃ r v s, R.row = R.top :: r /\ V.fv = v :: s /\ rowLens r s /\ v.av.length = R.top.waits.length := by
 have hl := h.lens;unfold RunD.top
 rcases hr : R.row with _ | ⟨x, r⟩
 ·exact absurd hr hne
 ·rw [hr] at hl
  rcases hv : V.fv with _ | ⟨v, s⟩
  ·rw [hv] at hl; exact hl.elim
  ·rw [hv] at hl;exact ⟨r, v, s, rfl, rfl, hl.2, hl.1⟩
/-- the last frame in memory -/
structure TopM (w : World) (base : Nat) (R : RunD) (V : RunV) (g c n : Nat) (v : FrV) : Prop where
 len : R.row.length = n + 1
 rv : V.rv = .slice (some ⟨g, 0, none⟩) (n + 1) c
 cap : n + 1 <= c /\ c <= maxLen
 lt : g < w.heap.size
 le : base <= g
 fz : ∀ j, w.frozen? ⟨g, j, none⟩ = false
 f0 : w.cell? ⟨g, n * 9, none⟩ = some (.int .i64 R.top.f)
 f1 : w.cell? ⟨g, n * 9 + 1, none⟩ = some (.int .i64 R.top.at_)
 f2 : w.cell? ⟨g, n * 9 + 2, none⟩ = some (.int .i64 R.top.why)
 f3 : w.cell? ⟨g, n * 9 + 3, none⟩ = some v.pv
 f4 : w.cell? ⟨g, n * 9 + 4, none⟩ = some v.cv
 f5 : w.cell? ⟨g, n * 9 + 5, none⟩ = some v.wv
 f6 : w.cell? ⟨g, n * 9 + 6, none⟩ = some (.bool R.top.ends)
 f7 : w.cell? ⟨g, n * 9 + 7, none⟩ = some (.int .u64 R.top.ret)
 f8 : w.cell? ⟨g, n * 9 + 8, none⟩ = some v.kv
 pv : w.ownsRow base 34 1 v.pv R.top.places.length (u64s R.top.places)
 cv : w.ownsRow base 34 1 v.cv R.top.cells.length (u64s R.top.cells)
 wv : w.ownsRow base 93 2 v.wv R.top.waits.length (waitCells R.top.waits v.av)
 kv : w.ownsRow base 34 1 v.kv R.top.kept.length (u64s R.top.kept)
theorem RunIn.top (h : RunIn w base X R V rest) (hne : R.row ≠ []) : ∃ g c n v s, V.fv = v :: s /\ TopM w base R V g c n v := by
 obtain ⟨r, v, s, hr, hv, hl, ha⟩ := h.top_eq hne;have hrow := h.rrow
 have hlen : R.row.length = r.length + 1 := by rw [hr]; rfl
 rw [hlen] at hrow
 rcases hrow.2 with ⟨_, h0⟩ | ⟨g, cap, cur, hrv, hb, hh, h1, h2, h3, h4⟩
 ·omega
 ·have hcs : rowCells R.row V.fv = rowCells r s ++ frCells R.top v := by rw [hv, hr]; rfl
  have hln := len_rowCells hl;rw [hrv] at hrow
  have hcell : ∀ j u, j < 9 -> (frCells R.top v)[j]? = some u -> w.cell? ⟨g, r.length * 9 + j, none⟩ = some u := by
   intro j u hj hu;rw [World.ownsRow.cellAt hrow (r.length * 9 + j) (by omega), hcs, List.getElem?_append_right (by omega), hln, show r.length * 9 + j - r.length * 9 = j by omega];exact hu
  have hit : ∀ (i : Nat) (x : It), (frIts R.top v)[i]? = some x -> x.At w base := by
   intro i x hx;refine h.its.each x (List.mem_append_left _ ?_);unfold runIts;rw [hv, hr];have : x ∈ frIts R.top v := List.mem_of_getElem? hx;have h5 : x ∈ rowIts (R.top :: r) (v :: s) := List.mem_append_left _ this;simp only [List.mem_cons];exact .inr (.inr (.inr (.inr (.inr (.inr h5)))))
  exact ⟨g, cap, r.length, v, s, hv, hlen, hrv, ⟨h1, h2⟩, (Array.getElem?_eq_some_iff.1 hh).1, hb, World.ownsRow.frozenAt hrow,
   hcell 0 _ (by omega) rfl, hcell 1 _ (by omega) rfl, hcell 2 _ (by omega) rfl, hcell 3 _ (by omega) rfl, hcell 4 _ (by omega) rfl, hcell 5 _ (by omega) rfl, hcell 6 _ (by omega) rfl, hcell 7 _ (by omega) rfl, hcell 8 _ (by omega) rfl,
   hit 0 _ rfl, hit 1 _ rfl, hit 2 _ rfl, hit 3 _ rfl⟩
end
end Go.Proofs.Ytncpehhfjkncoaa
namespace Go.Proofs.Ytncpehhfjkncoaa
open Go.RowKit

section
variable {w w' : World} {base : Nat} {X : RunX} {R : RunD} {V : RunV} {rest : List It}
/-- a row shorter -/
theorem own_cut {e : TypeId} {size n k c : Nat} {A : Option Addr} {xs : List Value} (h : w.ownsRow base e size (.slice A n c) n xs) (hk : k <= n) : w.ownsRow base e size (.slice A k c) k (xs.take (k * size)) := by
 rcases h.2 with ⟨h0, h1⟩ | ⟨g, cap, cur, hv, hb, hh, h1, h2, h3, h4⟩
 ·injection h0 with a1 a2 a3;subst a1 a2 a3
  have : k = 0 := by omega
  subst this;refine ⟨by simp, .inl ⟨rfl, rfl⟩⟩
 ·injection hv with a1 a2 a3;subst a1 a3;have hl := h.1;have hm : k * size <= n * size := Nat.mul_le_mul_right _ hk;refine ⟨by rw [List.length_take, hl]; omega, .inr ⟨g, c, cur, rfl, hb, hh, by omega, h2, h3, ?_⟩⟩;rw [<- h4, List.take_take]
  congr 1; omega
theorem Items.swapIn {x : It} {l : List It} (h : Items w base (x :: l)) (i : Nat) (hi : i < l.length) : Items w base (l.set i x) := by
 have h1 : l.set i x = l.take i ++ x :: l.drop (i + 1) := by rw [List.set_eq_take_append_cons_drop, if_pos hi]
 rw [h1];refine (h.sub (l' := x :: (l.take i ++ l.drop (i + 1))) ?_).perm List.perm_middle.symm;refine List.Sublist.cons_cons _ ?_;have h2 : l = l.take i ++ l.drop i := (List.take_append_drop i l).symm
 conv => rhs; rw [h2]
 refine List.Sublist.append (List.Sublist.refl _) ?_;rw [List.drop_eq_getElem_cons hi];exact List.sublist_cons_self _ _
theorem RunIn.setReg (h : RunIn w base X R V rest) {k : Nat} (u : Int) (hk : k < 16) : RunIn (w.setCell ⟨V.rg, k, none⟩ (.int .u64 u)) base X { R with regs := R.regs.set k u } V rest := by
 refine ⟨h.tok, h.lens, ?_⟩;have := h.its.setRow (i := 1) (j := k) rfl (by omega) (.int .u64 u);rw [u64s_set] at this;exact this
/-- a number of the run itself -/
theorem RunIn.setF (h : RunIn w base X R V rest) {R' : RunD} (j : Nat) (u : Value) (hc : (runCells X V R).toArray.setIfInBounds j u = (runCells X V R').toArray) (hr : R'.regs = R.regs /\ R'.row = R.row /\ R'.list = R.list /\ R'.tape = R.tape /\ R'.events = R.events) :
  RunIn (w.setCell ⟨X.rp, j, none⟩ u) base X R' V rest := by
 obtain ⟨e1, e2, e3, e4, e5⟩ := hr;refine ⟨?_, by rw [e2]; exact h.lens, ?_⟩
 ·have := h.tok;unfold TapeOk at this ⊢;rw [e4]; exact this
 ·have := h.its.set_ (i := 0) rfl j u;rw [hc] at this;unfold runIts;rw [e1, e2, e3, e5];exact this
theorem RunIn.setPlace (h : RunIn w base X R V rest) (hne : R.row ≠ []) {v : FrV} {s : List FrV} {q c k : Nat} (hv : V.fv = v :: s) (hp : v.pv = .slice (some ⟨q, 0, none⟩) R.top.places.length c) (hk : k < R.top.places.length) (u : Int) :
  RunIn (w.setCell ⟨q, k, none⟩ (.int .u64 u)) base X (R.setTop { R.top with places := R.top.places.set k u }) V rest := by
 rcases R with ⟨regs, row, list, tape, events, endK, endV, steps, depth, defers, panics⟩
 rcases row with _ | ⟨x, r⟩
 ·exact absurd rfl hne
 rcases V with ⟨rg, rv, lv, tv, ev, tz, tl, fv⟩;rcases v with ⟨pv, cv, wv, kv, av⟩;have hv : fv = _ := hv;have hp : pv = .slice (some ⟨q, 0, none⟩) x.places.length c := hp;have hk : k < x.places.length := hk;subst hv hp;refine ⟨h.tok, h.lens, ?_⟩;have := h.its.setRow (i := 6) (j := k) rfl (by omega) (.int .u64 u);rw [u64s_set] at this;have e : (x.places.set k u).length = x.places.length := List.length_set;rw [<- e] at this;refine Eq.mp ?_ this;simp only [e]
 congr 1
 unfold runIts rowIts frIts RunD.setTop RunD.top;simp only [List.headD_cons, e]
 rfl
/-- a field of the last frame -/
theorem rowCells_top {x x' : FrD} {r : List FrD} {v v' : FrV} {s : List FrV} (hl : rowLens r s) {j : Nat} {u : Value} (hc : frCells x' v' = (frCells x v).set j u) : rowCells (x' :: r) (v' :: s) = (rowCells (x :: r) (v :: s)).set (r.length * 9 + j) u := by
 show rowCells r s ++ frCells x' v' = (rowCells r s ++ frCells x v).set _ u;rw [List.set_append_right _ _ (by rw [len_rowCells hl]; omega), len_rowCells hl, hc, show r.length * 9 + j - r.length * 9 = j by omega]
theorem RunIn.setFr (h : RunIn w base X R V rest) {g c n : Nat} {v v' : FrV} {s : List FrV} (hT : TopM w base R V g c n v) (hv : V.fv = v :: s) {x' : FrD} {j : Nat} {u : Value} (hj : j < 9) (hc : frCells x' v' = (frCells R.top v).set j u) (hi : frIts x' v' = frIts R.top v) (ha : v'.av.length = x'.waits.length) :
  RunIn (w.setCell ⟨g, n * 9 + j, none⟩ u) base X (R.setTop x') { V with fv := v' :: s } rest := by
 rcases R with ⟨regs, row, list, tape, events, endK, endV, steps, depth, defers, panics⟩
 rcases row with _ | ⟨x, r⟩
 ·have := hT.len; cases this
 rcases V with ⟨rg, rv, lv, tv, ev, tz, tl, fv⟩;have hv : fv = _ := hv;have hr : rv = .slice (some ⟨g, 0, none⟩) (n + 1) c := hT.rv;have hn : r.length + 1 = n + 1 := hT.len
 have hn : n = r.length := by omega
 subst hv hr hn;refine ⟨h.tok, ⟨ha, h.lens.2⟩, ?_⟩;have e1 : rowCells (x' :: r) (v' :: s) = (rowCells (x :: r) (v :: s)).set (r.length * 9 + j) u := rowCells_top h.lens.2 hc;have := h.its.setRow (i := 2) (j := r.length * 9 + j) (xs := rowCells (x :: r) (v :: s)) rfl (by show _ < (r.length + 1) * 9; omega) u;rw [<- e1] at this
 have e : rowIts (x' :: r) (v' :: s) = rowIts (x :: r) (v :: s) := by
  show frIts x' v' ++ rowIts r s = frIts x v ++ rowIts r s;rw [hi]; rfl
 refine Eq.mp ?_ this
 congr 1
 show _ = runIts X _ _ ++ rest;unfold runIts RunD.setTop;dsimp only [List.tail_cons];rw [e]
 rfl
end
end Go.Proofs.Ytncpehhfjkncoaa
namespace Go.Proofs.Ytncpehhfjkncoaa
open Go.RowKit

theorem RunIn.drewN {w : World} {base : Nat} {X : RunX} {R : RunD} {V : RunV} {rest : List It} (h : RunIn w base X R V rest) (q : Nat) : RunIn (w.drewN q) base X R V rest := by
 induction q with
 | zero => exact h
 | succ q ih => exact ⟨ih.tok, ih.lens, ih.its.drew⟩
theorem RunAt.drewN {w : World} {base : Nat} {X : RunX} {R : RunD} {rest : List It} (h : RunAt w base X R rest) (q : Nat) : RunAt (w.drewN q) base X R rest := by
 obtain ⟨V, hV⟩ := h.run;exact ⟨h.le, h.gs.keep fun _ _ => rfl, V, hV.drewN q⟩
theorem RunAt.drew {w : World} {base : Nat} {X : RunX} {R : RunD} {rest : List It} (h : RunAt w base X R rest) : RunAt w.drew base X R rest := by
 obtain ⟨V, hV⟩ := h.run;exact ⟨h.le, h.gs.keep fun _ _ => rfl, V, hV.drew⟩
section
variable {w : World} {base : Nat} {X : RunX} {R : RunD} {rest : List It}
theorem get_reg (h : RunAt w base X R rest) {k : Nat} (hk : k < 16) :
  Calls Try.prog 26 #[.pointer (some ⟨X.rp, 0, none⟩), .int .i64 (k : Nat)] w fun e w' => e = .returned (.int .u64 (R.get k)) /\ ∃ q, w' = w.drewN q := by
 obtain ⟨V, h⟩ := h.run
 have hG : R.get k = R.regs.getD k 0 := by unfold RunD.get; rw [if_pos (by omega)]; rfl
 rw [hG];have hb := h.blk
 have hl : R.regs.length = 16 := by have := h.regs.1; rwa [len_u64s] at this
 have hc := World.ownsRow.cellAt h.regs k (by omega);rw [u64s_get _ _ (by omega)] at hc;obtain ⟨x, hx⟩ := mn (R.regs.getD k 0);obtain ⟨g, hg⟩ := mn (V.rg);have b1 : w.cell? ⟨X.rp, 1, none⟩ = some (.bool true) := hb.cell 1;have b2 : w.cell? ⟨X.rp, 2, none⟩ = some (.slice (some ⟨V.rg, 0, none⟩) 16 16) := hb.cell 2;rw [hx] at hc ⊢;rw [hg] at hc b2
 have hki : (k : Int) < 16 := by omega
 clear hG hb h hx hl hg;go_enter Try.func26, Try.ntmps26;go_wp2_with fail;go_ret;exact ⟨rfl, 0, rfl⟩
theorem get_place (h : RunAt w base X R rest) (hne : R.row ≠ []) {k : Nat} (h16 : 16 <= k) (hk : k < R.top.places.length) (hn : R.row.length <= 1048576) :
  Calls Try.prog 26 #[.pointer (some ⟨X.rp, 0, none⟩), .int .i64 (k : Nat)] w fun e w' => e = .returned (.int .u64 (R.get k)) /\ ∃ q, w' = w.drewN q := by
 obtain ⟨V, h⟩ := h.run
 have hG : R.get k = R.top.places.getD k 0 := by unfold RunD.get; rw [if_neg (by omega)]; rfl
 rw [hG];have hb := h.blk;obtain ⟨g, c, n, v, s, hv, hT⟩ := h.top hne;have hlen := hT.len;have b1 : w.cell? ⟨X.rp, 1, none⟩ = some (.bool true) := hb.cell 1;have b3 : w.cell? ⟨X.rp, 3, none⟩ = some V.rv := hb.cell 3;rw [hT.rv] at b3;have f3 := hT.f3;have hpo := hT.pv;obtain ⟨A, pc, hpv, _⟩ := own_any hpo;obtain ⟨_, q, e, _, _, hcell⟩ := own_row (by rw [hpv] at hpo; exact hpo) (by omega);subst e;have hc := hcell k _ (u64s_get _ _ hk);rw [addr_zero] at hc;rw [hpv] at f3;obtain ⟨x, hx⟩ := mn (R.top.places.getD k 0);obtain ⟨m, hm⟩ := mn (R.top.places.length);rw [hx] at hc ⊢;rw [hm] at hk f3
 have hki : ¬ (k : Int) < 16 := by omega
 have hkm : (k : Int) < m := by omega
 have hn1 : IntKind.i64.wrap (n : Int) = n := by rw [IntKind.wrap_i64]; omega
 have hn2 : (n : Int) < n + 1 := by omega
 clear hG hb h hx hm hlen hT hcell hpo hpv;go_enter Try.func26, Try.ntmps26;go_upto_region 3 with fail
 go_quiet (fail)
 go_wp2_with fail;go_ret;exact ⟨rfl, _, rfl⟩
/-- reading of any place that is there -/
theorem get_any (h : RunAt w base X R rest) (hne : R.row ≠ []) {p : Int} (h0 : 0 <= p) (hp : p < 16 ∨ p < R.top.places.length) (hn : R.row.length <= 1048576) :
  Calls Try.prog 26 #[.pointer (some ⟨X.rp, 0, none⟩), .int .i64 p] w fun e w' => e = .returned (.int .u64 (R.get p)) /\ ∃ q, w' = w.drewN q := by
 obtain ⟨k, rfl⟩ : ∃ k : Nat, p = k := ⟨p.toNat, by omega⟩
 by_cases hk : k < 16
 ·exact get_reg h hk
 ·exact get_place h hne (by omega) (by omega) hn
end
end Go.Proofs.Ytncpehhfjkncoaa
namespace Go.Proofs.Ytncpehhfjkncoaa
open Go.RowKit

section
variable {w : World} {base : Nat} {X : RunX} {R : RunD} {rest : List It}
/-- what a call of the run's leaves -/
def RunGot (base : Nat) (X : RunX) (rest : List It) (w : World) (v : Value) (R : RunD) (e : Ending) (w' : World) : Prop := e = .returned v /\ RunAt w' base X R rest /\ Below base w w'
theorem RunAt.store {w' : World} {R' : RunD} {V : RunV} (h : RunAt w base X R rest) (hV : RunIn w' base X R' V rest) (hb : Below base w w') : RunAt w' base X R' rest := ⟨h.le, h.gs.below (hb.mono h.le), V, hV⟩
theorem RunAt.size (h : RunAt w base X R rest) : base <= w.heap.size := by
 obtain ⟨V, hV⟩ := h.run;exact hV.size_.2
theorem own_le {e : TypeId} {size n m c g : Nat} {xs : List Value} (h : w.ownsRow base e size (.slice (some ⟨g, 0, none⟩) n c) m xs) : base <= g /\ g < w.heap.size := World.ownsRow.lt h g rfl
theorem set_neg (h : RunAt w base X R rest) {p u : Int} (hp : p < 0) :
  Calls Try.prog 25 #[.pointer (some ⟨X.rp, 0, none⟩), .int .i64 p, .int .u64 u] w fun e w' => RunGot base X rest w (.tuple #[]) (R.set p u) e w' := by
 have hG : R.set p u = R := by unfold RunD.set; rw [if_pos hp]
 rw [hG];obtain ⟨H, HG⟩ := hd2 h hG;clear hG h;go_enter Try.func25, Try.ntmps25;go_wp2_with fail;go_end0;exact ⟨rfl, H.out, Below.refl _ _⟩
theorem set_reg (h : RunAt w base X R rest) {k : Nat} (hk : k < 16) (u : Int) :
  Calls Try.prog 25 #[.pointer (some ⟨X.rp, 0, none⟩), .int .i64 (k : Nat), .int .u64 u] w fun e w' => RunGot base X rest w (.tuple #[]) (R.set k u) e w' := by
 obtain ⟨V, hV⟩ := h.run
 have hG : R.set k u = { R with regs := R.regs.set k u } := by unfold RunD.set; rw [if_neg (by omega), if_pos (by omega)]; rfl
 rw [hG];have hb := hV.blk;have b1 : w.cell? ⟨X.rp, 1, none⟩ = some (.bool true) := hb.cell 1;have b2 : w.cell? ⟨X.rp, 2, none⟩ = some (.slice (some ⟨V.rg, 0, none⟩) 16 16) := hb.cell 2
 have hl : R.regs.length = 16 := by have := hV.regs.1; rwa [len_u64s] at this
 have hc := World.ownsRow.cellAt hV.regs k (by omega);rw [u64s_get _ _ (by omega)] at hc;have hz := World.ownsRow.frozenAt hV.regs k;obtain ⟨hle, hlt⟩ := own_le hV.regs
 have hbl := ((Below.refl base w).setCell (p := ⟨V.rg, k, none⟩) hle (.int .u64 u))
 have hfin := h.store (hV.setReg u hk) hbl;obtain ⟨g, hg⟩ := mn (V.rg);rw [hg] at hc b2 hz hbl hfin
 have hki : (k : Int) < 16 := by omega
 have hk0 : ¬ (k : Int) < 0 := by omega
 obtain ⟨Hfin, Hbl⟩ := hd2 hfin hbl;clear hbl hfin;clear hG hb h hV hl hg;go_enter Try.func25, Try.ntmps25;go_wp2_with fail;go_end0;exact ⟨rfl, Hfin.out, Hbl.out⟩
theorem set_place (h : RunAt w base X R rest) (hne : R.row ≠ []) {k : Nat} (h16 : 16 <= k) (hk : k < R.top.places.length) (hn : R.row.length <= 1048576) (u : Int) :
  Calls Try.prog 25 #[.pointer (some ⟨X.rp, 0, none⟩), .int .i64 (k : Nat), .int .u64 u] w fun e w' => RunGot base X rest w (.tuple #[]) (R.set k u) e w' := by
 obtain ⟨V, hV⟩ := h.run
 have hG : R.set k u = R.setTop { R.top with places := R.top.places.set k u } := by unfold RunD.set; rw [if_neg (by omega), if_neg (by omega)]; rfl
 rw [hG];have hb := hV.blk;obtain ⟨g, c, n, v, s, hv, hT⟩ := hV.top hne;have hlen := hT.len;have b1 : w.cell? ⟨X.rp, 1, none⟩ = some (.bool true) := hb.cell 1;have b3 : w.cell? ⟨X.rp, 3, none⟩ = some V.rv := hb.cell 3;rw [hT.rv] at b3;have f3 := hT.f3;have hpo := hT.pv;obtain ⟨A, pc, hpv, _⟩ := own_any hpo;rw [hpv] at hpo;obtain ⟨_, q, e, _, _, hcell⟩ := own_row hpo (by omega);subst e;have hc := hcell k _ (u64s_get _ _ hk);rw [addr_zero] at hc;have hz := World.ownsRow.frozenAt hpo k;obtain ⟨hle, hlt⟩ := own_le hpo
 have hbl := ((Below.refl base w).setCell (p := ⟨q, k, none⟩) hle (.int .u64 u))
 have hfin := h.store (hV.setPlace hne hv hpv hk u) hbl;rw [hpv] at f3;obtain ⟨m, hm⟩ := mn (R.top.places.length);rw [hm] at hk f3
 have hki : ¬ (k : Int) < 16 := by omega
 have hk0 : ¬ (k : Int) < 0 := by omega
 have hkm : (k : Int) < m := by omega
 have hn1 : IntKind.i64.wrap (n : Int) = n := by rw [IntKind.wrap_i64]; omega
 have hn2 : (n : Int) < n + 1 := by omega
 obtain ⟨Hfin, Hbl⟩ := hd2 hfin hbl;clear hbl hfin;clear hG hb h hV hm hlen hT hcell hpo hpv;go_enter Try.func25, Try.ntmps25;go_upto_region 3 with fail;refine wp_region_late (S := fun W => W.cell? ⟨X.rp, 3, none⟩ = some (.slice (some ⟨g, 0, none⟩) (n + 1) c) /\ W.cell? ⟨g, n * 9 + 3, none⟩ = some (.slice (some ⟨q, 0, none⟩) m pc) /\ W.cell? ⟨q, k, none⟩ = some _ /\ W.frozen? ⟨q, k, none⟩ = false) #[false, false, false, false, false, false, false, false, false, false, false, false, false, false, false, false, true] (by kernel_rfl) ⟨b3, f3, hc, hz⟩ (fun hHeld => ?_);refine wpAnyL_tk 0 ?_;refine wpAnyL_tk 1 ?_;refine wpAnyL_tk 2 ?_;refine wpAnyL_tk 3 ?_;refine wpAnyL_tk 4 ?_;refine wpAnyL_tk 5 ?_;refine wpAnyL_tk 6 ?_;refine wpAnyL_tk 7 ?_;refine wpAnyL_tk 8 ?_;refine wpAnyL_tk 9 ?_;refine wpAnyL_tk 10 ?_;refine wpAnyL_tk 11 ?_;refine wpAnyL_tk 12 ?_;refine wpAnyL_tk 13 ?_;refine wpAnyL_tk 14 ?_;refine wpAnyL_tk 15 ?_;refine wpAnyL_ls 16 (fun K hK => ?_);go_simp;refine hK.out _ _ ?_;clear hK K;refine lay ?_;refine wpAnyL_done (by kernel_rfl) ?_ _;go_wp2_with fail;go_end0;exact ⟨rfl, Hfin.out.drew, Hbl.out.drew⟩
/-- writing of any place that is there; -1: nothing -/
theorem set_any (h : RunAt w base X R rest) (hne : R.row ≠ []) {p : Int} (hp : p < 16 ∨ p < R.top.places.length) (hn : R.row.length <= 1048576) (u : Int) :
  Calls Try.prog 25 #[.pointer (some ⟨X.rp, 0, none⟩), .int .i64 p, .int .u64 u] w fun e w' => RunGot base X rest w (.tuple #[]) (R.set p u) e w' := by
 by_cases h0 : p < 0
 ·exact set_neg h h0
 ·obtain ⟨k, rfl⟩ : ∃ k : Nat, p = k := ⟨p.toNat, by omega⟩
  by_cases hk : k < 16
  ·exact set_reg h hk u
  ·exact set_place h hne (by omega) (by omega) hn u
end
end Go.Proofs.Ytncpehhfjkncoaa
