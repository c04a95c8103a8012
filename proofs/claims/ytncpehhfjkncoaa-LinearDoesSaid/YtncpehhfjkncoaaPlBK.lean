/- How much greater a run is behind a node. Conditions: none but that it has a frame. A run behind a node: its sizes, what is told, its steps. Conditions: none but that it has a frame. What a node asks of the graphs, for RunOk.stepN; a step keeps RunOk, its sizes and its steps. Conditions: those of a step. A run over a node: its steps are counted, and while it goes on it has a frame. Conditions: it has a frame. The loop of a whole run: what holds behind so many steps; one round's call. Conditions: graphs that are right, words within their type. A run that begins lies in memory. Conditions: its rows and its box lie there. -/
import Derived.Test.YtncpehhfjkncoaaPlAA
import Derived.Test.YtncpehhfjkncoaaPlAX
import Derived.Test.YtncpehhfjkncoaaPlAS
import Derived.Test.YtncpehhfjkncoaaPlBJ
import Derived.Test.YtncpehhfjkncoaaPlAG
set_option linter.unusedVariables false
set_option linter.unusedSimpArgs false
set_option maxRecDepth 100000
set_option maxHeartbeats 16000000
namespace Go.Proofs.Ytncpehhfjkncoaa
section
variable {gs : List GraphD} {r l w : Nat} {R R' : RunD}
/-- so great at most -/
structure Bd (r l w : Nat) (R : RunD) : Prop where
 row : R.row.length <= r
 list : R.list.length <= l
 waits : R.waiting <= w
theorem Bd.mono (h : Bd r l w R) {r' l' w' : Nat} (hr : r <= r') (hl : l <= l') (hw : w <= w') : Bd r' l' w' R := ⟨Nat.le_trans h.row hr, Nat.le_trans h.list hl, Nat.le_trans h.waits hw⟩
theorem setTop_len2 (hne : R.row ≠ []) (x : FrD) : (R.setTop x).row.length = R.row.length := by
 show R.row.tail.length + 1 = _;rw [List.length_tail];have := List.length_pos_iff.mpr hne
 omega
theorem setTop_wait' (hne : R.row ≠ []) (x : FrD) : (R.setTop x).waiting + R.top.waits.length = R.waiting + x.waits.length := by
 unfold RunD.setTop RunD.top RunD.waiting
 rcases hr : R.row with _ | ⟨y, r⟩
 ·exact absurd hr hne
 ·simp only [List.map_cons, List.sum_cons, List.headD_cons, List.tail_cons]
  omega
theorem Bd.setTop (h : Bd r l w R) (hne : R.row ≠ []) {x : FrD} {d : Nat} (hx : x.waits.length <= R.top.waits.length + d) : Bd r l (w + d) (R.setTop x) :=
 ⟨by rw [setTop_len2 hne]; exact h.row, h.list, by have := setTop_wait' hne x; have := h.waits; omega⟩
theorem Bd.set (h : Bd r l w R) (hne : R.row ≠ []) (p v : Int) : Bd r l w (R.set p v) := by
 unfold RunD.set
 split
 ·exact h
 ·split
  ·exact ⟨h.row, h.list, h.waits⟩
  ·exact h.setTop (d := 0) hne (Nat.le_refl _)
theorem Bd.par (h : Bd r l w R) (hne : R.row ≠ []) (g : GraphD) (args : List Int) : ∀ n, Bd r l w (R.par g args n)
 | 0 => h
 | n + 1 => by
  have ih := h.par hne g args n;have hr := (par_lens hne g args n).1;have h1 := ih.set hr (g.params.getD n 0) (args.getD n 0);have h2 := set_row (R.par g args n) (g.params.getD n 0) (args.getD n 0) hr;unfold RunD.par;dsimp only
  split
  ·exact h1.setTop (d := 0) h2 (Nat.le_refl _)
  ·exact h1
theorem Bd.push (h : Bd r l w R) (f : Int) (args : List Int) (why : Int) : Bd (r + 1) l w (R.push gs f args why) := by
 unfold RunD.push;refine Bd.par (R := { R with row := frNew (gAt gs f) f why :: R.row, depth := max R.depth (R.row.length + 1) }) ⟨?_, h.list, ?_⟩ (List.cons_ne_nil _ _) _ _ _
 ·show (frNew _ _ _ :: R.row).length <= r + 1;rw [List.length_cons];have := h.row
  omega
 ·show (List.map (fun x : FrD => x.waits.length) (frNew (gAt gs f) f why :: R.row)).sum <= w;rw [List.map_cons, List.sum_cons];have e : (frNew (gAt gs f) f why).waits.length = 0 := rfl;have := h.waits;unfold RunD.waiting at this;rw [e]; omega
theorem Bd.next (h : Bd r l w R) (hne : R.row ≠ []) {why : Int} (hn : R.next gs why = some R') : Bd (r + 1) l w R' := by
 unfold RunD.next at hn
 rcases hd : R.top.waits.getLast? with _ | d
 ·rw [hd] at hn; cases hn
 ·rw [hd] at hn;have hn : some _ = some R' := hn;injection hn with hn;rw [<- hn];exact (h.setTop (d := 0) hne (by show R.top.waits.dropLast.length <= _; rw [List.length_dropLast]; omega)).push _ _ _
theorem Bd.pop (h : Bd r l w R) : Bd r l w R.pop := by
 refine ⟨?_, h.list, ?_⟩
 ·show R.row.tail.length <= r;rw [List.length_tail];have := h.row
  omega
 ·have := h.waits;unfold RunD.waiting at this;show (List.map (fun x : FrD => x.waits.length) R.row.tail).sum <= w
  rcases hr : R.row with _ | ⟨x, q⟩
  ·rw [hr] at this;exact this
  ·rw [hr] at this;simp only [List.map_cons, List.sum_cons, List.tail_cons] at *
   omega
theorem Bd.unwind (hl : 1 <= l) : ∀ (n : Nat) {R : RunD}, Bd r l w R -> R.row ≠ [] -> Bd (r + 1) l w (R.unwind gs n)
 | 0, R, h, _ => h.mono (by omega) (Nat.le_refl _) (Nat.le_refl _)
 | n + 1, R, h, hne => by
  unfold RunD.unwind
  rcases hn : R.next gs 2 with _ | R'
  ·dsimp only;have hp := h.pop;obtain ⟨R2, hR2⟩ := mn ((if R.top.why = 2 then { R.pop with list := R.list.dropLast.dropLast ++ [R.last] } else R.pop));rw [hR2]
   have h2 : Bd r l w R2 := by
    rw [<- hR2]
    by_cases h2 : R.top.why = 2
    ·rw [if_pos h2];refine ⟨hp.row, ?_, hp.waits⟩;show (R.list.dropLast.dropLast ++ [R.last]).length <= l;rw [List.length_append, List.length_dropLast, List.length_dropLast, List.length_singleton];have := h.list
     omega
    ·rw [if_neg h2];exact hp
   by_cases hb : R2.row.isEmpty = true
   ·rw [if_pos hb];exact ⟨Nat.le_succ_of_le h2.row, h2.list, h2.waits⟩
   ·rw [if_neg hb];exact Bd.unwind hl n h2 (fun e => hb (by rw [e]; rfl))
  ·exact h.next hne hn
theorem Bd.back (h : Bd r l w R) (hne : R.row ≠ []) (v : Int) : Bd r l w (R.back gs v) := by
 have := h.setTop (d := 0) hne (x := { R.top with at_ := (nodeAt gs R.top).next }) (Nat.le_refl _);exact ⟨this.row, this.list, this.waits⟩
theorem Bd.settle (hl : 1 <= l) : ∀ (n : Nat) {R : RunD}, Bd r l w R -> R.row ≠ [] -> Bd (r + 1) l w (R.settle gs n)
 | 0, R, h, _ => h.mono (by omega) (Nat.le_refl _) (Nat.le_refl _)
 | n + 1, R, h, hne => by
  unfold RunD.settle;have h1 : Bd (r + 1) l w R := h.mono (by omega) (Nat.le_refl _) (Nat.le_refl _)
  split
  ·rcases hn : R.next gs 1 with _ | R'
   ·dsimp only;have hp := h.pop
    split
    ·exact ⟨Nat.le_succ_of_le hp.row, hp.list, hp.waits⟩
    ·next hb =>
     have hpe : R.pop.row ≠ [] := fun e => hb (by rw [e]; rfl)
     split
     ·exact Bd.settle hl n (hp.back hpe _) (back_up _ hpe)
     ·split
      ·split
       ·exact Bd.unwind hl _ hp hpe
       ·have hd : Bd r l w ({ R.pop with list := R.list.dropLast } : RunD) := ⟨hp.row, by show R.list.dropLast.length <= l; rw [List.length_dropLast]; have := h.list; omega, hp.waits⟩
        have hs : Bd r l (w + 0) (({ R.pop with list := R.list.dropLast } : RunD).setTop { R.pop.top with ends := true, ret := keepOf gs R.pop.top }) := hd.setTop hpe (Nat.le_refl _);exact Bd.settle hl n hs (setTop_row _).1
      ·exact Bd.settle hl n hp hpe
   ·exact h.next hne hn
  ·exact h1
theorem Bd.begin (h : Bd r l w R) (hne : R.row ≠ []) (v : Int) : Bd (r + 1) (l + 1) w (R.begin gs v) := by
 unfold RunD.begin;refine Bd.unwind (by omega) _ ⟨h.row, ?_, h.waits⟩ hne;show (R.list ++ [(v, false)]).length <= l + 1;rw [List.length_append, List.length_singleton];have := h.list
 omega
end
end Go.Proofs.Ytncpehhfjkncoaa
namespace Go.Proofs.Ytncpehhfjkncoaa
section
variable {gs : List GraphD} {r l w : Nat} {R : RunD}
theorem wl_modify (c : Nat) (v : Int) : ∀ (L : List FrD) (i : Nat), (L.modify i fun x => { x with cells := x.cells.set c v }).map (fun x => x.waits.length) = L.map fun x => x.waits.length
 | [], i => by simp
 | x :: L, 0 => by rw [List.modify_zero_cons]; rfl
 | x :: L, i + 1 => by rw [List.modify_succ_cons, List.map_cons, List.map_cons, wl_modify c v L i]
theorem Bd.goOn (h : Bd r l w R) (hne : R.row ≠ []) (t : Int) : Bd r l w (R.goOn t) := h.setTop (d := 0) hne (Nat.le_refl _)
theorem Bd.setGo (h : Bd r l w R) (hne : R.row ≠ []) (p v t : Int) : Bd (r + 1) (l + 1) (w + 1) ((R.set p v).goOn t) :=
 ((h.set hne p v).goOn (set_row R p v hne) t).mono (by omega) (by omega) (by omega)
theorem Bd.stepN (h : Bd r l w R) (hl : 1 <= l) (hne : R.row ≠ []) (n : NodeD) : Bd (r + 1) (l + 1) (w + 1) (stepN gs R n) := by
 have h1 : Bd (r + 1) (l + 1) (w + 1) R := h.mono (by omega) (by omega) (by omega)
 have hb : ∀ v, Bd (r + 1) (l + 1) (w + 1) (R.begin gs v) := fun v => (h.begin hne v).mono (Nat.le_refl _) (Nat.le_refl _) (by omega)
 unfold Go.Proofs.Ytncpehhfjkncoaa.stepN;dsimp only
 by_cases o1 : n.op = 1
 ·rw [if_pos o1]; exact h.setGo hne _ _ _
 rw [if_neg o1]
 by_cases o2 : n.op = 2
 ·rw [if_pos o2]; exact h.setGo hne _ _ _
 rw [if_neg o2]
 by_cases o3 : n.op = 3
 ·rw [if_pos o3]
  split
  ·exact h.setGo hne _ _ _
  ·exact hb _
 rw [if_neg o3]
 by_cases o4 : n.op = 4
 ·rw [if_pos o4]; exact h.setGo hne _ _ _
 rw [if_neg o4]
 by_cases o5 : n.op = 5
 ·rw [if_pos o5];exact ((h.setTop (d := 0) hne (x := { R.top with cells := R.top.cells.set n.cell.toNat (R.get n.a) }) (Nat.le_refl _)).goOn (setTop_row _).1 _).mono (by omega) (by omega) (by omega)
 rw [if_neg o5]
 by_cases o6 : n.op = 6
 ·rw [if_pos o6]; exact h.setGo hne _ _ _
 rw [if_neg o6]
 by_cases o7 : n.op = 7
 ·rw [if_pos o7]
  split
  ·exact hb _
  ·exact h.setGo hne _ _ _
 rw [if_neg o7]
 by_cases o8 : n.op = 8
 ·rw [if_pos o8]
  split
  ·exact hb _
  ·next i c _ =>
   have hlen : (R.setCell i c (R.get n.b)).row.length = R.row.length := by unfold RunD.setCell; dsimp only; rw [List.length_modify]
   have hw : (R.setCell i c (R.get n.b)).waiting = R.waiting := by
    unfold RunD.setCell RunD.waiting;dsimp only;rw [wl_modify]
   have h2 : Bd r l w (R.setCell i c (R.get n.b)) := ⟨by rw [hlen]; exact h.row, h.list, by rw [hw]; exact h.waits⟩
   exact (h2.goOn (fun e => by rw [e] at hlen; exact hne (List.eq_nil_of_length_eq_zero hlen.symm)) _).mono (by omega) (by omega) (by omega)
 rw [if_neg o8]
 by_cases o9 : n.op = 9
 ·rw [if_pos o9]; exact (h.goOn hne _).mono (by omega) (by omega) (by omega)
 rw [if_neg o9]
 by_cases o10 : n.op = 10
 ·rw [if_pos o10]; exact (h.goOn hne _).mono (by omega) (by omega) (by omega)
 rw [if_neg o10]
 by_cases o11 : n.op = 11
 ·rw [if_pos o11];exact ((h.setTop (d := 0) hne (x := { R.top with kept := R.regs }) (Nat.le_refl _)).push _ _ _).mono (Nat.le_refl _) (by omega) (by omega)
 rw [if_neg o11]
 by_cases o12 : n.op = 12
 ·rw [if_pos o12]
  split
  ·exact (Bd.settle hl _ (h.setTop (d := 0) hne (x := { R.top with ret := R.get n.a, ends := true }) (Nat.le_refl _)) (setTop_row _).1).mono (Nat.le_refl _) (by omega) (by omega)
  ·exact (Bd.settle hl _ (h.setTop (d := 0) hne (x := { R.top with ends := true }) (Nat.le_refl _)) (setTop_row _).1).mono (Nat.le_refl _) (by omega) (by omega)
 rw [if_neg o12]
 by_cases o13 : n.op = 13
 ·rw [if_pos o13];have h2 := h.setTop (d := 1) hne (x := { R.top with waits := R.top.waits ++ [(n.f, R.args n)] }) (by simp)
  have h3 : Bd r l (w + 1) { (R.setTop { R.top with waits := R.top.waits ++ [(n.f, R.args n)] }) with defers := max (R.setTop { R.top with waits := R.top.waits ++ [(n.f, R.args n)] }).defers (R.setTop { R.top with waits := R.top.waits ++ [(n.f, R.args n)] }).waiting } := ⟨h2.row, h2.list, h2.waits⟩
  exact (h3.goOn (setTop_row (R := R) _).1 _).mono (by omega) (by omega) (by omega)
 rw [if_neg o13]
 by_cases o14 : n.op = 14
 ·rw [if_pos o14]; exact hb _
 rw [if_neg o14]
 by_cases o15 : n.op = 15
 ·rw [if_pos o15]
  split
  ·have h2 : Bd r (l + 1) w ({ R with list := R.list.dropLast ++ [(R.last.1, true)] } : RunD) := ⟨h.row, by
    show (R.list.dropLast ++ [(R.last.1, true)]).length <= l + 1;rw [List.length_append, List.length_dropLast, List.length_singleton];have := h.list
    omega, h.waits⟩
   have h3 := h2.set hne n.d R.last.1;exact ((h3.set (set_row _ _ _ hne) n.e 1).goOn (set_row _ _ _ (set_row _ _ _ hne)) _).mono (by omega) (by omega) (by omega)
  ·have h3 := h.set hne n.d 0;exact ((h3.set (set_row _ _ _ hne) n.e 0).goOn (set_row _ _ _ (set_row _ _ _ hne)) _).mono (by omega) (by omega) (by omega)
 rw [if_neg o15]
 by_cases o16 : n.op = 16
 ·rw [if_pos o16]
  have h2 : Bd r l w ({ R with tape := R.tape.tail, events := R.events ++ [(2, R.tape.headD 0)] } : RunD) := ⟨h.row, h.list, h.waits⟩
  exact h2.setGo hne _ _ _
 rw [if_neg o16]
 by_cases o17 : n.op = 17
 ·rw [if_pos o17]
  have h2 : Bd r l w ({ R with events := R.events ++ [(1, R.get n.a)] } : RunD) := ⟨h.row, h.list, h.waits⟩
  exact (h2.goOn hne _).mono (by omega) (by omega) (by omega)
 rw [if_neg o17];exact ⟨h1.row, h1.list, h1.waits⟩
theorem goOn_ev (t : Int) : (R.goOn t).events = R.events := rfl
/-- one thing is told at most, and a step is counted -/
theorem stepN_ev (n : NodeD) : (stepN gs R n).events.length <= R.events.length + 1 := by
 have h0 : ∀ Q : RunD, Q.events = R.events -> Q.events.length <= R.events.length + 1 := fun Q h => by rw [h]; omega
 have hb : ∀ v, (R.begin gs v).events = R.events := fun v => ev_begin v
 unfold Go.Proofs.Ytncpehhfjkncoaa.stepN;dsimp only
 by_cases o1 : n.op = 1
 ·rw [if_pos o1]; exact h0 _ (by rw [goOn_ev, ev_set])
 rw [if_neg o1]
 by_cases o2 : n.op = 2
 ·rw [if_pos o2]; exact h0 _ (by rw [goOn_ev, ev_set])
 rw [if_neg o2]
 by_cases o3 : n.op = 3
 ·rw [if_pos o3]
  split
  ·exact h0 _ (by rw [goOn_ev, ev_set])
  ·exact h0 _ (hb _)
 rw [if_neg o3]
 by_cases o4 : n.op = 4
 ·rw [if_pos o4]; exact h0 _ (by rw [goOn_ev, ev_set])
 rw [if_neg o4]
 by_cases o5 : n.op = 5
 ·rw [if_pos o5]; exact h0 _ rfl
 rw [if_neg o5]
 by_cases o6 : n.op = 6
 ·rw [if_pos o6]; exact h0 _ (by rw [goOn_ev, ev_set])
 rw [if_neg o6]
 by_cases o7 : n.op = 7
 ·rw [if_pos o7]
  split
  ·exact h0 _ (hb _)
  ·exact h0 _ (by rw [goOn_ev, ev_set])
 rw [if_neg o7]
 by_cases o8 : n.op = 8
 ·rw [if_pos o8]
  split
  ·exact h0 _ (hb _)
  ·exact h0 _ rfl
 rw [if_neg o8]
 by_cases o9 : n.op = 9
 ·rw [if_pos o9]; exact h0 _ rfl
 rw [if_neg o9]
 by_cases o10 : n.op = 10
 ·rw [if_pos o10]; exact h0 _ rfl
 rw [if_neg o10]
 by_cases o11 : n.op = 11
 ·rw [if_pos o11]; exact h0 _ (by rw [ev_push]; rfl)
 rw [if_neg o11]
 by_cases o12 : n.op = 12
 ·rw [if_pos o12];refine h0 _ ?_;rw [ev_settle]
  split <;> rfl
 rw [if_neg o12]
 by_cases o13 : n.op = 13
 ·rw [if_pos o13]; exact h0 _ rfl
 rw [if_neg o13]
 by_cases o14 : n.op = 14
 ·rw [if_pos o14]; exact h0 _ (hb _)
 rw [if_neg o14]
 by_cases o15 : n.op = 15
 ·rw [if_pos o15]
  split
  ·exact h0 _ (by rw [goOn_ev, ev_set, ev_set])
  ·exact h0 _ (by rw [goOn_ev, ev_set, ev_set])
 rw [if_neg o15]
 by_cases o16 : n.op = 16
 ·rw [if_pos o16, goOn_ev, ev_set];show (R.events ++ [_]).length <= _;rw [List.length_append]; exact Nat.le_refl _
 rw [if_neg o16]
 by_cases o17 : n.op = 17
 ·rw [if_pos o17, goOn_ev];show (R.events ++ [_]).length <= _;rw [List.length_append]; exact Nat.le_refl _
 rw [if_neg o17];exact h0 _ rfl
end
end Go.Proofs.Ytncpehhfjkncoaa
namespace Go.Proofs.Ytncpehhfjkncoaa
open Go.RowKit
section
variable {w : World} {base N f i : Nat} {X : RunX} {R : RunD} {rest : List It} {g : GraphD} {x : NodeD}
theorem Stand.gAt {gs : List GraphD} (h : Stand gs R f i g x) : gAt gs R.top.f = g := by
 unfold Go.Proofs.Ytncpehhfjkncoaa.gAt;rw [h.fr, Int.toNat_natCast, List.getD_eq_getElem?_getD, h.gr]; rfl
theorem nodeOk_of {gs : List GraphD} (hg : GsW gs) (ok : RunOk gs 0 R) (st : Stand gs R f i g x) (hr : R.row.length <= 1000000) (himm : U64 x.imm) : NodeOk gs R x := by
 have gm : g ∈ gs := List.mem_of_getElem? st.gr;have xm : x ∈ g.nodes := List.mem_of_getElem? st.nd;obtain ⟨nd, ab⟩ := hg.nd g gm x xm
 have hc64 : g.cells <= 64 := by
  obtain ⟨j, hj⟩ := List.getElem?_of_mem gm;exact (hg.push j g _ hj rfl).c.2
 refine ⟨fun _ => himm, fun _ => doV_u64 _ _ _ (ok.get _) (ok.get _), fun h => ?_, fun h => ⟨nd.f h, ?_⟩, fun h => ?_, fun h => ?_, nd.op1⟩
 ·have := nd.cell (by omega);have hl : 0 < R.row.length := List.length_pos_iff.mpr st.ne;unfold U64
  omega
 ·have hab := ab h;unfold argsB at hab;rw [Bool.and_eq_true] at hab;obtain ⟨h1, h2⟩ := hab;unfold Go.Proofs.Ytncpehhfjkncoaa.gAt;rw [List.getD_eq_getElem?_getD]
  rcases hf : gs[x.f.toNat]? with _ | gg
  ·rw [hf] at h2; cases h2
  ·rw [hf] at h2;simp only [Bool.and_eq_true, decide_eq_true_eq] at h2;exact h2.1
 ·rw [st.gAt];refine nd.next x.next ?_;unfold nextL at h ⊢
  split
  ·rename_i q; rw [if_pos q] at h; exact absurd rfl h
  ·rename_i q; rw [if_neg q] at h
   split
   ·exact List.mem_cons_self ..
   ·rename_i q2; rw [if_neg q2] at h
    split
    ·rename_i q3; rw [if_pos q3] at h; exact absurd rfl h
    ·exact List.mem_cons_self ..
 ·rw [st.gAt]
  by_cases q : x.els = x.next
  ·rw [q];refine nd.next x.next ?_;unfold nextL;rw [if_neg (by omega), if_neg (fun h => h.2 q), if_neg (by omega)];exact List.mem_cons_self ..
  ·refine nd.next x.els ?_;unfold nextL;rw [if_neg (by omega), if_pos ⟨h, q⟩];simp
theorem RunOk.steps {gs : List GraphD} {q : Nat} (h : RunOk gs q R) (s : Int) : RunOk gs q { R with steps := s } := ⟨h.regs, h.row, h.calls, h.list, h.tape, h.events⟩
theorem step_ok {gs : List GraphD} (hg : GsW gs) (ok : RunOk gs 0 R) (st : Stand gs R f i g x) (hr : R.row.length <= 1000000) (himm : U64 x.imm) (he : (R.step gs).endK = 0) : RunOk gs 0 (R.step gs) := by
 have hop2 : R.step gs = stepN gs { R with steps := R.steps + 1 } x := by rw [step_eq, st.node]
 rw [hop2] at he ⊢
 have st2 : Stand gs { R with steps := R.steps + 1 } f i g x := ⟨st.ne, st.fr, st.gr, st.an, st.nd⟩
 have ok2 : RunOk gs 0 { R with steps := R.steps + 1 } := ok.steps _;exact ok2.stepN hg.gx st2.ne (nodeOk_of hg ok2 st2 hr himm) (fun _ => st2.node) he
theorem step_bd {gs : List GraphD} {r l v : Nat} (st : Stand gs R f i g x) (h : Bd r l v R) (hl : 1 <= l) : Bd (r + 1) (l + 1) (v + 1) (R.step gs) := by
 have hop2 : R.step gs = stepN gs { R with steps := R.steps + 1 } x := by rw [step_eq, st.node]
 rw [hop2];exact Bd.stepN (R := { R with steps := R.steps + 1 }) ⟨h.row, h.list, h.waits⟩ hl st.ne x
theorem step_evn {gs : List GraphD} (st : Stand gs R f i g x) : (R.step gs).events.length <= R.events.length + 1 := by
 have hop2 : R.step gs = stepN gs { R with steps := R.steps + 1 } x := by rw [step_eq, st.node]
 rw [hop2];exact stepN_ev (R := { R with steps := R.steps + 1 }) x
end
end Go.Proofs.Ytncpehhfjkncoaa
namespace Go.Proofs.Ytncpehhfjkncoaa
section
variable {gs : List GraphD} {R : RunD}
theorem sc_set (R : RunD) (p v : Int) : (R.set p v).steps = R.steps := by
 unfold RunD.set
 split
 ·rfl
 ·split <;> rfl
theorem sc_par (R : RunD) (g : GraphD) (args : List Int) : ∀ n, (R.par g args n).steps = R.steps
 | 0 => rfl
 | n + 1 => by
  unfold RunD.par;dsimp only;have h := (sc_set (R.par g args n) (g.params.getD n 0) (args.getD n 0)).trans (sc_par R g args n)
  split
  ·exact h
  ·exact h
theorem sc_push (f why : Int) (args : List Int) : (R.push gs f args why).steps = R.steps := by
 unfold RunD.push;rw [sc_par]
theorem sc_next {why : Int} {R' : RunD} (h : R.next gs why = some R') : R'.steps = R.steps := by
 unfold RunD.next at h
 rcases hd : R.top.waits.getLast? with _ | d
 ·rw [hd] at h; cases h
 ·rw [hd] at h;have h : some _ = some R' := h;injection h with h;rw [<- h, sc_push]; rfl
theorem sc_unwind : ∀ (n : Nat) (R : RunD), (R.unwind gs n).steps = R.steps
 | 0, R => rfl
 | n + 1, R => by
  unfold RunD.unwind
  rcases h : R.next gs 2 with _ | R'
  ·dsimp only
   split
   ·split
    ·rfl
    ·rw [sc_unwind n]; rfl
   ·split
    ·rfl
    ·rw [sc_unwind n]; rfl
  ·exact sc_next h
theorem sc_settle : ∀ (n : Nat) (R : RunD), (R.settle gs n).steps = R.steps
 | 0, R => rfl
 | n + 1, R => by
  unfold RunD.settle
  split
  ·rcases h : R.next gs 1 with _ | R'
   ·dsimp only
    split
    ·rfl
    ·split
     ·rw [sc_settle n]; rfl
     ·split
      ·split
       ·rw [sc_unwind]; rfl
       ·rw [sc_settle n]; rfl
      ·rw [sc_settle n]; rfl
   ·exact sc_next h
  ·rfl
theorem sc_begin (v : Int) : (R.begin gs v).steps = R.steps := by
 unfold RunD.begin;rw [sc_unwind]
theorem goOn_sc (t : Int) : (R.goOn t).steps = R.steps := rfl
/-- one thing is told at most, and a step is counted -/
theorem stepN_sc (n : NodeD) : (stepN gs R n).steps = R.steps := by
 have h0 : ∀ Q : RunD, Q.steps = R.steps -> Q.steps = R.steps := fun Q h => h
 have hb : ∀ v, (R.begin gs v).steps = R.steps := fun v => sc_begin v
 unfold Go.Proofs.Ytncpehhfjkncoaa.stepN;dsimp only
 by_cases o1 : n.op = 1
 ·rw [if_pos o1]; exact h0 _ (by rw [goOn_sc, sc_set])
 rw [if_neg o1]
 by_cases o2 : n.op = 2
 ·rw [if_pos o2]; exact h0 _ (by rw [goOn_sc, sc_set])
 rw [if_neg o2]
 by_cases o3 : n.op = 3
 ·rw [if_pos o3]
  split
  ·exact h0 _ (by rw [goOn_sc, sc_set])
  ·exact h0 _ (hb _)
 rw [if_neg o3]
 by_cases o4 : n.op = 4
 ·rw [if_pos o4]; exact h0 _ (by rw [goOn_sc, sc_set])
 rw [if_neg o4]
 by_cases o5 : n.op = 5
 ·rw [if_pos o5]; exact h0 _ rfl
 rw [if_neg o5]
 by_cases o6 : n.op = 6
 ·rw [if_pos o6]; exact h0 _ (by rw [goOn_sc, sc_set])
 rw [if_neg o6]
 by_cases o7 : n.op = 7
 ·rw [if_pos o7]
  split
  ·exact h0 _ (hb _)
  ·exact h0 _ (by rw [goOn_sc, sc_set])
 rw [if_neg o7]
 by_cases o8 : n.op = 8
 ·rw [if_pos o8]
  split
  ·exact h0 _ (hb _)
  ·exact h0 _ rfl
 rw [if_neg o8]
 by_cases o9 : n.op = 9
 ·rw [if_pos o9]; exact h0 _ rfl
 rw [if_neg o9]
 by_cases o10 : n.op = 10
 ·rw [if_pos o10]; exact h0 _ rfl
 rw [if_neg o10]
 by_cases o11 : n.op = 11
 ·rw [if_pos o11]; exact h0 _ (by rw [sc_push]; rfl)
 rw [if_neg o11]
 by_cases o12 : n.op = 12
 ·rw [if_pos o12];refine h0 _ ?_;rw [sc_settle]
  split <;> rfl
 rw [if_neg o12]
 by_cases o13 : n.op = 13
 ·rw [if_pos o13]; exact h0 _ rfl
 rw [if_neg o13]
 by_cases o14 : n.op = 14
 ·rw [if_pos o14]; exact h0 _ (hb _)
 rw [if_neg o14]
 by_cases o15 : n.op = 15
 ·rw [if_pos o15]
  split
  ·exact h0 _ (by rw [goOn_sc, sc_set, sc_set])
  ·exact h0 _ (by rw [goOn_sc, sc_set, sc_set])
 rw [if_neg o15]
 by_cases o16 : n.op = 16
 ·rw [if_pos o16, goOn_sc, sc_set]
 rw [if_neg o16]
 by_cases o17 : n.op = 17
 ·rw [if_pos o17, goOn_sc]
 rw [if_neg o17]

theorem next_rowne {why : Int} {R' : RunD} (h : R.next gs why = some R') : R'.row ≠ [] := by
 unfold RunD.next at h
 rcases hd : R.top.waits.getLast? with _ | d
 ·rw [hd] at h; cases h
 ·rw [hd] at h;have h : some _ = some R' := h;injection h with h;rw [<- h];exact push_row _ _ _
theorem unwind_rowne : ∀ (n : Nat) (R : RunD), R.row ≠ [] -> R.row.length <= n -> (R.unwind gs n).endK = 0 -> (R.unwind gs n).row ≠ []
 | 0, R, hne, hl => absurd (List.length_eq_zero_iff.mp (Nat.le_zero.mp hl)) hne
 | n + 1, R, hne, hl => by
  have hl2 : R.row.tail.length <= n := by rw [List.length_tail]; omega
  unfold RunD.unwind
  rcases h : R.next gs 2 with _ | R'
  ·dsimp only
   split
   ·split
    ·intro he; cases he
    ·rename_i q
     exact unwind_rowne n _ (fun h => q (by rw [h]; rfl)) hl2
   ·split
    ·intro he; cases he
    ·rename_i q
     exact unwind_rowne n _ (fun h => q (by rw [h]; rfl)) hl2
  ·exact fun _ => next_rowne h
theorem settle_rowne : ∀ (n : Nat) (R : RunD), R.row ≠ [] -> R.row.length <= n -> (R.settle gs n).endK = 0 -> (R.settle gs n).row ≠ []
 | 0, R, hne, hl => absurd (List.length_eq_zero_iff.mp (Nat.le_zero.mp hl)) hne
 | n + 1, R, hne, hl => by
  have hl2 : R.row.tail.length <= n := by rw [List.length_tail]; omega
  unfold RunD.settle
  split
  ·rcases h : R.next gs 1 with _ | R'
   ·dsimp only
    split
    ·intro he; cases he
    ·rename_i q
     have hpne : R.pop.row ≠ [] := fun h => q (by rw [h]; rfl)
     have hpl : R.pop.row.tail.length + 1 <= n := by
      have h1 : 0 < R.pop.row.length := List.length_pos_iff.mpr hpne;have h2 : R.pop.row.length <= n := hl2;rw [List.length_tail]; omega
     split
     ·exact settle_rowne n _ (List.cons_ne_nil _ _) hpl
     ·split
      ·split
       ·exact unwind_rowne _ _ hpne (Nat.le_refl _)
       ·exact settle_rowne n _ (List.cons_ne_nil _ _) hpl
      ·exact settle_rowne n _ hpne hl2
   ·exact fun _ => next_rowne h
  ·exact fun _ => hne
theorem begin_rowne (hne : R.row ≠ []) (v : Int) : (R.begin gs v).endK = 0 -> (R.begin gs v).row ≠ [] := by
 unfold RunD.begin;exact unwind_rowne _ _ hne (Nat.le_refl _)
/-- while it goes on it has a frame -/
def UpR (R : RunD) : Prop := R.endK = 0 -> R.row ≠ []
theorem stepN_upr (hne : R.row ≠ []) (n : NodeD) : UpR (stepN gs R n) := by
 have hb : ∀ v, UpR (R.begin gs v) := fun v => begin_rowne hne v
 have hgo : ∀ (Q : RunD) (t : Int), UpR (Q.goOn t) := fun Q t _ => List.cons_ne_nil _ _
 have hpu : ∀ (Q : RunD) (f : Int) (a : List Int) (y : Int), UpR (Q.push gs f a y) := fun Q f a y _ => push_row _ _ _
 have hse : ∀ (v : FrD), UpR ((R.setTop v).settle gs R.row.length) := fun v => settle_rowne _ _ (List.cons_ne_nil _ _) (by
  show R.row.tail.length + 1 <= _;have := List.length_pos_iff.mpr hne
  rw [List.length_tail]; omega)
 unfold Go.Proofs.Ytncpehhfjkncoaa.stepN;dsimp only
 by_cases o12 : n.op = 12
 ·rw [o12];simp only [Int.reduceEq, if_false, if_true]
  split
  ·exact hse _
  ·exact hse _
 rw [if_neg o12]
 by_cases o7 : n.op = 7
 ·rw [o7];simp only [Int.reduceEq, if_false, if_true]
  split
  ·exact hb _
  ·exact hgo _ _
 rw [if_neg o7]
 by_cases o8 : n.op = 8
 ·rw [o8];simp only [Int.reduceEq, if_false, if_true]
  split
  ·exact hb _
  ·exact hgo _ _
 rw [if_neg o8]
 by_cases o1 : n.op = 1
 ·rw [if_pos o1]
  first | exact hgo _ _ | exact hb _ | exact hpu _ _ _ _
 rw [if_neg o1]
 by_cases o2 : n.op = 2
 ·rw [if_pos o2]
  first | exact hgo _ _ | exact hb _ | exact hpu _ _ _ _
 rw [if_neg o2]
 by_cases o3 : n.op = 3
 ·rw [if_pos o3]
  split
  ·exact hgo _ _
  ·first | exact hgo _ _ | exact hb _
 rw [if_neg o3]
 by_cases o4 : n.op = 4
 ·rw [if_pos o4]
  first | exact hgo _ _ | exact hb _ | exact hpu _ _ _ _
 rw [if_neg o4]
 by_cases o5 : n.op = 5
 ·rw [if_pos o5]
  first | exact hgo _ _ | exact hb _ | exact hpu _ _ _ _
 rw [if_neg o5]
 by_cases o6 : n.op = 6
 ·rw [if_pos o6]
  first | exact hgo _ _ | exact hb _ | exact hpu _ _ _ _
 rw [if_neg o6]
 by_cases o9 : n.op = 9
 ·rw [if_pos o9]
  first | exact hgo _ _ | exact hb _ | exact hpu _ _ _ _
 rw [if_neg o9]
 by_cases o10 : n.op = 10
 ·rw [if_pos o10]
  first | exact hgo _ _ | exact hb _ | exact hpu _ _ _ _
 rw [if_neg o10]
 by_cases o11 : n.op = 11
 ·rw [if_pos o11]
  first | exact hgo _ _ | exact hb _ | exact hpu _ _ _ _
 rw [if_neg o11]
 by_cases o13 : n.op = 13
 ·rw [if_pos o13]
  first | exact hgo _ _ | exact hb _ | exact hpu _ _ _ _
 rw [if_neg o13]
 by_cases o14 : n.op = 14
 ·rw [if_pos o14]
  first | exact hgo _ _ | exact hb _ | exact hpu _ _ _ _
 rw [if_neg o14]
 by_cases o15 : n.op = 15
 ·rw [if_pos o15]
  split
  ·exact hgo _ _
  ·first | exact hgo _ _ | exact hb _
 rw [if_neg o15]
 by_cases o16 : n.op = 16
 ·rw [if_pos o16]
  first | exact hgo _ _ | exact hb _ | exact hpu _ _ _ _
 rw [if_neg o16]
 by_cases o17 : n.op = 17
 ·rw [if_pos o17]
  first | exact hgo _ _ | exact hb _ | exact hpu _ _ _ _
 rw [if_neg o17]
 exact fun _ => hne
end
end Go.Proofs.Ytncpehhfjkncoaa
namespace Go.Proofs.Ytncpehhfjkncoaa
open Go.RowKit
/-- words of the graphs -/
def ImmU (gs : List GraphD) : Prop := ∀ g ∈ gs, ∀ x ∈ g.nodes, U64 x.imm
/-- behind k steps -/
structure LpI (gs : List GraphD) (k : Nat) (R : RunD) : Prop where
 ok : R.endK = 0 -> RunOk gs 0 R
 ne : UpR R
 bd : Bd (k + 1) (k + 1) (k + 1) R
 ev : R.events.length <= k
 steps : R.steps = k
section
variable {gs : List GraphD} {k : Nat} {R : RunD} {w : World} {base : Nat} {X : RunX} {rest : List It}
theorem zOk {tape : List Int} (ht : ∀ v ∈ tape, U64 v) : RunOk gs 0 (runZ tape) :=
 ⟨⟨rfl, fun v hv => by rw [List.eq_of_mem_replicate hv]; unfold U64; omega⟩, nofun, trivial, ⟨rfl, nofun⟩, ht, nofun⟩
theorem LpI.start (hg : GsW gs) (h1 : 0 < gs.length) {tape : List Int} (ht : ∀ v ∈ tape, U64 v) : LpI gs 0 ((runZ tape).push gs 0 [] 0) where
 ok := fun _ => RunOk.push hg.gx (zOk ht) ⟨Int.le_refl 0, by omega⟩ (.inl rfl) nofun (fun _ h => absurd rfl h)
 ne := fun _ => push_row _ _ _
 bd := ((Bd.push (r := 0) (l := 0) (w := 0) ⟨Nat.le_refl _, Nat.le_refl _, Nat.le_refl _⟩ 0 [] 0).mono (Nat.le_refl _) (Nat.zero_le _) (Nat.zero_le _))
 ev := by rw [ev_push]; exact Nat.le_refl _
 steps := by rw [sc_push]; rfl
theorem LpI.step (hg : GsW gs) (hi : ImmU gs) (h : LpI gs k R) (he : R.endK = 0) (hk : k + 1 <= 1000000) : LpI gs (k + 1) (R.step gs) := by
 obtain ⟨f, i, g, x, st, gm, xm⟩ := stand_of hg (h.ok he) (h.ne he);have hr : R.row.length <= 1000000 := Nat.le_trans h.bd.row hk;refine ⟨fun h2 => step_ok hg (h.ok he) st hr (hi g gm x xm) h2, ?_, step_bd st h.bd (by omega), Nat.le_trans (step_evn st) (Nat.succ_le_succ h.ev), ?_⟩
 ·rw [step_eq];exact stepN_upr (R := { R with steps := R.steps + 1 }) st.ne _
 ·rw [step_eq, stepN_sc];show R.steps + 1 = _;rw [h.steps]; rfl
/-- one round's call -/
theorem step_lp (hg : GsW X.gs) (hr : RunAt w base X R rest) (h : LpI X.gs k R) (he : R.endK = 0) (hk : k + 2 <= 1000000) :
  Calls Try.prog 15 #[.pointer (some ⟨X.rp, 0, none⟩)] w fun e w' => RunGot base X rest w (.tuple #[]) (R.step X.gs) e w' := by
 obtain ⟨f, i, g, x, st, gm, xm⟩ := stand_of hg (h.ok he) (h.ne he);refine step_any (N := k + 1) ⟨hg, hr, h.ok he, ⟨h.bd.row, h.bd.list, h.bd.waits⟩, by omega, st, gm, xm, he, ?_, (hg.nd g gm x xm).1⟩ ?_
 ·have := h.steps; omega
 ·have := h.ev; omega
end
end Go.Proofs.Ytncpehhfjkncoaa
namespace Go.Proofs.Ytncpehhfjkncoaa
open Go.RowKit
section
variable {w : World} {base B rp rg : Nat} {gv tv : Value} {gs : List GraphD} {tape : List Int}
theorem start_at (hle : B <= base) (hgs : GraphsAt w B gv gs)
  (hit : Items w base [.row tv 34 1 tape.length (u64s tape), .row (.slice (some ⟨rg, 0, none⟩) 16 16) 34 1 16 (u64s (List.replicate 16 0)),
   .blk rp 41 #[gv, .bool true, .slice (some ⟨rg, 0, none⟩) 16 16, .slice none 0 0, .slice none 0 0, tv, .slice none 0 0, .int .i64 0, .int .u64 0, .int .i64 0, .int .i64 0, .int .i64 0, .int .i64 0]]) :
  RunAt w base ⟨rp, gv, gs, B⟩ (runZ tape) [] := by
 have h0 : w.ownsRow base 34 1 tv tape.length (u64s tape) := hit.each _ List.mem_cons_self;refine ⟨hle, hgs, ⟨rg, .slice none 0 0, .slice none 0 0, tv, .slice none 0 0, tv, tape, []⟩, ?_, trivial, ?_⟩
 ·rcases h0.2 with ⟨e1, e2⟩ | ⟨g, cap, cur, e1, _, _, e2, e3, _⟩
  ·refine ⟨none, 0, ?_, by show tape.length <= 0; omega, by unfold maxLen; omega, fun h => absurd (show 0 < tape.length from h) (by omega)⟩;show tv = .slice none tape.length 0;rw [e1, e2]
  ·exact ⟨some ⟨g, 0, none⟩, cap, e1, e2, e3, fun _ => ⟨g, 0, tape.length, cap, e1, rfl, rfl, rfl⟩⟩
 ·have n1 := hit.cons (x := .row (.slice none 0 0) 62 2 0 []) (World.ownsRow_nil _ _ _ _) (fun b e => by cases e);have n2 := n1.cons (x := .row (.slice none 0 0) 96 2 0 []) (World.ownsRow_nil _ _ _ _) (fun b e => by cases e);have n3 := n2.cons (x := .row (.slice none 0 0) 82 9 0 []) (World.ownsRow_nil _ _ _ _) (fun b e => by cases e);refine Items.perm n3 ?_;show List.Perm _ [It.blk rp 41 #[gv, .bool true, .slice (some ⟨rg, 0, none⟩) 16 16, .slice none 0 0, .slice none 0 0, tv, .slice none 0 0, .int .i64 0, .int .u64 0, .int .i64 0, .int .i64 0, .int .i64 0, .int .i64 0], It.row (.slice (some ⟨rg, 0, none⟩) 16 16) 34 1 16 (u64s (List.replicate 16 0)), It.row (.slice none 0 0) 82 9 0 [], It.row (.slice none 0 0) 96 2 0 [], It.row tv 34 1 tape.length (u64s tape), It.row (.slice none 0 0) 62 2 0 []];generalize It.blk rp _ _ = a;generalize It.row (.slice (some ⟨rg, 0, none⟩) 16 16) _ _ _ _ = b;generalize It.row (.slice none 0 0) 82 _ _ _ = c;generalize It.row (.slice none 0 0) 96 _ _ _ = d;generalize It.row (.slice none 0 0) 62 _ _ _ = e;generalize It.row tv _ _ _ _ = t;have p1 : List.Perm [c, d, e, t, b, a] [c, d, t, e, b, a] := ((List.Perm.swap _ _ _).cons d).cons c;have p2 : List.Perm ([c, d, t, e] ++ [b, a]) ([b, a] ++ [c, d, t, e]) := List.perm_append_comm;exact (p1.trans p2).trans (List.Perm.swap _ _ _)
end
end Go.Proofs.Ytncpehhfjkncoaa
