/- Two runs side by side: returns, panics, the ends of frames. Conditions: nodes lead to nodes. Two runs side by side: one node that is no jump. Conditions: nodes lead to nodes, calls to functions. Two runs side by side: so many steps of the one are so many of the other. Conditions: nodes lead to nodes, calls to functions. -/
import Derived.Test.YtncpehhfjkncoaaPlAA
import Derived.Test.YtncpehhfjkncoaaPlAQ
set_option linter.unusedVariables false
set_option linter.unusedSimpArgs false
set_option maxRecDepth 100000
set_option maxHeartbeats 16000000
namespace Go.Proofs.Ytncpehhfjkncoaa
section
variable {gs : List GraphD} {k : Int} {R S : RunD}
theorem Sim.pop (h : Sim gs k R S) (hne : R.row ≠ []) : Sim gs R.top.why R.pop S.pop := by
 obtain ⟨x, r, y, s, h1, h2, h3, h4, h5, h6, h7⟩ := h.cases hne
 have hx : R.top = x := by unfold RunD.top; rw [h1]; rfl
 refine { h with row := ?_ };show Rows2 gs R.top.why R.row.tail S.row.tail;rw [h1, h2, hx];exact h7
theorem Sim.one (h : Sim gs 1 R S) : Sim gs (-1) R S := by
 refine { h with row := ?_ };have hr := h.row
 rcases hx : R.row with _ | ⟨x, r⟩
 ·have := h.len;rw [hx] at this;rw [List.eq_nil_of_length_eq_zero this]
  trivial
 ·rcases hy : S.row with _ | ⟨y, s⟩
  ·rw [hx, hy] at hr; exact hr.elim
  ·rw [hx, hy] at hr;refine ⟨hr.1, hr.2.1, hr.2.2.1, ?_, hr.2.2.2.2⟩;have h1 := hr.2.2.2.1;unfold AtK at h1 ⊢;rw [if_neg (by omega), if_neg (by omega), if_pos rfl] at h1;rw [if_pos rfl];exact .inl h1
theorem Sim.any (h : Sim gs k R S) (he : R.row = []) (k' : Int) : Sim gs k' R S := by
 refine { h with row := ?_ };have := h.len;rw [he] at this;rw [he, List.eq_nil_of_length_eq_zero this]
 trivial
theorem Sim.lst (h : Sim gs k R S) (l : List (Int × Bool)) : Sim gs k { R with list := l } { S with list := l } := { h with list := rfl }
theorem why_cases (h : Sim gs k R S) (hne : R.row ≠ []) : R.top.why = 0 ∨ R.top.why = 1 ∨ R.top.why = 2 := by
 obtain ⟨x, r, y, s, h1, h2, h3, h4, h5, h6, h7⟩ := h.cases hne;unfold RunD.top;rw [h1];exact h5
theorem node_real (hg : GsL gs) {x y : FrD} (hf : 0 <= x.f /\ x.f < gs.length) (hl : Like x y) {i c : Nat} (hx : x.at_ = i) (hy : y.at_ = c) (hat : (lsOf gs x.f).at_ i = some c) :
  nodeAt gs x = nd (nsOf gs x.f) i /\ nodeAt (gs.map lineG) y = fixN (lsOf gs x.f).at_ c (laid (nsOf gs x.f) i) := by
 obtain ⟨hns, he0, he1⟩ := hg _ (gAt_mem hf.1 hf.2);refine ⟨?_, ?_⟩
 ·unfold nodeAt;rw [hx, Int.toNat_natCast]; rfl
 ·unfold nodeAt;rw [hl.f, hy, gAt_line hf.1 hf.2, Int.toNat_natCast];exact line_at (line_good hns (entry := (gAt gs x.f).entry.toNat) (by omega)) hat
/-- behind a node of the line: there the two are again -/
theorem foll_top (hg : GsL gs) {x y : FrD} (hf : 0 <= x.f /\ x.f < gs.length) {i c : Nat} (hi : i < (nsOf gs x.f).length) (hat : (lsOf gs x.f).at_ i = some c) (h10 : (nd (nsOf gs x.f) i).op ≠ 10) (hn : nextL (nd (nsOf gs x.f) i) ≠ []) :
  AtTop gs { x with at_ := (nd (nsOf gs x.f) i).next } { y with at_ := ((c : Nat) : Int) + 1 } := by
 obtain ⟨hns, he0, he1⟩ := hg _ (gAt_mem hf.1 hf.2);have hL := line_good hns (entry := (gAt gs x.f).entry.toNat) (by omega);obtain ⟨_, _, h3, _⟩ := hL.at_ i c hat;have hr := hns.next _ (nd_mem hi) _ (next_mem hn);have hr0 : 0 <= (nd (nsOf gs x.f) i).next := hr.1;refine ⟨(nd (nsOf gs x.f) i).next.toNat, c + 1, ?_, ?_, ?_, ?_⟩
 ·show (nd (nsOf gs x.f) i).next = _
  omega
 ·show ((c : Nat) : Int) + 1 = ((c + 1 : Nat) : Int)
  omega
 ·show (nd (nsOf gs x.f) i).next.toNat < (nsOf gs x.f).length;have : (nd (nsOf gs x.f) i).next < ((nsOf gs x.f).length : Int) := hr.2
  omega
 ·rcases h3 h10 hn with h | h
  ·exact .inl h
  ·exact .inr h
theorem Sim.back (hg : GsL gs) (h : Sim gs 0 R S) (hne : R.row ≠ []) (v : Int) : Sim gs (-1) (R.back gs v) (S.back (gs.map lineG) v) := by
 have hl := h.like;have hf := (h.frIn hne).1;have hc := h.atK hne;unfold AtK at hc;rw [if_neg (by omega), if_pos rfl] at hc;obtain ⟨i, c, e1, e2, e3, e4, e5⟩ := hc;obtain ⟨n1, n2⟩ := node_real hg hf hl e1 e2 e4
 have h10 : (nd (nsOf gs R.top.f) i).op ≠ 10 := by omega
 have hnn : nextL (nd (nsOf gs R.top.f) i) ≠ [] := by
  unfold nextL;rw [if_neg (by omega), if_neg (by omega), if_neg (by omega)];simp
 obtain ⟨a, b, m1, m2, _⟩ := fix_real (at_ := (lsOf gs R.top.f).at_) (c := c) h10;rw [m1] at n2;have ha := m2 hnn;have hat := foll_top hg (x := R.top) (y := S.top) hf e3 e4 h10 hnn
 have hs := h.setTop hne (x' := { R.top with at_ := (nodeAt gs R.top).next }) (y' := { S.top with at_ := (nodeAt (gs.map lineG) S.top).next }) (k' := -1) ⟨hl.f, hl.why, hl.places, hl.cells, hl.waits, hl.ends, hl.ret, hl.kept⟩ rfl rfl (h.frIn hne).2 (by
  unfold AtK;rw [if_pos rfl];refine .inr ?_;rw [n1, n2, ha]
  exact hat)
 have hres : (gAt (gs.map lineG) (nodeAt (gs.map lineG) S.top).f).result = (gAt gs (nodeAt gs R.top).f).result := by
  rw [n1, n2];exact (gAt_same gs _).1
 refine { hs with regs := ?_ }
 show (if _ then _ else _ : List Int) = if _ then _ else _
 rw [hres, hl.kept]
theorem back_up (v : Int) (hne : R.row ≠ []) : (R.back gs v).row ≠ [] := by unfold RunD.back; simp
theorem Sim.unwind (hg : GsL gs) : ∀ (n : Nat) {k : Int} {R S : RunD}, Sim gs k R S -> R.row ≠ [] -> R.row.length <= n -> Sim gs (-1) (R.unwind gs n) (S.unwind (gs.map lineG) n) /\ Up (R.unwind gs n)
 | 0, _, R, _, _, hne, hl => absurd (List.eq_nil_of_length_eq_zero (by omega)) hne
 | n + 1, k, R, S, h, hne, hn => by
  have hl := h.like;unfold RunD.unwind
  rcases h.next hg hne (.inl rfl) with ⟨h1, h2⟩ | ⟨R', S', h1, h2, h3, h4⟩
  ·rw [h1, h2];dsimp only
   have hp : Sim gs 2 (if R.top.why = 2 then { R.pop with list := R.list.dropLast.dropLast ++ [R.last] } else R.pop) (if S.top.why = 2 then { S.pop with list := S.list.dropLast.dropLast ++ [S.last] } else S.pop) := by
    rw [hl.why, h.list, h.last]
    split
    ·exact (h.pop hne).weak.lst _
    ·exact (h.pop hne).weak
   obtain ⟨R2, hR2⟩ := mn ((if R.top.why = 2 then { R.pop with list := R.list.dropLast.dropLast ++ [R.last] } else R.pop));obtain ⟨S2, hS2⟩ := mn ((if S.top.why = 2 then { S.pop with list := S.list.dropLast.dropLast ++ [S.last] } else S.pop))
   have hlen : R2.row.length + 1 = R.row.length := by
    rw [<- hR2]
    have : R.row.tail.length + 1 = R.row.length := by
     rcases hr : R.row with _ | ⟨x, r⟩
     ·exact absurd hr hne
     ·rfl
    split
    ·exact this
    ·exact this
   rw [hR2, hS2] at hp;rw [hR2, hS2];have hle := hp.len
   by_cases he : R2.row = []
   ·have hs2 : S2.row = [] := by rw [he] at hle; exact List.eq_nil_of_length_eq_zero hle
    have e1 : R2.row.isEmpty = true := by rw [he]; rfl
    have e2 : S2.row.isEmpty = true := by rw [hs2]; rfl
    rw [if_pos e1, if_pos e2];refine ⟨?_, fun h => by cases h⟩;have h5 := hp.any he (-1);refine { h5 with endK := rfl, endV := ?_ };show S2.last.1 = R2.last.1;rw [hp.last]
   ·have hs2 : S2.row ≠ [] := fun e => by
     rw [e] at hle;exact he (List.eq_nil_of_length_eq_zero hle.symm)
    have e1 : R2.row.isEmpty = false := by simpa using he
    have e2 : S2.row.isEmpty = false := by simpa using hs2
    rw [e1, e2];simp only [Bool.false_eq_true, if_false];exact Sim.unwind hg n hp he (by omega)
  ·rw [h1, h2];exact ⟨h3, h4⟩
theorem Sim.begin (hg : GsL gs) (h : Sim gs k R S) (hne : R.row ≠ []) (v : Int) : Sim gs (-1) (R.begin gs v) (S.begin (gs.map lineG) v) /\ Up (R.begin gs v) := by
 unfold RunD.begin;rw [h.len]
 have hs : Sim gs k { R with list := R.list ++ [(v, false)], panics := max R.panics (R.list.length + 1) } { S with list := S.list ++ [(v, false)], panics := max S.panics (S.list.length + 1) } := { h with list := by rw [h.list], panics := by rw [h.list, h.panics] }
 exact Sim.unwind hg _ hs hne (Nat.le_refl _)
theorem setTop_len {x : FrD} (hne : R.row ≠ []) : (R.setTop x).row.length = R.row.length := by
 unfold RunD.setTop
 rcases hr : R.row with _ | ⟨z, r⟩
 ·exact absurd hr hne
 ·rfl
theorem keep_same {x y : FrD} (hl : Like x y) : keepOf (gs.map lineG) y = keepOf gs x := by
 unfold keepOf;rw [hl.f, (gAt_same gs x.f).2.1, hl.cells]
theorem Sim.settle (hg : GsL gs) : ∀ (n : Nat) {R S : RunD}, Sim gs (-1) R S -> R.row ≠ [] -> R.row.length <= n -> Sim gs (-1) (R.settle gs n) (S.settle (gs.map lineG) n) /\ Up (R.settle gs n)
 | 0, R, _, _, hne, hl => absurd (List.eq_nil_of_length_eq_zero (by omega)) hne
 | n + 1, R, S, h, hne, hn => by
  have hl := h.like;unfold RunD.settle;rw [h.endK, hl.ends]
  by_cases hc : R.endK = 0 /\ R.top.ends = true
  ·rw [if_pos hc, if_pos hc]
   rcases h.next hg hne (.inr ⟨rfl, hc.2⟩) with ⟨h1, h2⟩ | ⟨R', S', h1, h2, h3, h4⟩
   ·rw [h1, h2];dsimp only;have hp := h.pop hne
    have hlen : R.pop.row.length + 1 = R.row.length := by
     show R.row.tail.length + 1 = _
     rcases hr : R.row with _ | ⟨x, r⟩
     ·exact absurd hr hne
     ·rfl
    have hle := hp.len
    by_cases he : R.pop.row = []
    ·have hs2 : S.pop.row = [] := by rw [he] at hle; exact List.eq_nil_of_length_eq_zero hle
     have e1 : R.pop.row.isEmpty = true := by rw [he]; rfl
     have e2 : S.pop.row.isEmpty = true := by rw [hs2]; rfl
     rw [if_pos e1, if_pos e2];exact ⟨{ hp.any he (-1) with endK := rfl, endV := rfl }, fun h => by cases h⟩
    ·have hs2 : S.pop.row ≠ [] := fun e => by
      rw [e] at hle;exact he (List.eq_nil_of_length_eq_zero hle.symm)
     have e1 : R.pop.row.isEmpty = false := by simpa using he
     have e2 : S.pop.row.isEmpty = false := by simpa using hs2
     rw [e1, e2];simp only [Bool.false_eq_true, if_false];rw [hl.why, hl.ret, h.list, h.last]
     rcases why_cases h hne with hw | hw | hw
     ·rw [if_pos hw, if_pos hw];rw [hw] at hp;refine Sim.settle hg n (hp.back hg he _) (back_up _ he) ?_
      have : (R.pop.back gs R.top.ret).row.length = R.pop.row.length := by
       unfold RunD.back
       rcases hr : R.pop.row with _ | ⟨x, r⟩
       ·exact absurd hr he
       ·rfl
      omega
     ·have q0 : ¬ R.top.why = 0 := by omega
      have q2 : ¬ R.top.why = 2 := by omega
      simp only [if_neg q0, if_neg q2];rw [hw] at hp;exact Sim.settle hg n hp.one he (by omega)
     ·have q0 : ¬ R.top.why = 0 := by omega
      simp only [if_neg q0, if_pos hw]
      by_cases hr : R.last.2 = false
      ·rw [if_pos hr, if_pos hr, hle];exact Sim.unwind hg _ hp he (Nat.le_refl _)
      ·rw [if_neg hr, if_neg hr];have hq := hp.lst R.list.dropLast;have hql := hq.like;have hst := hq.setTop he (k' := -1) (x' := { R.pop.top with ends := true, ret := keepOf gs R.pop.top }) (y' := { S.pop.top with ends := true, ret := keepOf (gs.map lineG) S.pop.top }) ⟨hql.f, hql.why, hql.places, hql.cells, hql.waits, rfl, keep_same hql, hql.kept⟩ rfl rfl (hq.frIn he).2 (by unfold AtK; rw [if_pos rfl]; exact .inl rfl);refine Sim.settle hg n hst (by unfold RunD.setTop; simp) ?_;exact Nat.le_trans (Nat.le_of_eq (setTop_len (R := { R.pop with list := R.list.dropLast }) he)) (show R.pop.row.length <= n by omega)
   ·rw [h1, h2];exact ⟨h3, h4⟩
  ·rw [if_neg hc, if_neg hc];refine ⟨h, fun h0 => ⟨hne, ?_⟩⟩
   rcases hb : R.top.ends with _ | _
   ·rfl
   ·exact absurd ⟨h0, hb⟩ hc
end
end Go.Proofs.Ytncpehhfjkncoaa
namespace Go.Proofs.Ytncpehhfjkncoaa

/-- one node, n -/
def stepN (gs : List GraphD) (R : RunD) (n : NodeD) : RunD :=
 if n.op = 1 then (R.set n.d n.imm).goOn n.next
 else if n.op = 2 then (R.set n.d (R.get n.a)).goOn n.next
 else if n.op = 3 then
  if doE n.byo (R.get n.b) = 0 then (R.set n.d (doV n.byo (R.get n.a) (R.get n.b))).goOn n.next else R.begin gs 18446744073709551615
 else if n.op = 4 then (R.set n.d (R.top.cells.getD n.cell.toNat 0)).goOn n.next
 else if n.op = 5 then (R.setTop { R.top with cells := R.top.cells.set n.cell.toNat (R.get n.a) }).goOn n.next
 else if n.op = 6 then (R.set n.d (4611686018427387904 + ((R.row.length : Int) - 1) * 65536 + n.cell)).goOn n.next
 else if n.op = 7 then match R.point (R.get n.a) with
  | none => R.begin gs 18446744073709551614
  | some (i, c) => (R.set n.d ((R.row.getD i frZ).cells.getD c 0)).goOn n.next
 else if n.op = 8 then match R.point (R.get n.a) with
  | none => R.begin gs 18446744073709551614
  | some (i, c) => (R.setCell i c (R.get n.b)).goOn n.next
 else if n.op = 9 then R.goOn (if R.get n.a = 0 then n.els else n.next)
 else if n.op = 10 then R.goOn n.next
 else if n.op = 11 then (R.setTop { R.top with kept := R.regs }).push gs n.f (R.args n) 0
 else if n.op = 12 then ((if 0 <= n.a then R.setTop { R.top with ret := R.get n.a, ends := true } else R.setTop { R.top with ends := true })).settle gs R.row.length
 else if n.op = 13 then
  let R1 := R.setTop { R.top with waits := R.top.waits ++ [(n.f, R.args n)] }
  ({ R1 with defers := max R1.defers R1.waiting } : RunD).goOn n.next
 else if n.op = 14 then R.begin gs (R.get n.a)
 else if n.op = 15 then
  if R.top.why = 2 /\ R.last.2 = false then ((({ R with list := R.list.dropLast ++ [(R.last.1, true)] } : RunD).set n.d R.last.1).set n.e 1).goOn n.next
  else ((R.set n.d 0).set n.e 0).goOn n.next
 else if n.op = 16 then (({ R with tape := R.tape.tail, events := R.events ++ [(2, R.tape.headD 0)] } : RunD).set n.d (R.tape.headD 0)).goOn n.next
 else if n.op = 17 then ({ R with events := R.events ++ [(1, R.get n.a)] } : RunD).goOn n.next
 else { R with endK := 1, endV := R.get n.a }
theorem step_eq (gs : List GraphD) (R : RunD) : R.step gs = stepN gs { R with steps := R.steps + 1 } (nodeAt gs R.top) := rfl

/-- calls lead to functions -/
def GsF (gs : List GraphD) : Prop := ∀ g ∈ gs, ∀ x ∈ g.nodes, (x.op = 11 ∨ x.op = 13) -> 0 <= x.f /\ x.f < gs.length
structure On (gs : List GraphD) (f : Int) (R S : RunD) : Prop where
 sim : Sim gs 2 R S
 ne : R.row ≠ []
 f : R.top.f = f
 ends : R.top.ends = false
section
variable {gs : List GraphD} {k f : Int} {R S : RunD}
theorem On.setTop (h : On gs f R S) {x' y' : FrD} (hl : Like x' y') (hf : x'.f = R.top.f) (hw : x'.why = R.top.why) (hwt : ∀ d ∈ x'.waits, 0 <= d.1 /\ d.1 < gs.length) (he : x'.ends = false) : On gs f (R.setTop x') (S.setTop y') :=
 ⟨h.sim.setTop h.ne hl hf hw hwt (by unfold AtK; rw [if_neg (by omega), if_neg (by omega), if_neg (by omega)]; trivial), by unfold RunD.setTop; simp, hf.trans h.f, he⟩
theorem On.in (h : On gs f R S) : ∀ d ∈ R.top.waits, 0 <= d.1 /\ d.1 < gs.length := (h.sim.frIn h.ne).2
theorem set_top (R : RunD) (p v : Int) : (R.set p v).top.f = R.top.f /\ (R.set p v).top.ends = R.top.ends := by
 unfold RunD.set
 split
 ·exact ⟨rfl, rfl⟩
 ·split
  ·exact ⟨rfl, rfl⟩
  ·exact ⟨rfl, rfl⟩
theorem On.set (h : On gs f R S) (p v : Int) : On gs f (R.set p v) (S.set p v) :=
 ⟨h.sim.set h.ne p v, set_row R p v h.ne, (set_top R p v).1.trans h.f, (set_top R p v).2.trans h.ends⟩
theorem goOn_up (h : On gs f R S) (t : Int) : Up (R.goOn t) := fun _ => ⟨by unfold RunD.goOn RunD.setTop; simp, h.ends⟩
theorem On.goOn (h : On gs f R S) {t u : Int} (hat : ∀ x y : FrD, x.f = f -> AtTop gs { x with at_ := t } { y with at_ := u }) : Sim gs (-1) (R.goOn t) (S.goOn u) /\ Up (R.goOn t) := by
 refine ⟨?_, goOn_up h t⟩;have hl := h.sim.like;refine h.sim.setTop h.ne (x' := { R.top with at_ := t }) (y' := { S.top with at_ := u }) ⟨hl.f, hl.why, hl.places, hl.cells, hl.waits, hl.ends, hl.ret, hl.kept⟩ rfl rfl h.in ?_;unfold AtK;rw [if_pos rfl];exact .inr (hat _ _ h.f)
theorem On.setCell (h : On gs f R S) (i c : Nat) (v : Int) : On gs f (R.setCell i c v) (S.setCell i c v) := by
 have hne := h.ne;have hf := h.f;have he := h.ends;refine ⟨{ h.sim with row := h.sim.row.setC c v i }, ?_, ?_, ?_⟩
 ·unfold RunD.setCell;intro e;have := congrArg List.length e;rw [List.length_modify] at this;exact hne (List.eq_nil_of_length_eq_zero this)
 ·unfold RunD.setCell RunD.top at *
  rcases hr : R.row with _ | ⟨x, r⟩
  ·exact absurd hr hne
  ·rw [hr] at hf
   rcases i with _ | i
   ·exact hf
   ·exact hf
 ·unfold RunD.setCell RunD.top at *
  rcases hr : R.row with _ | ⟨x, r⟩
  ·exact absurd hr hne
  ·rw [hr] at he
   rcases i with _ | i
   ·exact he
   ·exact he
theorem Sim.point (h : Sim gs k R S) (p : Int) : S.point p = R.point p := by
 unfold RunD.point;dsimp only;rw [h.len, h.row.getC]
theorem Sim.waiting (h : Sim gs k R S) : S.waiting = R.waiting := by
 unfold RunD.waiting;rw [h.row.waits]
theorem On.defers (h : On gs f R S) : On gs f { R with defers := max R.defers R.waiting } { S with defers := max S.defers S.waiting } :=
 ⟨{ h.sim with defers := by rw [h.sim.waiting, h.sim.defers] }, h.ne, h.f, h.ends⟩
theorem On.begin (hg : GsL gs) (h : On gs f R S) (v : Int) : Sim gs (-1) (R.begin gs v) (S.begin (gs.map lineG) v) /\ Up (R.begin gs v) := h.sim.begin hg h.ne v
/-- a node that is no jump -/
theorem On.step (hg : GsL gs) (h : On gs f R S) {n : NodeD} {a b : Int} (hk : n.op = 11 -> AtCall gs R.top S.top) (hF : (n.op = 11 ∨ n.op = 13) -> 0 <= n.f /\ n.f < gs.length) (h10 : n.op ≠ 10) (hr1 : 1 <= n.op) (hr2 : n.op <= 18) (hS : Sim gs (-1) R S)
  (hN : nextL n ≠ [] -> ∀ x y : FrD, x.f = f -> AtTop gs { x with at_ := n.next } { y with at_ := a }) (hE : n.op = 9 -> ∀ x y : FrD, x.f = f -> AtTop gs { x with at_ := n.els } { y with at_ := b }) :
  Sim gs (-1) (stepN gs R n) (stepN (gs.map lineG) S { n with next := a, els := b }) /\ Up (stepN gs R n) := by
 have hG := h.sim.get;have hl := h.sim.like
 have hN' : n.op ≠ 12 -> n.op ≠ 14 -> n.op ≠ 18 -> ∀ x y : FrD, x.f = f -> AtTop gs { x with at_ := n.next } { y with at_ := a } := fun q1 q2 q3 => hN (by
  unfold nextL;rw [if_neg (by omega)]
  split
  ·simp
  ·rw [if_neg (by omega)]; simp)
 unfold stepN;dsimp only
 by_cases o1 : n.op = 1
 ·simp only [if_pos o1];exact (h.set _ _).goOn (hN' (by omega) (by omega) (by omega))
 simp only [if_neg o1]
 by_cases o2 : n.op = 2
 ·simp only [if_pos o2];rw [hG];exact (h.set _ _).goOn (hN' (by omega) (by omega) (by omega))
 simp only [if_neg o2]
 by_cases o3 : n.op = 3
 ·simp only [if_pos o3];rw [hG, hG]
  by_cases q : doE n.byo (R.get n.b) = 0
  ·simp only [if_pos q];exact (h.set _ _).goOn (hN' (by omega) (by omega) (by omega))
  ·simp only [if_neg q];exact h.begin hg _
 simp only [if_neg o3]
 by_cases o4 : n.op = 4
 ·simp only [if_pos o4];rw [hl.cells];exact (h.set _ _).goOn (hN' (by omega) (by omega) (by omega))
 simp only [if_neg o4]
 by_cases o5 : n.op = 5
 ·simp only [if_pos o5];rw [hG];exact (h.setTop (x' := { R.top with cells := R.top.cells.set n.cell.toNat (R.get n.a) }) (y' := { S.top with cells := S.top.cells.set n.cell.toNat (R.get n.a) }) ⟨hl.f, hl.why, hl.places, by show S.top.cells.set _ _ = R.top.cells.set _ _; rw [hl.cells], hl.waits, hl.ends, hl.ret, hl.kept⟩ rfl rfl h.in h.ends).goOn (hN' (by omega) (by omega) (by omega))
 simp only [if_neg o5]
 by_cases o6 : n.op = 6
 ·simp only [if_pos o6];rw [h.sim.len];exact (h.set _ _).goOn (hN' (by omega) (by omega) (by omega))
 simp only [if_neg o6]
 by_cases o7 : n.op = 7
 ·simp only [if_pos o7];rw [hG, h.sim.point]
  rcases R.point (R.get n.a) with _ | ⟨i, c⟩
  ·exact h.begin hg _
  ·dsimp only;rw [h.sim.row.getC];exact (h.set _ _).goOn (hN' (by omega) (by omega) (by omega))
 simp only [if_neg o7]
 by_cases o8 : n.op = 8
 ·simp only [if_pos o8];rw [hG, h.sim.point]
  rcases R.point (R.get n.a) with _ | ⟨i, c⟩
  ·exact h.begin hg _
  ·dsimp only;rw [hG];exact (h.setCell _ _ _).goOn (hN' (by omega) (by omega) (by omega))
 simp only [if_neg o8]
 by_cases o9 : n.op = 9
 ·simp only [if_pos o9];rw [hG]
  by_cases q : R.get n.a = 0
  ·simp only [if_pos q];exact h.goOn (hE o9)
  ·simp only [if_neg q];exact h.goOn (hN' (by omega) (by omega) (by omega))
 simp only [if_neg o9, if_neg h10]
 by_cases o11 : n.op = 11
 ·simp only [if_pos o11];obtain ⟨f0, f1⟩ := hF (.inl o11);have ha : S.args { n with next := a, els := b } = R.args n := h.sim.args rfl;rw [ha];refine ⟨Sim.push hg ?_ f0 f1 (.inl rfl) _, push_up _ _ _⟩;refine h.sim.setTop h.ne (x' := { R.top with kept := R.regs }) (y' := { S.top with kept := S.regs }) ⟨hl.f, hl.why, hl.places, hl.cells, hl.waits, hl.ends, hl.ret, h.sim.regs⟩ rfl rfl h.in ?_;unfold AtK;rw [if_neg (by omega), if_pos rfl];exact hk o11
 simp only [if_neg o11]
 by_cases o12 : n.op = 12
 ·simp only [if_pos o12];rw [hG, h.sim.len]
  have hE1 : ∀ x y : FrD, x.ends = true -> AtK gs (-1) x y := fun x y hx => by
   unfold AtK;rw [if_pos rfl];exact .inl hx
  by_cases q : 0 <= n.a
  ·simp only [if_pos q];exact Sim.settle hg _ (h.sim.setTop h.ne (x' := { R.top with ret := R.get n.a, ends := true }) (y' := { S.top with ret := R.get n.a, ends := true }) ⟨hl.f, hl.why, hl.places, hl.cells, hl.waits, rfl, rfl, hl.kept⟩ rfl rfl h.in (hE1 _ _ rfl)) (by unfold RunD.setTop; simp) (Nat.le_of_eq (setTop_len h.ne))
  ·simp only [if_neg q];exact Sim.settle hg _ (h.sim.setTop h.ne (x' := { R.top with ends := true }) (y' := { S.top with ends := true }) ⟨hl.f, hl.why, hl.places, hl.cells, hl.waits, rfl, hl.ret, hl.kept⟩ rfl rfl h.in (hE1 _ _ rfl)) (by unfold RunD.setTop; simp) (Nat.le_of_eq (setTop_len h.ne))
 simp only [if_neg o12]
 by_cases o13 : n.op = 13
 ·simp only [if_pos o13];have ha : S.args { n with next := a, els := b } = R.args n := h.sim.args rfl;rw [ha]
  have h2 : On gs f (R.setTop { R.top with waits := R.top.waits ++ [(n.f, R.args n)] }) (S.setTop { S.top with waits := S.top.waits ++ [(n.f, R.args n)] }) :=
   h.setTop (x' := { R.top with waits := R.top.waits ++ [(n.f, R.args n)] }) (y' := { S.top with waits := S.top.waits ++ [(n.f, R.args n)] }) ⟨hl.f, hl.why, hl.places, hl.cells, by show S.top.waits ++ _ = R.top.waits ++ _; rw [hl.waits], hl.ends, hl.ret, hl.kept⟩ rfl rfl (fun d hd => by
    rcases List.mem_append.mp hd with hd | hd
    ·exact h.in d hd
    ·rw [List.mem_singleton.mp hd]
     exact hF (.inr o13)) h.ends
  have h3 := h2.defers;exact h3.goOn (hN' (by omega) (by omega) (by omega))
 simp only [if_neg o13]
 by_cases o14 : n.op = 14
 ·simp only [if_pos o14];rw [hG];exact h.begin hg _
 simp only [if_neg o14]
 by_cases o15 : n.op = 15
 ·simp only [if_pos o15];rw [hl.why, h.sim.list, h.sim.last]
  by_cases q : R.top.why = 2 /\ R.last.2 = false
  ·simp only [if_pos q]
   have h2 : On gs f { R with list := R.list.dropLast ++ [(R.last.1, true)] } { S with list := R.list.dropLast ++ [(R.last.1, true)] } := ⟨{ h.sim with list := rfl }, h.ne, h.f, h.ends⟩
   exact ((h2.set _ _).set _ _).goOn (hN' (by omega) (by omega) (by omega))
  ·simp only [if_neg q];exact ((h.set _ _).set _ _).goOn (hN' (by omega) (by omega) (by omega))
 simp only [if_neg o15]
 by_cases o16 : n.op = 16
 ·simp only [if_pos o16];rw [h.sim.tape, h.sim.events]
  have h2 : On gs f { R with tape := R.tape.tail, events := R.events ++ [(2, R.tape.headD 0)] } { S with tape := R.tape.tail, events := R.events ++ [(2, R.tape.headD 0)] } := ⟨{ h.sim with tape := rfl, events := rfl }, h.ne, h.f, h.ends⟩
  exact (h2.set _ _).goOn (hN' (by omega) (by omega) (by omega))
 simp only [if_neg o16]
 by_cases o17 : n.op = 17
 ·simp only [if_pos o17];rw [hG, h.sim.events]
  have h2 : On gs f { R with events := R.events ++ [(1, R.get n.a)] } { S with events := R.events ++ [(1, R.get n.a)] } := ⟨{ h.sim with events := rfl }, h.ne, h.f, h.ends⟩
  exact h2.goOn (hN' (by omega) (by omega) (by omega))
 simp only [if_neg o17];rw [hG];exact ⟨{ hS with endK := rfl, endV := rfl }, fun e => by cases e⟩
end
end Go.Proofs.Ytncpehhfjkncoaa
namespace Go.Proofs.Ytncpehhfjkncoaa

theorem sub_len : ∀ (T L : List Nat), T.Nodup -> (∀ x ∈ T, x ∈ L) -> T.length <= L.length
 | [], L, _, _ => Nat.zero_le _
 | a :: T, L, hn, hs => by
  rw [List.nodup_cons] at hn;have ha := hs a (List.mem_cons_self)
  have h := sub_len T (L.erase a) hn.2 fun x hx => by
   have hx' := hs x (List.mem_cons_of_mem _ hx);exact (List.mem_erase_of_ne (fun e : x = a => hn.1 (by rw [<- e]; exact hx))).2 hx'
  rw [List.length_erase_of_mem ha] at h;have : 0 < L.length := List.length_pos_of_mem ha;rw [List.length_cons]
  omega
theorem pigeon {n : Nat} {f : Nat -> Nat} (h : ∀ k, k <= n -> f k < n) : ∃ a b, a < b /\ b <= n /\ f a = f b := by
 by_cases hc : ∃ a b, a < b /\ b <= n /\ f a = f b
 ·exact hc
 ·exfalso
  have hnd : ((List.range (n + 1)).map f).Nodup := by
   rw [List.nodup_iff_pairwise_ne, List.pairwise_map, List.pairwise_iff_getElem];intro i j hi hj hij e;rw [List.length_range] at hi hj;rw [List.getElem_range, List.getElem_range] at e;exact hc ⟨i, j, hij, by omega, e⟩
  have := sub_len _ (List.range n) hnd fun x hx => by
   obtain ⟨k, hk, rfl⟩ := List.mem_map.mp hx;rw [List.mem_range] at hk ⊢;exact h k (by omega)
  rw [List.length_map, List.length_range, List.length_range] at this
  omega
theorem thru_hop {ns : List NodeD} (hg : Hop ns) {i : Nat} (hi : i < ns.length) (h10 : (nd ns i).op = 10) : thru ns (hop ns i) = thru ns i := by
 have hs : hops ns ns.length (hop ns i) = hop ns (hops ns ns.length i) := by rw [<- hops_succ]; rfl
 by_cases hx : (nd ns (hops ns ns.length i)).op = 10
 ·obtain ⟨a, b, hab, hbn, he⟩ := pigeon (n := ns.length) (f := fun k => hops ns k i) fun k _ => hops_lt hg k hi
  have he : hops ns a i = hops ns b i := he
  have hring : hops ns (b - a) (hops ns a i) = hops ns a i := by rw [<- hops_add, show a + (b - a) = b by omega]; exact he.symm
  have ha10 : (nd ns (hops ns a i)).op = 10 := by
   by_cases h : (nd ns (hops ns a i)).op = 10
   ·exact h
   ·exfalso
    have := hops_fix (ns.length - a) h;rw [<- hops_add, show a + (ns.length - a) = ns.length by omega] at this;rw [this] at hx;exact h hx
  have e1 := thru_ring (ns := ns) (i := i) (k := a) (p := b - a) (by omega) (by omega) (by omega) ha10 hring
  rcases Nat.eq_zero_or_pos a with ha | ha
  ·-- the ring begins here
   subst ha;have hring' : hops ns b i = i := hring
   have hh : hops ns b (hop ns i) = hop ns i := by
    have : hops ns b (hop ns i) = hop ns (hops ns b i) := by rw [<- hops_succ]; rfl
    rw [this, hring']
   have hh10 : (nd ns (hop ns i)).op = 10 := by
    by_cases h : (nd ns (hop ns i)).op = 10
    ·exact h
    ·exfalso
     have h1 := hops_fix (b - 1) h
     have h2 : hops ns (b - 1) (hop ns i) = hops ns b i := by
      rw [show b = (b - 1) + 1 by omega]; rfl
     rw [h2, hring'] at h1;rw [<- h1] at h;exact h h10
   have e2 := thru_ring (ns := ns) (i := hop ns i) (k := 0) (p := b) (by omega) (by omega) hbn hh10 hh;rw [e2, e1];show minK ns (hop ns i) b = minK ns i (b - 0);exact minK_ring (x := i) (p := b) (s := 1) (n := b) (by omega) hring' (Nat.le_refl _)
  ·have hk : hops ns (a - 1) (hop ns i) = hops ns a i := by
    rw [show a = (a - 1) + 1 by omega]; rfl
   have e2 := thru_ring (ns := ns) (i := hop ns i) (k := a - 1) (p := b - a) (by omega) (by omega) (by omega) (by rw [hk]; exact ha10) (by rw [hk]; exact hring);rw [e2, e1, hk]
 ·have e1 : thru ns i = hops ns ns.length i := thru_stop (Nat.le_refl _) hx
  have e2 : hops ns ns.length (hop ns i) = hops ns ns.length i := by rw [hs]; exact hop_fix hx
  rw [thru_stop (Nat.le_refl _) (by rw [e2]; exact hx), e1, e2]
theorem ring_ten {ns : List NodeD} (hg : Hop ns) {i : Nat} (hi : i < ns.length) (hx : (nd ns (hops ns ns.length i)).op = 10) (t : Nat) : (nd ns (hops ns t (hops ns ns.length i))).op = 10 := by
 obtain ⟨a, b, hab, hbn, he⟩ := pigeon (n := ns.length) (f := fun k => hops ns k i) fun k _ => hops_lt hg k hi
 have he : hops ns a i = hops ns b i := he
 have hring : hops ns (b - a) (hops ns a i) = hops ns a i := by rw [<- hops_add, show a + (b - a) = b by omega]; exact he.symm
 have e0 : ∀ u, hops ns u (hops ns ns.length i) = hops ns (ns.length - a + u) (hops ns a i) := fun u => by
  rw [<- hops_add, <- hops_add, show ns.length + u = a + (ns.length - a + u) by omega]
 by_cases h : (nd ns (hops ns t (hops ns ns.length i))).op = 10
 ·exact h
 ·exfalso
  rw [e0] at h;obtain ⟨s, hs⟩ := nm (ns.length - a + t);rw [<- hs] at h;have h1 := ring_mod hring ((b - a) * (s + 1));rw [Nat.mul_mod_right] at h1;have h1 : hops ns ((b - a) * (s + 1)) (hops ns a i) = hops ns a i := h1;have hle : s + 1 <= (b - a) * (s + 1) := Nat.le_mul_of_pos_left _ (by omega)
  have h2 : hops ns ((b - a) * (s + 1)) (hops ns a i) = hops ns s (hops ns a i) := by
   rw [show (b - a) * (s + 1) = s + ((b - a) * (s + 1) - s) by omega, hops_add];exact hops_fix _ h
  rw [h1] at h2;rw [<- h2] at h;have h3 := hops_fix (ns.length - a) h;have h4 := e0 0;rw [Nat.add_zero, h3] at h4;have h5 : hops ns ns.length i = hops ns a i := h4;rw [h5] at hx;exact h hx
/-- the ends of jumps are no jumps, or rings -/
theorem thru_self {ns : List NodeD} {i : Nat} (h10 : (nd ns i).op ≠ 10) : thru ns i = i := thru_stop (k := 0) (Nat.zero_le _) h10
/-- graphs that may run -/
structure GsX (gs : List GraphD) : Prop where
 line : GsL gs
 calls : GsF gs
 ops : ∀ g ∈ gs, ∀ x ∈ g.nodes, 1 <= x.op /\ x.op <= 18
/-- so many steps, or fewer -/
def RunD.it (gs : List GraphD) : Nat -> RunD -> RunD
 | 0, R => R
 | n + 1, R => if R.endK = 0 then RunD.it gs n (R.step gs) else R
def capE (R : RunD) : RunD := if R.endK = 0 then { R with endK := 3 } else R
theorem go_it (gs : List GraphD) : ∀ (n : Nat) (R : RunD), R.go gs n = capE (R.it gs n)
 | 0, R => rfl
 | n + 1, R => by
  unfold RunD.go RunD.it
  split
  ·exact go_it gs n _
  ·rename_i h
   unfold capE;rw [if_neg h]
theorem it_end (gs : List GraphD) {R : RunD} (h : R.endK ≠ 0) : ∀ n, R.it gs n = R
 | 0 => rfl
 | n + 1 => by unfold RunD.it; rw [if_neg h]
theorem it_add (gs : List GraphD) : ∀ (a b : Nat) (R : RunD), R.it gs (a + b) = (R.it gs a).it gs b
 | 0, b, R => by rw [Nat.zero_add]; rfl
 | a + 1, b, R => by
  rw [show a + 1 + b = (a + b) + 1 by omega];show (if R.endK = 0 then RunD.it gs (a + b) (R.step gs) else R) = (if R.endK = 0 then RunD.it gs a (R.step gs) else R).it gs b
  split
  ·exact it_add gs a b _
  ·rename_i h
   exact (it_end gs h b).symm
theorem it_one (gs : List GraphD) {R : RunD} (h : R.endK = 0) : R.it gs 1 = R.step gs := by
 unfold RunD.it;rw [if_pos h]; rfl
section
variable {gs : List GraphD} {R S : RunD}
theorem setTop_self (hne : R.row ≠ []) : R.setTop R.top = R := by
 unfold RunD.setTop RunD.top;rcases R with ⟨a, row, c, d, e, f, g, h, i, j, k⟩
 rcases row with _ | ⟨x, r⟩
 ·exact absurd rfl hne
 ·rfl
def Here (gs : List GraphD) (x y : FrD) (i c : Nat) : Prop := x.at_ = i /\ y.at_ = c /\ i < (nsOf gs x.f).length /\ (lsOf gs x.f).at_ (thru (nsOf gs x.f) i) = some c
theorem Here.top {x y : FrD} {i c : Nat} (h : Here gs x y i c) : AtTop gs x y := ⟨i, c, h.1, h.2.1, h.2.2.1, .inl h.2.2.2⟩
/-- the one in line moves, the other stays -/
theorem Sim.stay (h : Sim gs (-1) R S) (hne : R.row ≠ []) {u : Int} (hat : AtTop gs R.top { S.top with at_ := u }) : Sim gs (-1) R (({ S with steps := S.steps + 1 } : RunD).goOn u) := by
 have hl := h.like
 have h2 : Sim gs (-1) R { S with steps := S.steps + 1 } := ⟨h.regs, h.row, h.list, h.tape, h.events, h.endK, h.endV, h.depth, h.defers, h.panics⟩
 have h3 := h2.setTop hne (k' := -1) (x' := R.top) (y' := { S.top with at_ := u }) ⟨hl.f, hl.why, hl.places, hl.cells, hl.waits, hl.ends, hl.ret, hl.kept⟩ rfl rfl (h.frIn hne).2 (by unfold AtK; rw [if_pos rfl]; exact .inr hat);rw [setTop_self hne] at h3;exact h3
/-- the one in line stays, the other moves -/
theorem Sim.hop (h : Sim gs (-1) R S) (hne : R.row ≠ []) {u : Int} (hat : AtTop gs { R.top with at_ := u } S.top) : Sim gs (-1) (({ R with steps := R.steps + 1 } : RunD).goOn u) S := by
 have hl := h.like
 have hne2 : S.row ≠ [] := fun e => by
  have := h.len;rw [e] at this;exact hne (List.eq_nil_of_length_eq_zero this.symm)
 have h2 : Sim gs (-1) { R with steps := R.steps + 1 } S := ⟨h.regs, h.row, h.list, h.tape, h.events, h.endK, h.endV, h.depth, h.defers, h.panics⟩
 have h3 := h2.setTop hne (k' := -1) (x' := { R.top with at_ := u }) (y' := S.top) ⟨hl.f, hl.why, hl.places, hl.cells, hl.waits, hl.ends, hl.ret, hl.kept⟩ rfl rfl (h.frIn hne).2 (by unfold AtK; rw [if_pos rfl]; exact .inr hat);rw [setTop_self hne2] at h3;exact h3
theorem nodeAt_nd {x : FrD} {i : Nat} (hx : x.at_ = i) : nodeAt gs x = nd (nsOf gs x.f) i := by
 unfold nodeAt;rw [hx, Int.toNat_natCast]; rfl
theorem step_jump {L : List GraphD} {Q : RunD} {n : NodeD} (hn : nodeAt L Q.top = n) (h10 : n.op = 10) : Q.step L = ({ Q with steps := Q.steps + 1 } : RunD).goOn n.next := by
 rw [step_eq, hn];unfold stepN;simp [h10]
/-- the one in line at a jump, or at the node -/
theorem near (hg : GsX gs) (h : Sim gs (-1) R S) (hu : Up R) (h0 : R.endK = 0) : ∃ m i c, m <= 1 /\ Sim gs (-1) R (S.it (gs.map lineG) m) /\ Here gs R.top (S.it (gs.map lineG) m).top i c := by
 obtain ⟨hne, hends⟩ := hu h0;have hk := h.atK hne;have hf := (h.frIn hne).1;obtain ⟨hns, he0, he1⟩ := hg.line _ (gAt_mem hf.1 hf.2);unfold AtK at hk;rw [if_pos rfl] at hk
 rcases hk with hk | ⟨i, c, e1, e2, e3, e4⟩
 ·rw [hends] at hk; cases hk
 ·rcases e4 with e4 | ⟨e4, e5⟩
  ·exact ⟨0, i, c, by omega, h, e1, e2, e3, e4⟩
  ·obtain ⟨c', hc'⟩ := some_of e5
   have hn : nodeAt (gs.map lineG) S.top = { nopD (thru (nsOf gs R.top.f) i) with next := (((lsOf gs R.top.f).at_ (thru (nsOf gs R.top.f) i)).getD 0 : Nat) } := by
    unfold nodeAt;rw [h.like.f, e2, gAt_line hf.1 hf.2, Int.toNat_natCast];exact line_jump e4
   have hst := step_jump hn rfl;refine ⟨1, i, c', Nat.le_refl _, ?_, ?_⟩
   ·rw [it_one _ (h.endK.trans h0), hst];dsimp only;refine h.stay hne ⟨i, c', e1, ?_, e3, .inl hc'⟩
    show (((lsOf gs R.top.f).at_ _).getD 0 : Nat) = ((c' : Nat) : Int)
    rw [hc']; rfl
   ·rw [it_one _ (h.endK.trans h0), hst];refine ⟨e1, ?_, e3, hc'⟩
    show (((lsOf gs R.top.f).at_ _).getD 0 : Nat) = ((c' : Nat) : Int)
    rw [hc']; rfl
/-- over a jump -/
theorem over (hg : GsX gs) (h : Sim gs (-1) R S) (hu : Up R) (h0 : R.endK = 0) {i c : Nat} (hh : Here gs R.top S.top i c) (h10 : (nd (nsOf gs R.top.f) i).op = 10) :
  Sim gs (-1) (R.step gs) S /\ Up (R.step gs) /\ (R.step gs).endK = 0 /\ (R.step gs).top.f = R.top.f /\ Here gs (R.step gs).top S.top (hop (nsOf gs R.top.f) i) c := by
 obtain ⟨hne, hends⟩ := hu h0;have hf := (h.frIn hne).1;obtain ⟨hns, he0, he1⟩ := hg.line _ (gAt_mem hf.1 hf.2);obtain ⟨e1, e2, e3, e4⟩ := hh;have hst := step_jump (nodeAt_nd (gs := gs) e1) h10;have hr := hns.hop _ (nd_mem e3) h10;have hr0 : 0 <= (nd (nsOf gs R.top.f) i).next := hr.1
 have hh2 : Here gs { R.top with at_ := (nd (nsOf gs R.top.f) i).next } S.top (hop (nsOf gs R.top.f) i) c := by
  refine ⟨?_, e2, hop_lt hns.hop e3, ?_⟩
  ·show (nd (nsOf gs R.top.f) i).next = _;rw [hop_nop h10]; omega
  ·show (lsOf gs R.top.f).at_ (thru (nsOf gs R.top.f) (hop (nsOf gs R.top.f) i)) = some c;have ht : thru (nsOf gs R.top.f) (hop (nsOf gs R.top.f) i) = thru (nsOf gs R.top.f) i := thru_hop hns.hop e3 h10;rw [ht]; exact e4
 rw [hst];exact ⟨h.hop hne hh2.top, fun _ => ⟨by unfold RunD.goOn RunD.setTop; simp, hends⟩, h0, rfl, hh2⟩
/-- both at the same node -/
theorem both (hg : GsX gs) (h : Sim gs (-1) R S) (hu : Up R) (h0 : R.endK = 0) {i c : Nat} (hh : Here gs R.top S.top i c) (h10 : (nd (nsOf gs R.top.f) i).op ≠ 10) :
  Sim gs (-1) (R.step gs) (S.step (gs.map lineG)) /\ Up (R.step gs) := by
 obtain ⟨hne, hends⟩ := hu h0;have hf := (h.frIn hne).1;obtain ⟨hns, he0, he1⟩ := hg.line _ (gAt_mem hf.1 hf.2);obtain ⟨e1, e2, e3, e4⟩ := hh;rw [thru_self h10] at e4;have hL := line_good hns (entry := (gAt gs R.top.f).entry.toNat) (by omega);obtain ⟨_, _, _, h4⟩ := hL.at_ i c e4;obtain ⟨n1, n2⟩ := node_real hg.line hf h.like e1 e2 e4;obtain ⟨a, b, m1, m2, m3⟩ := fix_real (at_ := (lsOf gs R.top.f).at_) (c := c) h10;have hm : nd (nsOf gs R.top.f) i ∈ (gAt gs R.top.f).nodes := nd_mem e3;have hop := hg.ops _ (gAt_mem hf.1 hf.2) _ hm
 have h2 : Sim gs (-1) { R with steps := R.steps + 1 } { S with steps := S.steps + 1 } := ⟨h.regs, h.row, h.list, h.tape, h.events, h.endK, h.endV, h.depth, h.defers, h.panics⟩
 have hon : On gs R.top.f { R with steps := R.steps + 1 } { S with steps := S.steps + 1 } := ⟨h2.weak, hne, rfl, hends⟩
 rw [step_eq, step_eq, n1, n2, m1];refine hon.step hg.line (fun q => ⟨i, c, e1, e2, e3, e4, q⟩) (fun q => hg.calls _ (gAt_mem hf.1 hf.2) _ hm q) h10 hop.1 hop.2 h2 ?_ ?_
 ·intro hn x y hx;rw [m2 hn];rw [<- hx] at hf e3 e4 h10 hn ⊢;exact foll_top hg.line hf e3 e4 h10 hn
 ·intro h9 x y hx;have hel := hns.next _ hm _ (els_mem h9);have hl0 : 0 <= (nd (nsOf gs R.top.f) i).els := hel.1;have hl1 : (nd (nsOf gs R.top.f) i).els < ((nsOf gs R.top.f).length : Int) := hel.2;obtain ⟨c', hc'⟩ := some_of (h4 h9);have hc2 : (lsOf gs R.top.f).at_ (thru (nsOf gs R.top.f) (nd (nsOf gs R.top.f) i).els.toNat) = some c' := hc';refine ⟨(nd (nsOf gs R.top.f) i).els.toNat, c', ?_, ?_, ?_, .inl ?_⟩
  ·show (nd (nsOf gs R.top.f) i).els = _
   omega
  ·show b = _;rw [m3 h9, show (lsOf gs R.top.f).at_ (el (nsOf gs R.top.f) i) = some c' from hc']; rfl
  ·show (nd (nsOf gs R.top.f) i).els.toNat < (nsOf gs x.f).length;rw [hx]; omega
  ·show (lsOf gs x.f).at_ (thru (nsOf gs x.f) _) = _;rw [hx]; exact hc2
/-- so many steps of graphs: at most twice as many in line -/
theorem fore (hg : GsX gs) : ∀ (n : Nat) {R S : RunD}, Sim gs (-1) R S -> Up R -> ∃ m, m <= 2 * n /\ Sim gs (-1) (R.it gs n) (S.it (gs.map lineG) m)
 | 0, R, S, h, _ => ⟨0, by omega, h⟩
 | n + 1, R, S, h, hu => by
  by_cases h0 : R.endK = 0
  ·obtain ⟨m, i, c, hm, h2, hh⟩ := near hg h hu h0
   have hR : R.it gs (n + 1) = (R.step gs).it gs n := by
    show (if _ then _ else _) = _;rw [if_pos h0]
   rw [hR]
   by_cases h10 : (nd (nsOf gs R.top.f) i).op = 10
   ·obtain ⟨q1, q2, _⟩ := over hg h2 hu h0 hh h10;obtain ⟨m2, hm2, q⟩ := fore hg n q1 q2;exact ⟨m + m2, by omega, by rw [it_add]; exact q⟩
   ·obtain ⟨q1, q2⟩ := both hg h2 hu h0 hh h10;obtain ⟨m2, hm2, q⟩ := fore hg n q1 q2;refine ⟨m + (1 + m2), by omega, ?_⟩;rw [it_add, it_add, it_one _ (h2.endK.trans h0)];exact q
  ·rw [it_end gs h0];exact ⟨0, by omega, h⟩
/-- behind all jumps -/
theorem behind (hg : GsX gs) : ∀ (f : Nat) {R S : RunD} {i c : Nat}, Sim gs (-1) R S -> Up R -> R.endK = 0 -> Here gs R.top S.top i c -> (nd (nsOf gs R.top.f) (hops (nsOf gs R.top.f) f i)).op ≠ 10 ->
  ∃ m j, m <= f /\ Sim gs (-1) (R.it gs m) S /\ Up (R.it gs m) /\ (R.it gs m).endK = 0 /\ Here gs (R.it gs m).top S.top j c /\ (nd (nsOf gs (R.it gs m).top.f) j).op ≠ 10
 | 0, R, S, i, c, h, hu, h0, hh, hf => ⟨0, i, Nat.zero_le _, h, hu, h0, hh, hf⟩
 | f + 1, R, S, i, c, h, hu, h0, hh, hf => by
  by_cases h10 : (nd (nsOf gs R.top.f) i).op = 10
  ·obtain ⟨q1, q2, q3, q4, q5⟩ := over hg h hu h0 hh h10;obtain ⟨m, j, r1, r2, r3, r4, r5, r6⟩ := behind hg f q1 q2 q3 q5 (by rw [q4]; exact hf)
   have hR : R.it gs (m + 1) = (R.step gs).it gs m := by
    show (if _ then _ else _) = _;rw [if_pos h0]
   exact ⟨m + 1, j, by omega, by rw [hR]; exact r2, by rw [hR]; exact r3, by rw [hR]; exact r4, by rw [hR]; exact r5, by rw [hR]; exact r6⟩
  ·exact ⟨0, i, Nat.zero_le _, h, hu, h0, hh, h10⟩
/-- one step in line -/
theorem hind1 (hg : GsX gs) (h : Sim gs (-1) R S) (hu : Up R) (h0 : R.endK = 0) : ∃ m, m <= 4097 /\ Sim gs (-1) (R.it gs m) (S.step (gs.map lineG)) /\ Up (R.it gs m) := by
 obtain ⟨hne, hends⟩ := hu h0;have hf := (h.frIn hne).1;obtain ⟨hns, he0, he1⟩ := hg.line _ (gAt_mem hf.1 hf.2);obtain ⟨m, i, c, hm, h2, hh⟩ := near hg h hu h0
 rcases Nat.eq_zero_or_pos m with rfl | hmp
 ·have h2 : Sim gs (-1) R S := h2;have hh : Here gs R.top S.top i c := hh
  by_cases hx : (nd (nsOf gs R.top.f) (hops (nsOf gs R.top.f) (nsOf gs R.top.f).length i)).op = 10
  ·-- a ring
   have ht : (nd (nsOf gs R.top.f) (thru (nsOf gs R.top.f) i)).op = 10 := by
    unfold thru;rw [if_pos hx];obtain ⟨t, _, ht⟩ := minK_mem (ns := nsOf gs R.top.f) (x := hops (nsOf gs R.top.f) (nsOf gs R.top.f).length i) (nsOf gs R.top.f).length;rw [ht];exact ring_ten hns.hop hh.2.2.1 hx t
   obtain ⟨e1, e2, e3, e4⟩ := hh
   have hn : nodeAt (gs.map lineG) S.top = fixN (lsOf gs R.top.f).at_ c (laid (nsOf gs R.top.f) (thru (nsOf gs R.top.f) i)) := by
    unfold nodeAt;rw [h.like.f, e2, gAt_line hf.1 hf.2, Int.toNat_natCast];exact line_at (line_good hns (entry := (gAt gs R.top.f).entry.toNat) (by omega)) e4
   have hfx : (fixN (lsOf gs R.top.f).at_ c (laid (nsOf gs R.top.f) (thru (nsOf gs R.top.f) i))).op = 10 /\ (fixN (lsOf gs R.top.f).at_ c (laid (nsOf gs R.top.f) (thru (nsOf gs R.top.f) i))).next = c := by
    rw [laid_nop ht];unfold fixN;dsimp only;rw [if_pos ht, if_neg (by omega)];refine ⟨ht, ?_⟩
    show (((lsOf gs R.top.f).at_ ((thru (nsOf gs R.top.f) i : Nat) : Int).toNat).getD 0 : Nat) = (c : Int)
    rw [Int.toNat_natCast, e4]; rfl
   have hst := step_jump hn hfx.1;refine ⟨0, by omega, ?_, hu⟩;rw [hst, hfx.2];exact h.stay hne ⟨i, c, e1, rfl, e3, .inl e4⟩
  ·obtain ⟨m, j, r1, r2, r3, r4, r5, r6⟩ := behind hg _ h2 hu h0 hh hx;obtain ⟨q1, q2⟩ := both hg r2 r3 r4 r5 r6;have hN := hns.len;have hN2 : (nsOf gs R.top.f).length <= 4096 := hN;refine ⟨m + 1, by omega, ?_, ?_⟩
   ·rw [it_add, it_one _ r4]; exact q1
   ·rw [it_add, it_one _ r4]; exact q2
 ·have : m = 1 := by omega
  subst this;rw [it_one _ (h.endK.trans h0)] at h2;exact ⟨0, by omega, h2, hu⟩
theorem hind (hg : GsX gs) : ∀ (n : Nat) {R S : RunD}, Sim gs (-1) R S -> Up R -> ∃ m, m <= 4097 * n /\ Sim gs (-1) (R.it gs m) (S.it (gs.map lineG) n)
 | 0, R, S, h, _ => ⟨0, by omega, h⟩
 | n + 1, R, S, h, hu => by
  by_cases h0 : R.endK = 0
  ·obtain ⟨m, hm, q1, q2⟩ := hind1 hg h hu h0;obtain ⟨m2, hm2, q⟩ := hind hg n q1 q2
   have hS : S.it (gs.map lineG) (n + 1) = (S.step (gs.map lineG)).it (gs.map lineG) n := by
    show (if _ then _ else _) = _;rw [if_pos (h.endK.trans h0)]
   exact ⟨m + m2, by omega, by rw [hS, it_add]; exact q⟩
  ·rw [it_end (gs.map lineG) (fun e => h0 (h.endK.symm.trans e))];exact ⟨0, by omega, h⟩
end
end Go.Proofs.Ytncpehhfjkncoaa
