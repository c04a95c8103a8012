/- Two runs side by side: what is told only grows; the plain law of nodes in a line. Conditions: graphs that are right. Graphs that are right may run. Conditions: what the check says. What holds of a run as it stands: places, cells, nodes are there. Conditions: graphs that are right. What holds of a run as it stands, step by step. Conditions: graphs that are right, numbers within their types. What holds of a run holds behind a step. Conditions: graphs that are right, numbers within their types. -/
import Derived.Test.YtncpehhfjkncoaaPlAR
import Derived.Test.YtncpehhfjkncoaaPlAQ
import Derived.Test.YtncpehhfjkncoaaPlAA
set_option linter.unusedVariables false
set_option linter.unusedSimpArgs false
set_option maxRecDepth 100000
set_option maxHeartbeats 16000000
namespace Go.Proofs.Ytncpehhfjkncoaa
section
variable {gs : List GraphD} {R : RunD}
theorem ev_set (R : RunD) (p v : Int) : (R.set p v).events = R.events := by
 unfold RunD.set
 split
 ·rfl
 ·split <;> rfl
theorem ev_par (R : RunD) (g : GraphD) (args : List Int) : ∀ n, (R.par g args n).events = R.events
 | 0 => rfl
 | n + 1 => by
  unfold RunD.par;dsimp only;have h := (ev_set (R.par g args n) (g.params.getD n 0) (args.getD n 0)).trans (ev_par R g args n)
  split
  ·exact h
  ·exact h
theorem ev_push (f why : Int) (args : List Int) : (R.push gs f args why).events = R.events := by
 unfold RunD.push;rw [ev_par]
theorem ev_next {why : Int} {R' : RunD} (h : R.next gs why = some R') : R'.events = R.events := by
 unfold RunD.next at h
 rcases hd : R.top.waits.getLast? with _ | d
 ·rw [hd] at h; cases h
 ·rw [hd] at h;have h : some _ = some R' := h;injection h with h;rw [<- h, ev_push]; rfl
theorem ev_unwind : ∀ (n : Nat) (R : RunD), (R.unwind gs n).events = R.events
 | 0, R => rfl
 | n + 1, R => by
  unfold RunD.unwind
  rcases h : R.next gs 2 with _ | R'
  ·dsimp only
   split
   ·split
    ·rfl
    ·rw [ev_unwind n]; rfl
   ·split
    ·rfl
    ·rw [ev_unwind n]; rfl
  ·exact ev_next h
theorem ev_settle : ∀ (n : Nat) (R : RunD), (R.settle gs n).events = R.events
 | 0, R => rfl
 | n + 1, R => by
  unfold RunD.settle
  split
  ·rcases h : R.next gs 1 with _ | R'
   ·dsimp only
    split
    ·rfl
    ·split
     ·rw [ev_settle n]; rfl
     ·split
      ·split
       ·rw [ev_unwind]; rfl
       ·rw [ev_settle n]; rfl
      ·rw [ev_settle n]; rfl
   ·exact ev_next h
  ·rfl
theorem ev_begin (v : Int) : (R.begin gs v).events = R.events := by
 unfold RunD.begin;rw [ev_unwind]
theorem ev_goOn (t : Int) : (R.goOn t).events = R.events := rfl
theorem ev_stepN (n : NodeD) : ∃ l, (stepN gs R n).events = R.events ++ l := by
 have h0 : ∀ Q : RunD, Q.events = R.events -> ∃ l, Q.events = R.events ++ l := fun Q h => ⟨[], by rw [h, List.append_nil]⟩
 unfold stepN;dsimp only
 by_cases o1 : n.op = 1
 ·rw [if_pos o1]; exact h0 _ (by rw [ev_goOn, ev_set])
 rw [if_neg o1]
 by_cases o2 : n.op = 2
 ·rw [if_pos o2]; exact h0 _ (by rw [ev_goOn, ev_set])
 rw [if_neg o2]
 by_cases o3 : n.op = 3
 ·rw [if_pos o3]
  split
  ·exact h0 _ (by rw [ev_goOn, ev_set])
  ·exact h0 _ (ev_begin _)
 rw [if_neg o3]
 by_cases o4 : n.op = 4
 ·rw [if_pos o4]; exact h0 _ (by rw [ev_goOn, ev_set])
 rw [if_neg o4]
 by_cases o5 : n.op = 5
 ·rw [if_pos o5]; exact h0 _ rfl
 rw [if_neg o5]
 by_cases o6 : n.op = 6
 ·rw [if_pos o6]; exact h0 _ (by rw [ev_goOn, ev_set])
 rw [if_neg o6]
 by_cases o7 : n.op = 7
 ·rw [if_pos o7]
  split
  ·exact h0 _ (ev_begin _)
  ·exact h0 _ (by rw [ev_goOn, ev_set])
 rw [if_neg o7]
 by_cases o8 : n.op = 8
 ·rw [if_pos o8]
  split
  ·exact h0 _ (ev_begin _)
  ·exact h0 _ rfl
 rw [if_neg o8]
 by_cases o9 : n.op = 9
 ·rw [if_pos o9]; exact h0 _ rfl
 rw [if_neg o9]
 by_cases o10 : n.op = 10
 ·rw [if_pos o10]; exact h0 _ rfl
 rw [if_neg o10]
 by_cases o11 : n.op = 11
 ·rw [if_pos o11]; exact h0 _ (by rw [ev_push]; rfl)
 rw [if_neg o11]
 by_cases o12 : n.op = 12
 ·rw [if_pos o12];refine h0 _ ?_;rw [ev_settle]
  split <;> rfl
 rw [if_neg o12]
 by_cases o13 : n.op = 13
 ·rw [if_pos o13]; exact h0 _ rfl
 rw [if_neg o13]
 by_cases o14 : n.op = 14
 ·rw [if_pos o14]; exact h0 _ (ev_begin _)
 rw [if_neg o14]
 by_cases o15 : n.op = 15
 ·rw [if_pos o15]
  split
  ·exact h0 _ (by rw [ev_goOn, ev_set, ev_set])
  ·exact h0 _ (by rw [ev_goOn, ev_set, ev_set])
 rw [if_neg o15]
 by_cases o16 : n.op = 16
 ·rw [if_pos o16];exact ⟨_, by rw [ev_goOn, ev_set]⟩
 rw [if_neg o16]
 by_cases o17 : n.op = 17
 ·rw [if_pos o17];exact ⟨_, rfl⟩
 rw [if_neg o17];exact h0 _ rfl
theorem ev_it : ∀ (n : Nat) (R : RunD), ∃ l, (R.it gs n).events = R.events ++ l
 | 0, R => ⟨[], by rw [List.append_nil]; rfl⟩
 | n + 1, R => by
  show ∃ l, (if R.endK = 0 then (R.step gs).it gs n else R).events = _
  split
  ·obtain ⟨l, hl⟩ := ev_it n (R.step gs);obtain ⟨l2, hl2⟩ := ev_stepN (gs := gs) (R := { R with steps := R.steps + 1 }) (nodeAt gs R.top);rw [<- step_eq] at hl2;exact ⟨l2 ++ l, by rw [hl, hl2, List.append_assoc]⟩
  ·exact ⟨[], by rw [List.append_nil]⟩
end
/-- what a run says of its end -/
def endOf (R : RunD) : Int × Int := (R.endK, R.endV)
section
variable {gs : List GraphD} {tape : List Int}
theorem start_sim (hg : GsX gs) (h1 : 0 < gs.length) : Sim gs (-1) ((runZ tape).push gs 0 [] 0) ((runZ tape).push (gs.map lineG) 0 [] 0) /\ Up ((runZ tape).push gs 0 [] 0) :=
 ⟨Sim.push (R := runZ tape) (S := runZ tape) hg.line ⟨rfl, trivial, rfl, rfl, rfl, rfl, rfl, rfl, rfl, rfl⟩ (Int.le_refl 0) (by omega) (.inl rfl) [], push_up _ _ _⟩
theorem cap_end {R : RunD} (h : (capE R).endK ≠ 3) : R.endK ≠ 0 /\ capE R = R := by
 unfold capE at h ⊢
 by_cases h0 : R.endK = 0
 ·rw [if_pos h0] at h; exact absurd rfl h
 ·rw [if_neg h0]; exact ⟨h0, rfl⟩
theorem cap_ev (R : RunD) : (capE R).events = R.events := by
 unfold capE
 split <;> rfl
/-- what either does in so many steps, the other does in so many more -/
theorem both_ways {A B : List GraphD} {R S : RunD} {n m M : Nat} (h : (R.it A n).endK = (S.it B m).endK /\ (R.it A n).endV = (S.it B m).endV /\ (R.it A n).events = (S.it B m).events) (hm : m <= M) :
  if (R.go A n).endK ≠ 3 then endOf (R.go A n) = endOf (S.go B M) /\ (R.go A n).events = (S.go B M).events else ∃ l, (S.go B M).events = (R.go A n).events ++ l := by
 obtain ⟨h1, h2, h3⟩ := h;rw [go_it, go_it]
 have hM : S.it B M = (S.it B m).it B (M - m) := by rw [<- it_add, show m + (M - m) = M by omega]
 split
 ·rename_i hk
  obtain ⟨k0, k1⟩ := cap_end hk;rw [k1, hM, it_end B (fun e => k0 (h1.trans e))]
  have : capE (S.it B m) = S.it B m := by
   unfold capE;rw [if_neg (fun e => k0 (h1.trans e))]
  rw [this];unfold endOf;rw [h1, h2];exact ⟨rfl, h3⟩
 ·rw [cap_ev, cap_ev, hM];obtain ⟨l, hl⟩ := ev_it (gs := B) (M - m) (S.it B m);exact ⟨l, by rw [hl, h3]⟩
/-- P17.2, one way -/
theorem line_fore (hg : GsX gs) (h1 : 0 < gs.length) (n : Nat) : if (allR gs tape n).endK ≠ 3 then endOf (allR gs tape n) = endOf (allR (gs.map lineG) tape (2 * n + 64)) /\ (allR gs tape n).events = (allR (gs.map lineG) tape (2 * n + 64)).events else ∃ l, (allR (gs.map lineG) tape (2 * n + 64)).events = (allR gs tape n).events ++ l := by
 obtain ⟨hs, hu⟩ := start_sim (tape := tape) hg h1;obtain ⟨m, hm, q⟩ := fore hg n hs hu;exact both_ways ⟨q.endK.symm, q.endV.symm, q.events.symm⟩ (by omega)
/-- P17.2, the other way -/
theorem line_hind (hg : GsX gs) (h1 : 0 < gs.length) (m : Nat) (hm : m <= 4096) : if (allR (gs.map lineG) tape m).endK ≠ 3 then endOf (allR (gs.map lineG) tape m) = endOf (allR gs tape (4096 * (m + 1))) /\ (allR (gs.map lineG) tape m).events = (allR gs tape (4096 * (m + 1))).events else ∃ l, (allR gs tape (4096 * (m + 1))).events = (allR (gs.map lineG) tape m).events ++ l := by
 obtain ⟨hs, hu⟩ := start_sim (tape := tape) hg h1;obtain ⟨n, hn, q⟩ := hind hg m hs hu;exact both_ways ⟨q.endK, q.endV, q.events⟩ (by omega)
end
end Go.Proofs.Ytncpehhfjkncoaa
namespace Go.Proofs.Ytncpehhfjkncoaa
theorem gsx_ok {gs : List GraphD} (h : checkB gs true = true) (hs : GsSmall gs) : GsX gs := by
 refine ⟨fun g hg => lin_ok h hs hg, fun g hg x hx ho => ?_, fun g hg x hx => ?_⟩
 ·have hn := (check_each h hg).2 x hx;unfold nodeB at hn;simp only [Bool.and_eq_true] at hn;have ho2 := hn.2
  have ha : argsB gs g true x = true := by
   rcases ho with ho | ho
   ·unfold opB at ho2;simp [ho] at ho2;exact ho2.1
   ·unfold opB at ho2;simp [ho] at ho2;exact ho2
  unfold argsB at ha;simp only [Bool.and_eq_true, decide_eq_true_eq] at ha;refine ⟨ha.1, ?_⟩
  rcases hq : gs[x.f.toNat]? with _ | f
  ·rw [hq] at ha; simp at ha
  ·have := (List.getElem?_eq_some_iff.1 hq).1;have := ha.1
   omega
 ·have hn := (check_each h hg).2 x hx;unfold nodeB at hn;simp only [Bool.and_eq_true] at hn;have ho2 := hn.2
  by_cases hc : 1 <= x.op /\ x.op <= 18
  ·exact hc
  ·exfalso
   unfold opB at ho2;rw [if_neg (by omega), if_neg (by omega), if_neg (by omega), if_neg (by omega), if_neg (by omega), if_neg (by omega), if_neg (by omega), if_neg (by omega), if_neg (by omega), if_neg (by omega), if_neg (by omega), if_neg (by omega), if_neg (by omega), if_neg (by omega)] at ho2
   cases ho2
end Go.Proofs.Ytncpehhfjkncoaa
namespace Go.Proofs.Ytncpehhfjkncoaa
structure FrOk (gs : List GraphD) (x : FrD) : Prop where
 f : 0 <= x.f /\ x.f < gs.length
 at_ : 0 <= x.at_ /\ x.at_ < (gAt gs x.f).nodes.length
 why : x.why = 0 ∨ x.why = 1 ∨ x.why = 2
 places : x.places.length = (gAt gs x.f).kinds.length /\ ∀ v ∈ x.places, U64 v
 cells : x.cells.length = (gAt gs x.f).cells.toNat /\ ∀ v ∈ x.cells, U64 v
 waits : ∀ d ∈ x.waits, (0 <= d.1 /\ d.1 < gs.length) /\ d.2.length = (gAt gs d.1).params.length /\ ∀ v ∈ d.2, U64 v
 ret : U64 x.ret
 kept : ∀ v ∈ x.kept, U64 v
def twos (row : List FrD) : Nat := (row.filter fun x => x.why == 2).length
/-- below a called frame: a call -/
def CallsOk (gs : List GraphD) : List FrD -> Prop
 | x :: y :: r => (x.why = 0 -> (nodeAt gs y).op = 11 /\ y.kept.length = 16) /\ CallsOk gs (y :: r)
 | _ => True
/-- q: panics that no frame stands for yet -/
structure RunOk (gs : List GraphD) (q : Nat) (R : RunD) : Prop where
 regs : R.regs.length = 16 /\ ∀ v ∈ R.regs, U64 v
 row : ∀ x ∈ R.row, FrOk gs x
 calls : CallsOk gs R.row
 list : R.list.length = twos R.row + q /\ ∀ p ∈ R.list, U64 p.1
 tape : ∀ v ∈ R.tape, U64 v
 events : ∀ p ∈ R.events, U64 p.2
section
variable {gs : List GraphD} {q : Nat} {R : RunD}
theorem mem_set_or {l : List Int} {i : Nat} {v w : Int} (h : w ∈ l.set i v) : w ∈ l ∨ w = v := by
 rcases List.mem_or_eq_of_mem_set h with h | h
 ·exact .inl h
 ·exact .inr h
theorem u64_set {l : List Int} (h : ∀ v ∈ l, U64 v) {v : Int} (hv : U64 v) (i : Nat) : ∀ w ∈ l.set i v, U64 w := fun w hw => by
 rcases mem_set_or hw with hw | rfl
 ·exact h w hw
 ·exact hv
theorem u64_getD {l : List Int} (h : ∀ v ∈ l, U64 v) (i : Nat) : U64 (l.getD i 0) := by
 rw [List.getD_eq_getElem?_getD]
 rcases e : l[i]? with _ | v
 ·exact ⟨Int.le_refl 0, by decide⟩
 ·exact h v (List.mem_of_getElem? e)
theorem u64_zero : U64 0 := ⟨Int.le_refl 0, by decide⟩
theorem RunOk.top (h : RunOk gs q R) (hne : R.row ≠ []) : FrOk gs R.top := by
 unfold RunD.top
 rcases hr : R.row with _ | ⟨x, r⟩
 ·exact absurd hr hne
 ·exact h.row x (by rw [hr]; exact List.mem_cons_self)
theorem RunOk.get (h : RunOk gs q R) (p : Int) : U64 (R.get p) := by
 unfold RunD.get
 split
 ·exact u64_getD h.regs.2 _
 ·by_cases hne : R.row = []
  ·unfold RunD.top;rw [hne];exact u64_getD (l := []) nofun p.toNat
  ·exact u64_getD (h.top hne).places.2 _
theorem CallsOk.turn {x x' : FrD} {r : List FrD} (h : CallsOk gs (x :: r)) (hw : x'.why = x.why) : CallsOk gs (x' :: r) := by
 rcases r with _ | ⟨y, r⟩
 ·trivial
 ·exact ⟨fun e => h.1 (hw.symm.trans e), h.2⟩
/-- the last frame turned: any way but why -/
theorem RunOk.setTop (h : RunOk gs q R) (hne : R.row ≠ []) {x : FrD} (hx : FrOk gs x) (hw : x.why = R.top.why) : RunOk gs q (R.setTop x) := by
 rcases hr : R.row with _ | ⟨z, r⟩
 ·exact absurd hr hne
 ·have hz : R.top = z := by unfold RunD.top; rw [hr]; rfl
  have hrow : (R.setTop x).row = x :: r := by unfold RunD.setTop; rw [hr]; rfl
  have hc := h.calls;rw [hr] at hc;refine { h with row := ?_, calls := ?_, list := ?_ }
  ·intro y hy;rw [hrow] at hy
   rcases List.mem_cons.mp hy with rfl | hy
   ·exact hx
   ·exact h.row y (by rw [hr]; exact List.mem_cons_of_mem _ hy)
  ·rw [hrow];exact hc.turn (by rw [hw, hz])
  ·rw [hrow];have h1 := h.list;rw [hr] at h1;refine ⟨?_, h1.2⟩;show R.list.length = _;rw [h1.1];unfold twos;rw [List.filter_cons, List.filter_cons, hw, hz]
   split <;> rfl
theorem RunOk.set (h : RunOk gs q R) (hne : R.row ≠ []) {v : Int} (hv : U64 v) (p : Int) : RunOk gs q (R.set p v) := by
 unfold RunD.set
 split
 ·exact h
 ·split
  ·refine { h with regs := ⟨?_, u64_set h.regs.2 hv _⟩ };show (R.regs.set _ _).length = 16;rw [List.length_set]; exact h.regs.1
  ·have ht := h.top hne;refine h.setTop hne { ht with places := ⟨?_, u64_set ht.places.2 hv _⟩ } rfl;show (R.top.places.set _ _).length = _;rw [List.length_set]; exact ht.places.1
theorem RunOk.goOn (h : RunOk gs q R) (hne : R.row ≠ []) {t : Int} (ht : 0 <= t /\ t < (gAt gs R.top.f).nodes.length) : RunOk gs q (R.goOn t) :=
 h.setTop hne { h.top hne with at_ := ht } rfl
theorem RunOk.par (h : RunOk gs q R) (hne : R.row ≠ []) {g : GraphD} {args : List Int} (ha : ∀ v ∈ args, U64 v) : ∀ n, RunOk gs q (R.par g args n)
 | 0 => h
 | n + 1 => by
  have ih := h.par hne (g := g) ha n;have hr := par_row (R := R) g args hne n;have hs := ih.set hr (u64_getD ha n) (g.params.getD n 0);have hsr := set_row (R.par g args n) (g.params.getD n 0) (args.getD n 0) hr;unfold RunD.par;dsimp only
  split
  ·have ht := hs.top hsr;refine hs.setTop hsr { ht with cells := ⟨?_, u64_set ht.cells.2 (u64_getD ha n) _⟩ } rfl;show (List.set _ _ _).length = _;rw [List.length_set]; exact ht.cells.1
  ·exact hs
theorem u64_rep (n : Nat) : ∀ v ∈ List.replicate n (0 : Int), U64 v := fun v hv => by
 rw [(List.mem_replicate.mp hv).2]; exact u64_zero
theorem RunOk.push (hg : GsX gs) {f why : Int} {args : List Int} (h : RunOk gs (q + if why = 2 then 1 else 0) R) (hf : 0 <= f /\ f < gs.length) (hw : why = 0 ∨ why = 1 ∨ why = 2) (ha : ∀ v ∈ args, U64 v) (hc : why = 0 -> R.row ≠ [] -> (nodeAt gs R.top).op = 11 /\ R.top.kept.length = 16) : RunOk gs q (R.push gs f args why) := by
 unfold RunD.push;refine RunOk.par ?_ (by simp) ha _;obtain ⟨_, he0, he1⟩ := hg.line _ (gAt_mem hf.1 hf.2);refine ⟨h.regs, ?_, ?_, ?_, h.tape, h.events⟩
 ·intro x hx
  rcases List.mem_cons.mp hx with rfl | hx
  ·exact ⟨hf, ⟨he0, he1⟩, hw, ⟨List.length_replicate, u64_rep _⟩, ⟨List.length_replicate, u64_rep _⟩, nofun, u64_zero, nofun⟩
  ·exact h.row x hx
 ·have hcl := h.calls;show CallsOk gs (frNew (gAt gs f) f why :: R.row)
  rcases hr : R.row with _ | ⟨y, r⟩
  ·trivial
  ·rw [hr] at hcl;refine ⟨fun e => ?_, hcl⟩;have h1 := hc e (by rw [hr]; simp)
   have hy : R.top = y := by unfold RunD.top; rw [hr]; rfl
   rw [hy] at h1;exact h1
 ·refine ⟨?_, h.list.2⟩;show R.list.length = twos (frNew (gAt gs f) f why :: R.row) + q;have h1 := h.list.1;unfold twos at h1 ⊢;rw [List.filter_cons];have hww : (frNew (gAt gs f) f why).why = why := rfl;rw [hww]
  by_cases h2 : why = 2
  ·rw [if_pos h2] at h1;rw [if_pos (by rw [h2]; rfl), List.length_cons]
   omega
  ·rw [if_neg h2] at h1;rw [if_neg (by simpa using h2)]
   omega
theorem RunOk.next (hg : GsX gs) {why : Int} {R' : RunD} (h : RunOk gs (q + if why = 2 then 1 else 0) R) (hne : R.row ≠ []) (hw : why = 1 ∨ why = 2) (hn : R.next gs why = some R') : RunOk gs q R' := by
 unfold RunD.next at hn
 rcases hd : R.top.waits.getLast? with _ | d
 ·rw [hd] at hn; cases hn
 ·rw [hd] at hn;have hn : some _ = some R' := hn;injection hn with hn;rw [<- hn];have hdm : d ∈ R.top.waits := List.mem_of_getLast? hd;have ht := h.top hne;obtain ⟨d1, d2, d3⟩ := ht.waits d hdm;exact RunOk.push hg (h.setTop hne { ht with waits := fun e he => ht.waits e (List.dropLast_subset _ he) } rfl) d1 (by omega) d3 (fun e => by omega)
theorem RunOk.pop (h : RunOk gs q R) (hne : R.row ≠ []) : RunOk gs (q + if R.top.why = 2 then 1 else 0) R.pop /\ (R.pop.row ≠ [] -> R.top.why = 0 -> (nodeAt gs R.pop.top).op = 11 /\ R.pop.top.kept.length = 16) := by
 have hc := h.calls;have h1 := h.list.1
 rcases hr : R.row with _ | ⟨x, r⟩
 ·exact absurd hr hne
 ·have hx : R.top = x := by unfold RunD.top; rw [hr]; rfl
  have hp : R.pop.row = r := by unfold RunD.pop; rw [hr]; rfl
  rw [hr] at hc h1;refine ⟨⟨h.regs, ?_, ?_, ⟨?_, h.list.2⟩, h.tape, h.events⟩, ?_⟩
  ·intro y hy;rw [hp] at hy;exact h.row y (by rw [hr]; exact List.mem_cons_of_mem _ hy)
  ·rw [hp]
   rcases r with _ | ⟨y, r⟩
   ·trivial
   ·exact hc.2
  ·show R.list.length = _;rw [hp, hx, h1];unfold twos;rw [List.filter_cons]
   by_cases h2 : x.why = 2
   ·rw [if_pos (by rw [h2]; rfl), if_pos h2, List.length_cons]; omega
   ·rw [if_neg (by simpa using h2), if_neg h2]; omega
  ·intro hn h0;rw [hx] at h0
   rcases r with _ | ⟨y, r⟩
   ·exact absurd hp hn
   ·have hy : R.pop.top = y := by unfold RunD.top; rw [hp]; rfl
    rw [hy];exact hc.1 h0
theorem node_in {x : FrD} (hx : FrOk gs x) : nodeAt gs x ∈ (gAt gs x.f).nodes := by
 have := hx.at_;exact nd_mem (by omega)
theorem back_u64 {kept : List Int} (hk : ∀ v ∈ kept, U64 v) : (backRegs kept).length = 16 /\ ∀ v ∈ backRegs kept, U64 v := by
 unfold backRegs;refine ⟨by simp, fun v hv => ?_⟩;obtain ⟨i, _, rfl⟩ := List.mem_map.mp hv
 split
 ·exact u64_getD hk i
 ·exact ⟨by omega, by omega⟩
theorem RunOk.back (hg : GsX gs) (h : RunOk gs q R) (hne : R.row ≠ []) (hop : (nodeAt gs R.top).op = 11) {v : Int} (hv : U64 v) : RunOk gs q (R.back gs v) := by
 have ht := h.top hne
 have hnx : nextL (nodeAt gs R.top) ≠ [] := by
  unfold nextL;rw [if_neg (by omega), if_neg (by omega), if_neg (by omega)];simp
 have hr := (hg.line _ (gAt_mem ht.f.1 ht.f.2)).1.next _ (node_in ht) _ (next_mem hnx);have h2 := h.goOn hne hr;obtain ⟨b1, b2⟩ := back_u64 ht.kept;refine { h2 with regs := ?_ };unfold RunD.back;dsimp only
 split
 ·exact ⟨by rw [List.length_set]; exact b1, u64_set b2 hv 0⟩
 ·exact ⟨b1, b2⟩
theorem last_in (hl : R.list ≠ []) : R.last ∈ R.list := by
 unfold RunD.last
 rcases hr : R.list.getLast? with _ | z
 ·exact absurd (List.getLast?_eq_none_iff.mp hr) hl
 ·rw [List.getLastD_eq_getLast?, hr];exact List.mem_of_getLast? hr
theorem RunOk.unwind (hg : GsX gs) : ∀ (n : Nat) {R : RunD}, RunOk gs 1 R -> R.row ≠ [] -> R.row.length <= n -> (R.unwind gs n).endK = 0 -> RunOk gs 0 (R.unwind gs n)
 | 0, R, _, hne, hl, _ => absurd (List.eq_nil_of_length_eq_zero (by omega)) hne
 | n + 1, R, h, hne, hl, he => by
  unfold RunD.unwind at he ⊢
  rcases hn : R.next gs 2 with _ | R'
  ·rw [hn] at he;dsimp only at he ⊢;obtain ⟨R2, hR2⟩ := mn ((if R.top.why = 2 then { R.pop with list := R.list.dropLast.dropLast ++ [R.last] } else R.pop));rw [hR2] at he ⊢;obtain ⟨hp, _⟩ := h.pop hne
   have hlen : R.pop.row.length + 1 = R.row.length := by
    show R.row.tail.length + 1 = _
    rcases hr : R.row with _ | ⟨x, r⟩
    ·exact absurd hr hne
    ·rfl
   have hok : RunOk gs 1 R2 /\ R2.row = R.pop.row := by
    rw [<- hR2]
    by_cases h2 : R.top.why = 2
    ·rw [if_pos h2] at hp ⊢;have hz := hp.list.1;have hz : R.list.length = twos R.pop.row + (1 + 1) := hz
     have hll : R.list ≠ [] := fun e => by rw [e] at hz; simp at hz
     refine ⟨{ hp with list := ⟨?_, ?_⟩ }, rfl⟩
     ·show (R.list.dropLast.dropLast ++ [R.last]).length = twos R.pop.row + 1;rw [List.length_append, List.length_dropLast, List.length_dropLast, List.length_singleton]
      omega
     ·intro p hpm
      rcases List.mem_append.mp hpm with hpm | hpm
      ·exact h.list.2 p (List.dropLast_subset _ (List.dropLast_subset _ hpm))
      ·rw [List.mem_singleton.mp hpm];exact h.list.2 _ (last_in hll)
    ·rw [if_neg h2] at hp ⊢;exact ⟨hp, rfl⟩
   by_cases hb : R2.row.isEmpty = true
   ·rw [if_pos hb] at he
    cases he
   ·rw [if_neg hb] at he ⊢;refine RunOk.unwind hg n hok.1 (fun e => hb (by rw [e]; rfl)) (by rw [hok.2]; omega) he
  ·rw [hn] at he;exact RunOk.next (q := 0) (why := 2) hg (show RunOk gs (0 + if (2 : Int) = 2 then 1 else 0) R from h) hne (.inr rfl) hn
theorem keep_u64 {y : FrD} (hy : FrOk gs y) : U64 (keepOf gs y) := by
 unfold keepOf
 split
 ·exact u64_getD hy.cells.2 _
 ·exact u64_zero
theorem RunOk.settle (hg : GsX gs) : ∀ (n : Nat) {R : RunD}, RunOk gs 0 R -> R.row ≠ [] -> R.row.length <= n -> (R.settle gs n).endK = 0 -> RunOk gs 0 (R.settle gs n)
 | 0, R, _, hne, hl, _ => absurd (List.eq_nil_of_length_eq_zero (by omega)) hne
 | n + 1, R, h, hne, hl, he => by
  unfold RunD.settle at he ⊢
  by_cases hc : R.endK = 0 /\ R.top.ends = true
  ·rw [if_pos hc] at he ⊢
   rcases hn : R.next gs 1 with _ | R'
   ·rw [hn] at he;dsimp only at he ⊢;obtain ⟨hp, hcall⟩ := h.pop hne
    have hlen : R.pop.row.length + 1 = R.row.length := by
     show R.row.tail.length + 1 = _
     rcases hr : R.row with _ | ⟨x, r⟩
     ·exact absurd hr hne
     ·rfl
    by_cases hb : R.pop.row.isEmpty = true
    ·rw [if_pos hb] at he
     cases he
    ·have hpe : R.pop.row ≠ [] := fun e => hb (by rw [e]; rfl)
     rw [if_neg hb] at he ⊢;have htop := h.top hne
     by_cases h0 : R.top.why = 0
     ·rw [if_pos h0] at he ⊢;rw [if_neg (by omega)] at hp;obtain ⟨c1, c2⟩ := hcall hpe h0;refine RunOk.settle hg n (hp.back hg hpe c1 htop.ret) (back_up _ hpe) ?_ he
      have : (R.pop.back gs R.top.ret).row.length = R.pop.row.length := by
       unfold RunD.back
       rcases hr : R.pop.row with _ | ⟨x, r⟩
       ·exact absurd hr hpe
       ·rfl
      omega
     ·rw [if_neg h0] at he ⊢
      by_cases h2 : R.top.why = 2
      ·rw [if_pos h2] at he hp ⊢
       by_cases hr : R.last.2 = false
       ·rw [if_pos hr] at he ⊢;exact RunOk.unwind hg _ hp hpe (Nat.le_refl _) he
       ·rw [if_neg hr] at he ⊢;have hz : R.list.length = twos R.pop.row + (0 + 1) := hp.list.1
        have hd : RunOk gs 0 { R.pop with list := R.list.dropLast } := { hp with list := ⟨by
         show R.list.dropLast.length = twos R.pop.row + 0
         rw [List.length_dropLast]; omega, fun p hpm => h.list.2 p (List.dropLast_subset _ hpm)⟩ }
        have hdt := hp.top hpe;refine RunOk.settle hg n (hd.setTop hpe { hdt with ret := keep_u64 hdt } rfl) (by unfold RunD.setTop; simp) ?_ he;exact Nat.le_trans (Nat.le_of_eq (setTop_len (R := { R.pop with list := R.list.dropLast }) hpe)) (show R.pop.row.length <= n by omega)
      ·rw [if_neg h2] at he hp ⊢;exact RunOk.settle hg n hp hpe (by omega) he
   ·rw [hn] at he;exact RunOk.next (q := 0) (why := 1) hg (show RunOk gs (0 + if (1 : Int) = 2 then 1 else 0) R from h) hne (.inl rfl) hn
  ·rw [if_neg hc];exact h
theorem RunOk.begin (hg : GsX gs) (h : RunOk gs 0 R) (hne : R.row ≠ []) {v : Int} (hv : U64 v) (he : (R.begin gs v).endK = 0) : RunOk gs 0 (R.begin gs v) := by
 unfold RunD.begin at he ⊢;refine RunOk.unwind hg _ { h with list := ⟨?_, ?_⟩ } hne (Nat.le_refl _) he
 ·show (R.list ++ [(v, false)]).length = twos R.row + 1;rw [List.length_append, h.list.1]; rfl
 ·intro p hp
  rcases List.mem_append.mp hp with hp | hp
  ·exact h.list.2 p hp
  ·rw [List.mem_singleton.mp hp]; exact hv
end
end Go.Proofs.Ytncpehhfjkncoaa
namespace Go.Proofs.Ytncpehhfjkncoaa
section
variable {gs : List GraphD} {q : Nat} {R : RunD}
/-- what a node needs -/
structure NodeOk (gs : List GraphD) (R : RunD) (n : NodeD) : Prop where
 imm : n.op = 1 -> U64 n.imm
 do_ : n.op = 3 -> U64 (doV n.byo (R.get n.a) (R.get n.b))
 ptr : n.op = 6 -> U64 (4611686018427387904 + ((R.row.length : Int) - 1) * 65536 + n.cell)
 call : n.op = 11 ∨ n.op = 13 -> (0 <= n.f /\ n.f < gs.length) /\ n.args.length = (gAt gs n.f).params.length
 next : nextL n ≠ [] -> 0 <= n.next /\ n.next < (gAt gs R.top.f).nodes.length
 els : n.op = 9 -> 0 <= n.els /\ n.els < (gAt gs R.top.f).nodes.length
 ops : 1 <= n.op /\ n.op <= 18
theorem args_u64 (h : RunOk gs q R) (n : NodeD) : ∀ v ∈ R.args n, U64 v := fun v hv => by
 unfold RunD.args at hv;obtain ⟨p, _, rfl⟩ := List.mem_map.mp hv;exact h.get p
theorem RunOk.evs (h : RunOk gs q R) {k v : Int} (hv : U64 v) : RunOk gs q { R with events := R.events ++ [(k, v)] } := { h with
 events := by
  intro p hp
  rcases List.mem_append.mp hp with hp | hp
  ·exact h.events p hp
  ·rw [List.mem_singleton.mp hp]; exact hv }
theorem set_topf (R : RunD) (p v : Int) : (R.set p v).top.f = R.top.f := (set_top R p v).1
theorem RunOk.setGo (h : RunOk gs q R) (hne : R.row ≠ []) {v : Int} (hv : U64 v) (p : Int) {t : Int} (ht : 0 <= t /\ t < (gAt gs R.top.f).nodes.length) : RunOk gs q ((R.set p v).goOn t) :=
 (h.set hne hv p).goOn (set_row R p v hne) (by rw [set_topf]; exact ht)
theorem RunOk.cell (h : RunOk gs q R) (i c : Nat) : U64 ((R.row.getD i frZ).cells.getD c 0) := by
 rcases e : R.row[i]? with _ | x
 ·have : R.row.getD i frZ = frZ := by rw [List.getD_eq_getElem?_getD, e]; rfl
  rw [this];exact u64_getD (l := []) nofun c
 ·have : R.row.getD i frZ = x := by rw [List.getD_eq_getElem?_getD, e]; rfl
  rw [this];exact u64_getD (h.row x (List.mem_of_getElem? e)).cells.2 c
theorem twos_modify (row : List FrD) (i : Nat) (f : FrD -> FrD) (hf : ∀ x, (f x).why = x.why) : twos (row.modify i f) = twos row := by
 unfold twos
 induction row generalizing i with
 | nil => simp
 | cons x r ih =>
  rcases i with _ | i
  ·rw [List.modify_zero_cons, List.filter_cons, List.filter_cons, hf]
   split <;> rfl
  ·rw [List.modify_succ_cons, List.filter_cons, List.filter_cons]
   split
   ·rw [List.length_cons, List.length_cons, ih]
   ·exact ih i
theorem calls_setC (c : Nat) (v : Int) : ∀ {r : List FrD} (i : Nat), CallsOk gs r -> CallsOk gs (r.modify i fun x => { x with cells := x.cells.set c v })
 | [], i, _ => by simp; trivial
 | [x], 0, _ => trivial
 | [x], i + 1, _ => by simp; trivial
 | x :: y :: r, 0, h => h
 | x :: y :: r, 1, h => ⟨h.1, (h.2).turn rfl⟩
 | x :: y :: r, i + 2, h => ⟨h.1, calls_setC c v (i + 1) h.2⟩
theorem RunOk.setCell (h : RunOk gs q R) (i c : Nat) {v : Int} (hv : U64 v) : RunOk gs q (R.setCell i c v) := by
 refine { h with row := ?_, calls := calls_setC c v i h.calls, list := ⟨?_, h.list.2⟩ }
 ·intro x hx
  have hx : x ∈ R.row.modify i fun x => { x with cells := x.cells.set c v } := hx
  obtain ⟨j, hj⟩ := List.getElem?_of_mem hx;rw [List.getElem?_modify] at hj
  rcases e : R.row[j]? with _ | z
  ·rw [e] at hj; simp at hj
  ·rw [e] at hj;have hz := h.row z (List.mem_of_getElem? e);have hj : some (if i = j then { z with cells := z.cells.set c v } else z) = some x := hj;injection hj with hj
   by_cases hij : i = j
   ·rw [if_pos hij] at hj;rw [<- hj];refine { hz with cells := ⟨?_, u64_set hz.cells.2 hv c⟩ };show (z.cells.set c v).length = _;rw [List.length_set]; exact hz.cells.1
   ·rw [if_neg hij] at hj;rw [<- hj]; exact hz
 ·show R.list.length = _;rw [h.list.1];unfold RunD.setCell;dsimp only;rw [twos_modify R.row i (fun x => { x with cells := x.cells.set c v }) fun _ => rfl]
end
end Go.Proofs.Ytncpehhfjkncoaa
namespace Go.Proofs.Ytncpehhfjkncoaa
section
variable {gs : List GraphD} {R : RunD}
theorem RunOk.stepN (hg : GsX gs) (h : RunOk gs 0 R) (hne : R.row ≠ []) {n : NodeD} (hn : NodeOk gs R n) (hc : n.op = 11 -> nodeAt gs R.top = n) (he : (stepN gs R n).endK = 0) : RunOk gs 0 (stepN gs R n) := by
 have ht := h.top hne
 have hN : n.op ≠ 12 -> n.op ≠ 14 -> n.op ≠ 18 -> 0 <= n.next /\ n.next < (gAt gs R.top.f).nodes.length := fun q1 q2 q3 => hn.next (by
  have := hn.ops;unfold nextL;rw [if_neg (by omega)]
  split
  ·simp
  ·rw [if_neg (by omega)]; simp)
 unfold Go.Proofs.Ytncpehhfjkncoaa.stepN at he ⊢;dsimp only at he ⊢
 by_cases o1 : n.op = 1
 ·rw [if_pos o1] at he ⊢;exact h.setGo hne (hn.imm o1) _ (hN (by omega) (by omega) (by omega))
 rw [if_neg o1] at he ⊢
 by_cases o2 : n.op = 2
 ·rw [if_pos o2] at he ⊢;exact h.setGo hne (h.get _) _ (hN (by omega) (by omega) (by omega))
 rw [if_neg o2] at he ⊢
 by_cases o3 : n.op = 3
 ·rw [if_pos o3] at he ⊢
  by_cases q : doE n.byo (R.get n.b) = 0
  ·rw [if_pos q] at he ⊢;exact h.setGo hne (hn.do_ o3) _ (hN (by omega) (by omega) (by omega))
  ·rw [if_neg q] at he ⊢;exact h.begin hg hne ⟨by omega, by omega⟩ he
 rw [if_neg o3] at he ⊢
 by_cases o4 : n.op = 4
 ·rw [if_pos o4] at he ⊢;exact h.setGo hne (u64_getD ht.cells.2 _) _ (hN (by omega) (by omega) (by omega))
 rw [if_neg o4] at he ⊢
 by_cases o5 : n.op = 5
 ·rw [if_pos o5] at he ⊢;refine RunOk.goOn (h.setTop hne (x := { R.top with cells := R.top.cells.set n.cell.toNat (R.get n.a) }) { ht with cells := ⟨?_, u64_set ht.cells.2 (h.get _) _⟩ } rfl) (by unfold RunD.setTop; simp) (hN (by omega) (by omega) (by omega));show (List.set _ _ _).length = _;rw [List.length_set]; exact ht.cells.1
 rw [if_neg o5] at he ⊢
 by_cases o6 : n.op = 6
 ·rw [if_pos o6] at he ⊢;exact h.setGo hne (hn.ptr o6) _ (hN (by omega) (by omega) (by omega))
 rw [if_neg o6] at he ⊢
 by_cases o7 : n.op = 7
 ·rw [if_pos o7] at he ⊢
  rcases hp : R.point (R.get n.a) with _ | ⟨i, c⟩
  ·rw [hp] at he;exact h.begin hg hne ⟨by omega, by omega⟩ he
  ·exact h.setGo hne (h.cell i c) _ (hN (by omega) (by omega) (by omega))
 rw [if_neg o7] at he ⊢
 by_cases o8 : n.op = 8
 ·rw [if_pos o8] at he ⊢
  rcases hp : R.point (R.get n.a) with _ | ⟨i, c⟩
  ·rw [hp] at he;exact h.begin hg hne ⟨by omega, by omega⟩ he
  ·rw [hp] at he;have h2 := h.setCell i c (h.get n.b)
   have e : (R.setCell i c (R.get n.b)).row ≠ [] /\ (R.setCell i c (R.get n.b)).top.f = R.top.f := by
    unfold RunD.setCell RunD.top
    rcases hr : R.row with _ | ⟨x, r⟩
    ·exact absurd hr hne
    ·rcases i with _ | i
     ·exact ⟨by simp, rfl⟩
     ·exact ⟨by simp, rfl⟩
   exact h2.goOn e.1 (by rw [e.2]; exact hN (by omega) (by omega) (by omega))
 rw [if_neg o8] at he ⊢
 by_cases o9 : n.op = 9
 ·rw [if_pos o9] at he ⊢;refine h.goOn hne ?_
  split
  ·exact hn.els o9
  ·exact hN (by omega) (by omega) (by omega)
 rw [if_neg o9] at he ⊢
 by_cases o10 : n.op = 10
 ·rw [if_pos o10] at he ⊢;exact h.goOn hne (hN (by omega) (by omega) (by omega))
 rw [if_neg o10] at he ⊢
 by_cases o11 : n.op = 11
 ·rw [if_pos o11] at he ⊢;obtain ⟨hf, _⟩ := hn.call (.inl o11);have h2 : RunOk gs 0 (R.setTop { R.top with kept := R.regs }) := h.setTop hne (x := { R.top with kept := R.regs }) { ht with kept := h.regs.2 } rfl
  exact RunOk.push (q := 0) hg (show RunOk gs (0 + if (0 : Int) = 2 then 1 else 0) _ from h2) hf (.inl rfl) (args_u64 h n) fun _ _ => ⟨by
   show (nodeAt gs R.top).op = 11
   rw [hc o11]; exact o11, h.regs.1⟩
 rw [if_neg o11] at he ⊢
 by_cases o12 : n.op = 12
 ·rw [if_pos o12] at he ⊢
  by_cases q : 0 <= n.a
  ·rw [if_pos q] at he ⊢;exact RunOk.settle hg _ (h.setTop hne (x := { R.top with ret := R.get n.a, ends := true }) { ht with ret := h.get _ } rfl) (by unfold RunD.setTop; simp) (Nat.le_of_eq (setTop_len hne)) he
  ·rw [if_neg q] at he ⊢;exact RunOk.settle hg _ (h.setTop hne (x := { R.top with ends := true }) { ht with } rfl) (by unfold RunD.setTop; simp) (Nat.le_of_eq (setTop_len hne)) he
 rw [if_neg o12] at he ⊢
 by_cases o13 : n.op = 13
 ·rw [if_pos o13] at he ⊢;obtain ⟨hf, hl⟩ := hn.call (.inr o13)
  have hw : ∀ d ∈ R.top.waits ++ [(n.f, R.args n)], (0 <= d.1 /\ d.1 < gs.length) /\ d.2.length = (gAt gs d.1).params.length /\ ∀ v ∈ d.2, U64 v := by
   intro d hd
   rcases List.mem_append.mp hd with hd | hd
   ·exact ht.waits d hd
   ·rw [List.mem_singleton.mp hd];exact ⟨hf, (by unfold RunD.args; rw [List.length_map]; exact hl), args_u64 h n⟩
  have h2 : RunOk gs 0 (R.setTop { R.top with waits := R.top.waits ++ [(n.f, R.args n)] }) := h.setTop hne (x := { R.top with waits := R.top.waits ++ [(n.f, R.args n)] }) { ht with waits := hw } rfl
  have h3 : RunOk gs 0 { (R.setTop { R.top with waits := R.top.waits ++ [(n.f, R.args n)] }) with defers := max (R.setTop { R.top with waits := R.top.waits ++ [(n.f, R.args n)] }).defers (R.setTop { R.top with waits := R.top.waits ++ [(n.f, R.args n)] }).waiting } := ⟨h2.regs, h2.row, h2.calls, h2.list, h2.tape, h2.events⟩
  exact h3.goOn (by unfold RunD.setTop; simp) (hN (by omega) (by omega) (by omega))
 rw [if_neg o13] at he ⊢
 by_cases o14 : n.op = 14
 ·rw [if_pos o14] at he ⊢;exact h.begin hg hne (h.get _) he
 rw [if_neg o14] at he ⊢
 by_cases o15 : n.op = 15
 ·rw [if_pos o15] at he ⊢
  by_cases q : R.top.why = 2 /\ R.last.2 = false
  ·rw [if_pos q] at he ⊢
   have hll : R.list ≠ [] := fun e => by
    have h1 := h.list.1;rw [e] at h1
    rcases hr : R.row with _ | ⟨x, r⟩
    ·exact hne hr
    ·have hx : R.top = x := by unfold RunD.top; rw [hr]; rfl
     rw [hr] at h1;unfold twos at h1;rw [List.filter_cons, if_pos (by rw [<- hx, q.1]; rfl)] at h1;simp at h1
   have hlu := h.list.2 _ (last_in hll)
   have h2 : RunOk gs 0 { R with list := R.list.dropLast ++ [(R.last.1, true)] } := { h with list := ⟨by
    show (R.list.dropLast ++ [(R.last.1, true)]).length = _;have := List.length_pos_iff.mpr hll;rw [List.length_append, List.length_dropLast, List.length_singleton, <- h.list.1]
    omega, by
    intro p hp
    rcases List.mem_append.mp hp with hp | hp
    ·exact h.list.2 p (List.dropLast_subset _ hp)
    ·rw [List.mem_singleton.mp hp]; exact hlu⟩ }
   exact RunOk.setGo (h2.set hne hlu n.d) (set_row _ _ _ hne) ⟨by omega, by omega⟩ _ (by rw [set_topf]; exact hN (by omega) (by omega) (by omega))
  ·rw [if_neg q] at he ⊢;exact RunOk.setGo (h.set hne u64_zero n.d) (set_row _ _ _ hne) u64_zero _ (by rw [set_topf]; exact hN (by omega) (by omega) (by omega))
 rw [if_neg o15] at he ⊢
 by_cases o16 : n.op = 16
 ·rw [if_pos o16] at he ⊢
  have hv : U64 (R.tape.headD 0) := by
   rcases ht : R.tape with _ | ⟨v, l⟩
   ·exact u64_zero
   ·exact h.tape v (by rw [ht]; exact List.mem_cons_self)
  have h2 : RunOk gs 0 { R with tape := R.tape.tail, events := R.events ++ [(2, R.tape.headD 0)] } := ⟨h.regs, h.row, h.calls, h.list, fun v hm => h.tape v (List.mem_of_mem_tail hm), (h.evs (k := 2) hv).events⟩
  exact h2.setGo hne hv _ (hN (by omega) (by omega) (by omega))
 rw [if_neg o16] at he ⊢
 by_cases o17 : n.op = 17
 ·rw [if_pos o17] at he ⊢;exact (h.evs (k := 1) (h.get n.a)).goOn hne (hN (by omega) (by omega) (by omega))
 rw [if_neg o17] at he ⊢
 cases he
end
end Go.Proofs.Ytncpehhfjkncoaa
