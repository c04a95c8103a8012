/- A run of graphs in memory, as it grows and shrinks: frames, deferred calls, panics, what is told. No condition. -/
import Derived.Test.YtncpehhfjkncoaaPlAD
set_option linter.unusedVariables false
set_option linter.unusedSimpArgs false
set_option maxRecDepth 100000
set_option maxHeartbeats 16000000
namespace Go.Proofs.Ytncpehhfjkncoaa
open Go.RowKit

section
variable {w w' : World} {base : Nat} {X : RunX} {R : RunD} {V : RunV} {rest : List It}
theorem RunIn.rv_ne (h : RunIn w base X R V rest) : some X.rp ≠ V.rv.ownBlock /\ ∀ x ∈ rest, ∀ b, x.block = some b -> some b ≠ V.rv.ownBlock := by
 refine ⟨h.its.ne_row (i := 0) (j := 2) rfl rfl (by omega), fun x hx b hb e => ?_⟩;obtain ⟨k, hk⟩ := List.getElem?_of_mem hx
 have hl : 6 <= (runIts X V R).length := by unfold runIts; simp only [List.length_cons]; omega
 have h2 : (runIts X V R ++ rest)[(runIts X V R).length + k]? = some x := by rw [List.getElem?_append_right (by omega), Nat.add_sub_cancel_left]; exact hk
 exact h.its.apart ((runIts X V R).length + k) 2 x _ (by omega) h2 rfl b hb e.symm
theorem cut_list {x y : List Value} {n : Nat} (h : x.length = n) : (x ++ y).take n = x := by rw [<- h, List.take_left]
/-- the last frame is gone: the row is shorter, its new value laid into the run -/
theorem RunIn.popSet (h : RunIn w base X R V rest) {g c n : Nat} {v : FrV} {s : List FrV} (hT : TopM w base R V g c n v) (hv : V.fv = v :: s) :
  RunIn (w.setCell ⟨X.rp, 3, none⟩ (.slice (some ⟨g, 0, none⟩) n c)) base X R.pop { V with rv := .slice (some ⟨g, 0, none⟩) n c, fv := s } rest := by
 rcases R with ⟨regs, row, list, tape, events, endK, endV, steps, depth, defers, panics⟩
 rcases row with _ | ⟨x, r⟩
 ·have := hT.len; cases this
 rcases V with ⟨rg, rv, lv, tv, ev, tz, tl, fv⟩;have hv : fv = _ := hv;have hr : rv = .slice (some ⟨g, 0, none⟩) (n + 1) c := hT.rv;have hn : r.length + 1 = n + 1 := hT.len
 have hn : n = r.length := by omega
 subst hv hr hn;refine ⟨h.tok, h.lens.2, ?_⟩
 have h1 : w.ownsRow base 82 9 (.slice (some ⟨g, 0, none⟩) r.length c) r.length (rowCells r s) := by
  have := own_cut (k := r.length) (h.rrow) (by show _ <= r.length + 1; omega);have e : (rowCells (x :: r) (v :: s)).take (r.length * 9) = rowCells r s := cut_list (len_rowCells h.lens.2);rw [<- e]; exact this
 have h2 := h.its.push (i := 2) rfl h1 (World.grownBy.refl w _) (.inl rfl);have h3 := h2.set_ (i := 0) rfl 3 (.slice (some ⟨g, 0, none⟩) r.length c);refine Items.sub h3 ?_;show List.Sublist (_ :: _ :: _ :: _ :: _ :: _ :: (rowIts r s ++ rest)) (_ :: _ :: _ :: _ :: _ :: _ :: ((frIts x v ++ rowIts r s) ++ rest));refine List.Sublist.append_right ?_ rest |>.cons_cons _ |>.cons_cons _ |>.cons_cons _ |>.cons_cons _ |>.cons_cons _ |>.cons_cons _;exact List.sublist_append_right _ _
/-- a new frame has been appended, its new value laid into the run -/
theorem RunIn.pushSet {w1 : World} {pv cv rv' : Value} {f at_ why : Int} {L1 L2 : List Int} (h : RunIn w base X R V rest) (hI : Items w base (.row pv 34 1 L1.length (u64s L1) :: .row cv 34 1 L2.length (u64s L2) :: (runIts X V R ++ rest)))
  (ho : w1.ownsRow base 82 9 rv' (R.row.length + 1) (rowCells R.row V.fv ++ frCells ⟨f, at_, why, L1, L2, [], false, 0, []⟩ ⟨pv, cv, .slice none 0 0, .slice none 0 0, []⟩)) (hg : w.grownBy w1 V.rv.ownBlock) (hat : rv'.ownBlock = V.rv.ownBlock ∨ ∀ b, rv'.ownBlock = some b -> w.heap.size <= b) :
  RunIn (w1.setCell ⟨X.rp, 3, none⟩ rv') base X { R with row := ⟨f, at_, why, L1, L2, [], false, 0, []⟩ :: R.row } { V with rv := rv', fv := ⟨pv, cv, .slice none 0 0, .slice none 0 0, []⟩ :: V.fv } rest := by
 refine ⟨h.tok, ⟨rfl, h.lens⟩, ?_⟩;have h2 := hI.push (i := 4) rfl ho hg hat;have h3 := h2.set_ (i := 2) rfl 3 rv'
 have h4 : Items (w1.setCell ⟨X.rp, 3, none⟩ rv') base (.row (.slice none 0 0) 93 2 0 [] :: .row (.slice none 0 0) 34 1 0 [] :: _) :=
  (h3.cons (x := .row (.slice none 0 0) 34 1 0 []) (World.ownsRow_nil _ _ _ _) (fun b e => by cases e)).cons (x := .row (.slice none 0 0) 93 2 0 []) (World.ownsRow_nil _ _ _ _) (fun b e => by cases e)
 refine h4.perm ?_;show List.Perm (_ :: _ :: _ :: _ :: _ :: _ :: _ :: _ :: _ :: _ :: (rowIts R.row V.fv ++ rest)) (_ :: _ :: _ :: _ :: _ :: _ :: _ :: _ :: _ :: _ :: (rowIts R.row V.fv ++ rest));refine List.Perm.trans (l₂ := ?_) ?_ ?_
 rotate_left
 ·exact (List.perm_append_comm (l₁ := [_, _, _, _]) (l₂ := [_, _, _, _, _, _])).append_right _
 ·refine List.Perm.append_left [_, _, _, _, _, _] ?_;exact (List.perm_append_comm (l₁ := [_, _]) (l₂ := [_, _])).append_right _
/-- what is kept at a call -/
theorem RunIn.setKept (h : RunIn w base X R V rest) {g c n : Nat} {v : FrV} {s : List FrV} (hT : TopM w base R V g c n v) (hv : V.fv = v :: s) {kv' : Value} {l : List Int} (hI : Items w base (.row kv' 34 1 l.length (u64s l) :: (runIts X V R ++ rest))) :
  RunIn (w.setCell ⟨g, n * 9 + 8, none⟩ kv') base X (R.setTop { R.top with kept := l }) { V with fv := { v with kv := kv' } :: s } rest := by
 rcases R with ⟨regs, row, list, tape, events, endK, endV, steps, depth, defers, panics⟩
 rcases row with _ | ⟨x, r⟩
 ·have := hT.len; cases this
 rcases V with ⟨rg, rv, lv, tv, ev, tz, tl, fv⟩;have hv : fv = _ := hv;have hr : rv = .slice (some ⟨g, 0, none⟩) (n + 1) c := hT.rv;have hn : r.length + 1 = n + 1 := hT.len
 have hn : n = r.length := by omega
 subst hv hr hn;refine ⟨h.tok, h.lens, ?_⟩;have h1 := hI.setRow (i := 3) (j := r.length * 9 + 8) (xs := rowCells (x :: r) (v :: s)) rfl (by show _ < (r.length + 1) * 9; omega) kv';rw [<- rowCells_top (x' := { x with kept := l }) (v' := { v with kv := kv' }) h.lens.2 (by rfl)] at h1;exact Items.swapIn h1 9 (by show _ < List.length (_ :: _ :: _ :: _ :: _ :: _ :: _ :: _ :: _ :: _ :: _); simp)
theorem waitCells_app : ∀ {l : List (Int × List Int)} {s : List Value} (d : Int × List Int) (a : Value), s.length = l.length -> waitCells (l ++ [d]) (s ++ [a]) = waitCells l s ++ [.int .i64 d.1, a]
 | [], [], d, a, _ => rfl
 | x :: l, v :: s, d, a, h => by
  show _ :: _ :: waitCells (l ++ [d]) (s ++ [a]) = _;rw [waitCells_app d a (by simpa using h)]; rfl
 | [], v :: s, _, _, h => by cases h
 | x :: l, [], _, _, h => by cases h
theorem argIts_app : ∀ {l : List (Int × List Int)} {s : List Value} (d : Int × List Int) (a : Value), s.length = l.length -> argIts (l ++ [d]) (s ++ [a]) = argIts l s ++ [.row a 34 1 d.2.length (u64s d.2)]
 | [], [], d, a, _ => rfl
 | x :: l, v :: s, d, a, h => by
  show _ :: argIts (l ++ [d]) (s ++ [a]) = _;rw [argIts_app d a (by simpa using h)]; rfl
 | [], v :: s, _, _, h => by cases h
 | x :: l, [], _, _, h => by cases h
theorem len_waitCells : ∀ {l : List (Int × List Int)} {s : List Value}, s.length = l.length -> (waitCells l s).length = l.length * 2
 | [], [], _ => rfl
 | x :: l, v :: s, h => by
  show (waitCells l s).length + 2 = (l.length + 1) * 2;rw [len_waitCells (by simpa using h)]; omega
 | [], v :: s, h => by cases h
 | x :: l, [], h => by cases h
/-- the last deferred call is taken: its numbers lie beside the run -/
theorem RunIn.takeWait (h : RunIn w base X R V rest) {g c n m wc : Nat} {v : FrV} {s : List FrV} (hT : TopM w base R V g c n v) (hv : V.fv = v :: s) {ws : List (Int × List Int)} {d : Int × List Int} {zs : List Value} {a : Value} {A : Option Addr}
  (hw : R.top.waits = ws ++ [d]) (ha : v.av = zs ++ [a]) (hm : ws.length = m) (hwv : v.wv = .slice A (m + 1) wc) :
  RunIn (w.setCell ⟨g, n * 9 + 5, none⟩ (.slice A m wc)) base X (R.setTop { R.top with waits := ws }) { V with fv := { v with wv := .slice A m wc, av := zs } :: s } (.row a 34 1 d.2.length (u64s d.2) :: rest) := by
 rcases R with ⟨regs, row, list, tape, events, endK, endV, steps, depth, defers, panics⟩
 rcases row with _ | ⟨x, r⟩
 ·have := hT.len; cases this
 rcases V with ⟨rg, rv, lv, tv, ev, tz, tl, fv⟩;have hv : fv = _ := hv;have hr : rv = .slice (some ⟨g, 0, none⟩) (n + 1) c := hT.rv;have hn : r.length + 1 = n + 1 := hT.len
 have hn : n = r.length := by omega
 subst hv hr hn;rcases v with ⟨pv, cv, wv, kv, av⟩;rcases x with ⟨f, at_, why, places, cells, waits, ends, ret, kept⟩;have hw : waits = ws ++ [d] := hw;have ha : av = zs ++ [a] := ha;have hwv : wv = .slice A (m + 1) wc := hwv;subst hw ha hwv
 have hav : zs.length = ws.length := by have := h.lens.1; simpa using this
 refine ⟨h.tok, ⟨hav, h.lens.2⟩, ?_⟩;have h1 := h.its.setRow (i := 2) (j := r.length * 9 + 5) (xs := rowCells (⟨f, at_, why, places, cells, ws ++ [d], ends, ret, kept⟩ :: r) (⟨pv, cv, .slice A (m + 1) wc, kv, zs ++ [a]⟩ :: s)) rfl (by show _ < (r.length + 1) * 9; omega) (.slice A m wc);rw [<- rowCells_top (x' := ⟨f, at_, why, places, cells, ws, ends, ret, kept⟩) (v' := ⟨pv, cv, .slice A m wc, kv, zs⟩) h.lens.2 (by rfl)] at h1;have how := h1.own (i := 8) rfl
 have hl2 : (ws ++ [d]).length = m + 1 := by rw [List.length_append, hm]; rfl
 rw [hl2] at how;have h2 := own_cut how (k := m) (by omega);rw [waitCells_app d a hav, cut_list (by rw [len_waitCells hav, hm])] at h2;have h3 := h1.push (i := 8) rfl h2 (World.grownBy.refl _ _) (.inl (by cases A <;> rfl));subst hm;refine h3.perm ?_;show List.Perm (_ :: _ :: _ :: _ :: _ :: _ :: _ :: _ :: _ :: _ :: ((argIts (ws ++ [d]) (zs ++ [a]) ++ rowIts r s) ++ rest)) (_ :: _ :: _ :: _ :: _ :: _ :: _ :: _ :: _ :: _ :: ((argIts ws zs ++ rowIts r s) ++ .row a 34 1 d.2.length (u64s d.2) :: rest));rw [argIts_app d a hav];refine List.Perm.append_left [_, _, _, _, _, _, _, _, _, _] ?_;show List.Perm (((argIts ws zs ++ [_]) ++ rowIts r s) ++ rest) ((argIts ws zs ++ rowIts r s) ++ _ :: rest);simp only [List.append_assoc];refine List.Perm.append_left _ ?_;show List.Perm (_ :: (rowIts r s ++ rest)) _;exact List.perm_middle.symm
/-- a deferred call more -/
theorem RunIn.addWait {w1 : World} (h : RunIn w base X R V rest) {g c n : Nat} {v : FrV} {s : List FrV} (hT : TopM w base R V g c n v) (hv : V.fv = v :: s) {d : Int × List Int} {a wv' : Value}
  (hI : Items w base (.row a 34 1 d.2.length (u64s d.2) :: (runIts X V R ++ rest)))
  (ho : w1.ownsRow base 93 2 wv' (R.top.waits.length + 1) (waitCells R.top.waits v.av ++ [.int .i64 d.1, a])) (hg : w.grownBy w1 v.wv.ownBlock) (hat : wv'.ownBlock = v.wv.ownBlock ∨ ∀ b, wv'.ownBlock = some b -> w.heap.size <= b) :
  RunIn (w1.setCell ⟨g, n * 9 + 5, none⟩ wv') base X (R.setTop { R.top with waits := R.top.waits ++ [d] }) { V with fv := { v with wv := wv', av := v.av ++ [a] } :: s } rest := by
 rcases R with ⟨regs, row, list, tape, events, endK, endV, steps, depth, defers, panics⟩
 rcases row with _ | ⟨x, r⟩
 ·have := hT.len; cases this
 rcases V with ⟨rg, rv, lv, tv, ev, tz, tl, fv⟩;have hv : fv = _ := hv;have hr : rv = .slice (some ⟨g, 0, none⟩) (n + 1) c := hT.rv;have hn : r.length + 1 = n + 1 := hT.len
 have hn : n = r.length := by omega
 subst hv hr hn;rcases v with ⟨pv, cv, wv, kv, av⟩;rcases x with ⟨f, at_, why, places, cells, waits, ends, ret, kept⟩;have hav : av.length = waits.length := h.lens.1;refine ⟨h.tok, ⟨by show (av ++ [a]).length = (waits ++ [d]).length; simp [hav], h.lens.2⟩, ?_⟩;have h1 := hI.push (i := 9) rfl ho hg hat;have h2 := h1.setRow (i := 3) (j := r.length * 9 + 5) (xs := rowCells (⟨f, at_, why, places, cells, waits, ends, ret, kept⟩ :: r) (⟨pv, cv, wv, kv, av⟩ :: s)) rfl (by show _ < (r.length + 1) * 9; omega) wv';rw [<- rowCells_top (x' := ⟨f, at_, why, places, cells, waits ++ [d], ends, ret, kept⟩) (v' := ⟨pv, cv, wv', kv, av ++ [a]⟩) h.lens.2 (by rfl)] at h2
 have hl : (waits ++ [d]).length = waits.length + 1 := by simp
 refine h2.perm ?_;show List.Perm (_ :: _ :: _ :: _ :: _ :: _ :: _ :: _ :: _ :: .row _ _ _ (waits.length + 1) (waitCells waits av ++ [.int .i64 d.1, a]) :: _ :: ((argIts waits av ++ rowIts r s) ++ rest)) (_ :: _ :: _ :: _ :: _ :: _ :: _ :: _ :: .row _ _ _ (waits ++ [d]).length (waitCells (waits ++ [d]) (av ++ [a])) :: _ :: ((argIts (waits ++ [d]) (av ++ [a]) ++ rowIts r s) ++ rest));rw [argIts_app d a hav, hl, waitCells_app d a hav];refine List.Perm.trans (List.perm_middle (l₁ := [_, _, _, _, _, _, _, _, _, _])).symm ?_;refine List.Perm.append_left [_, _, _, _, _, _, _, _, _, _] ?_;show List.Perm (_ :: ((argIts waits av ++ rowIts r s) ++ rest)) (((argIts waits av ++ [_]) ++ rowIts r s) ++ rest);simp only [List.append_assoc];show List.Perm _ (argIts waits av ++ _ :: (rowIts r s ++ rest));exact List.perm_middle.symm
/-- the list of panics -/
theorem RunIn.setList {w1 : World} (h : RunIn w base X R V rest) {lv' : Value} {l' : List (Int × Bool)} {m : Nat} (hm : l'.length = m) (ho : w1.ownsRow base 96 2 lv' m (panCells l')) (hg : w.grownBy w1 V.lv.ownBlock) (hat : lv'.ownBlock = V.lv.ownBlock ∨ ∀ b, lv'.ownBlock = some b -> w.heap.size <= b) :
  RunIn (w1.setCell ⟨X.rp, 4, none⟩ lv') base X { R with list := l' } { V with lv := lv' } rest := by
 subst hm;exact ⟨h.tok, h.lens, (h.its.push (i := 3) rfl ho hg hat).set_ (i := 0) rfl 4 lv'⟩
/-- what is told -/
theorem RunIn.setEvs {w1 : World} (h : RunIn w base X R V rest) {ev' : Value} {l' : List (Int × Int)} {m : Nat} (hm : l'.length = m) (ho : w1.ownsRow base 62 2 ev' m (evCells l')) (hg : w.grownBy w1 V.ev.ownBlock) (hat : ev'.ownBlock = V.ev.ownBlock ∨ ∀ b, ev'.ownBlock = some b -> w.heap.size <= b) :
  RunIn (w1.setCell ⟨X.rp, 6, none⟩ ev') base X { R with events := l' } { V with ev := ev' } rest := by
 subst hm;exact ⟨h.tok, h.lens, (h.its.push (i := 5) rfl ho hg hat).set_ (i := 0) rfl 6 ev'⟩
theorem RunIn.setTape (h : RunIn w base X R V rest) {tv' : Value} {l' : List Int} (ht : TapeOk { V with tv := tv' } { R with tape := l' }) : RunIn (w.setCell ⟨X.rp, 5, none⟩ tv') base X { R with tape := l' } { V with tv := tv' } rest :=
 ⟨ht, h.lens, h.its.set_ (i := 0) rfl 5 tv'⟩
/-- any frame's cells -/
theorem rowCells_get : ∀ {r : List FrD} {s : List FrV} {i : Nat} {x : FrD}, rowLens r s -> r[i]? = some x -> ∃ v, s[i]? = some v /\ ∀ j, j < 9 -> (rowCells r s)[(r.length - 1 - i) * 9 + j]? = (frCells x v)[j]?
 | y :: r, v :: s, 0, x, h, hx => by
  have hx : y = x := by simpa using hx
  subst hx;refine ⟨v, rfl, fun j hj => ?_⟩;show (rowCells r s ++ frCells y v)[_]? = _;rw [show ((y :: r).length - 1 - 0) * 9 + j = r.length * 9 + j by simp, List.getElem?_append_right (by rw [len_rowCells h.2]; omega), len_rowCells h.2, show r.length * 9 + j - r.length * 9 = j by omega]
 | y :: r, v :: s, i + 1, x, h, hx => by
  have hx : r[i]? = some x := by simpa using hx
  have hi := (List.getElem?_eq_some_iff.1 hx).1;obtain ⟨u, hu, hc⟩ := rowCells_get h.2 hx;refine ⟨u, by simpa using hu, fun j hj => ?_⟩;show (rowCells r s ++ frCells y v)[_]? = _
  have e : (y :: r).length - 1 - (i + 1) = r.length - 1 - i := by simp only [List.length_cons]; omega
  rw [e, List.getElem?_append_left (by rw [len_rowCells h.2]; omega)];exact hc j hj
 | [], _, _, _, _, hx => by simp at hx
 | y :: r, [], _, _, h, _ => h.elim
theorem rowIts_cells : ∀ {r : List FrD} {s : List FrV} {i : Nat} {x : FrD} {v : FrV}, rowLens r s -> r[i]? = some x -> s[i]? = some v -> ∃ j, (rowIts r s)[j]? = some (.row v.cv 34 1 x.cells.length (u64s x.cells)) /\
  ∀ k u, (rowIts r s).set j (.row v.cv 34 1 x.cells.length (u64s (x.cells.set k u))) = rowIts (r.modify i fun x => { x with cells := x.cells.set k u }) s
 | y :: r, z :: s, 0, x, v, h, hx, hv => by
  have hx : y = x := by simpa using hx
  have hv : z = v := by simpa using hv
  subst hx hv;refine ⟨1, rfl, fun k u => ?_⟩;rw [List.modify_zero_cons];have e : (y.cells.set k u).length = y.cells.length := List.length_set;show _ = frIts { y with cells := y.cells.set k u } z ++ rowIts r s;unfold frIts;dsimp only;rw [e]; rfl
 | y :: r, z :: s, i + 1, x, v, h, hx, hv => by
  obtain ⟨j, h1, h2⟩ := rowIts_cells (i := i) h.2 (by simpa using hx) (by simpa using hv);refine ⟨(frIts y z).length + j, ?_, fun k u => ?_⟩
  ·show (frIts y z ++ rowIts r s)[_]? = _;rw [List.getElem?_append_right (by omega), show (frIts y z).length + j - (frIts y z).length = j by omega];exact h1
  ·rw [List.modify_succ_cons];show (frIts y z ++ rowIts r s).set _ _ = frIts y z ++ rowIts _ s;rw [List.set_append_right _ _ (by omega), show (frIts y z).length + j - (frIts y z).length = j by omega, h2 k u]
 | [], _, _, _, _, _, hx, _ => by simp at hx
 | y :: r, [], _, _, _, h, _, _ => h.elim
theorem rowCells_modify : ∀ {r : List FrD} {s : List FrV} (i k : Nat) (u : Int), rowCells (r.modify i fun x => { x with cells := x.cells.set k u }) s = rowCells r s /\ (rowLens r s -> rowLens (r.modify i fun x => { x with cells := x.cells.set k u }) s)
 | [], s, i, k, u => by simp
 | x :: r, [], 0, k, u => ⟨rfl, id⟩
 | x :: r, [], i + 1, k, u => ⟨by simp [rowCells], fun h => h.elim⟩
 | x :: r, v :: s, 0, k, u => ⟨rfl, id⟩
 | x :: r, v :: s, i + 1, k, u => by
  rw [List.modify_succ_cons];have ih := rowCells_modify (r := r) (s := s) i k u;refine ⟨?_, fun h => ⟨h.1, ih.2 h.2⟩⟩;show rowCells _ s ++ _ = rowCells r s ++ _;rw [ih.1]
theorem RunIn.frame (h : RunIn w base X R V rest) {i : Nat} {x : FrD} (hx : R.row[i]? = some x) : ∃ (g c : Nat) (v : FrV), V.rv = .slice (some ⟨g, 0, none⟩) R.row.length c /\
  w.cell? ⟨g, (R.row.length - 1 - i) * 9 + 4, none⟩ = some v.cv /\ w.cell? ⟨g, (R.row.length - 1 - i) * 9 + 5, none⟩ = some v.wv /\ w.ownsRow base 34 1 v.cv x.cells.length (u64s x.cells) /\ (∃ A wc, v.wv = .slice A x.waits.length wc) /\
  ∀ k u q cc, k < x.cells.length -> v.cv = .slice (some ⟨q, 0, none⟩) x.cells.length cc -> RunIn (w.setCell ⟨q, k, none⟩ (.int .u64 u)) base X (R.setCell i k u) V rest := by
 have hi := (List.getElem?_eq_some_iff.1 hx).1;obtain ⟨v, hv, hc⟩ := rowCells_get h.lens hx;obtain ⟨j, hj, hs⟩ := rowIts_cells h.lens hx hv;have hrow := h.rrow
 rcases hrow.2 with ⟨_, h0⟩ | ⟨g, cap, cur, hrv, hb, hh, h1, h2, h3, h4⟩
 ·omega
 rw [hrv] at hrow
 have hat : ∀ l, l < 9 -> w.cell? ⟨g, (R.row.length - 1 - i) * 9 + l, none⟩ = (frCells x v)[l]? := fun l hl => by
  rw [World.ownsRow.cellAt hrow _ (by omega)];exact hc l hl
 have hin : (runIts X V R ++ rest)[6 + j]? = some (.row v.cv 34 1 x.cells.length (u64s x.cells)) := by
  have hjl := (List.getElem?_eq_some_iff.1 hj).1;rw [List.getElem?_append_left (by unfold runIts; simp only [List.length_cons]; omega)];unfold runIts;rw [show 6 + j = j + 1 + 1 + 1 + 1 + 1 + 1 by omega]
  simpa using hj
 refine ⟨g, cap, v, hrv, hat 4 (by omega), hat 5 (by omega), h.its.own hin, ?_, fun k u q cc hk hcv => ⟨h.tok, ?_, ?_⟩⟩
 ·have hwi : ∀ {r : List FrD} {s : List FrV} {i : Nat}, r[i]? = some x -> s[i]? = some v -> (.row v.wv 93 2 x.waits.length (waitCells x.waits v.av)) ∈ rowIts r s := by
   intro r
   induction r with
   | nil => intro s i h1 _; simp at h1
   | cons y r ih =>
    intro s i h1 h2
    rcases s with _ | ⟨z, s⟩
    ·simp at h2
    rcases i with _ | i
    ·have e1 : y = x := by simpa using h1
     have e2 : z = v := by simpa using h2
     subst e1 e2;exact List.mem_append_left _ (List.mem_of_getElem? (i := 2) rfl)
    ·exact List.mem_append_right _ (ih (by simpa using h1) (by simpa using h2))
  have hm := h.its.each _ (List.mem_append_left rest (show _ ∈ runIts X V R by
   unfold runIts;simp only [List.mem_cons]
   exact .inr (.inr (.inr (.inr (.inr (.inr (hwi hx hv)))))))) 
  obtain ⟨A, wc, e, _⟩ := own_any (show w.ownsRow base _ 2 v.wv _ _ from hm);exact ⟨A, wc, e⟩
 ·exact (rowCells_modify i k u).2 h.lens
 ·rw [hcv] at hin hs;have := h.its.setRow hin (j := k) (by omega) (.int .u64 u);rw [u64s_set] at this
  have e : (runIts X V R ++ rest).set (6 + j) (.row (.slice (some ⟨q, 0, none⟩) x.cells.length cc) 34 1 x.cells.length (u64s (x.cells.set k u))) = runIts X V (R.setCell i k u) ++ rest := by
   have hjl := (List.getElem?_eq_some_iff.1 hj).1;rw [List.set_append_left _ _ (by unfold runIts; simp only [List.length_cons]; omega)]
   congr 1
   unfold runIts RunD.setCell;dsimp only;rw [show 6 + j = j + 1 + 1 + 1 + 1 + 1 + 1 by omega];simp only [List.set_cons_succ];rw [hs k u, (rowCells_modify i k u).1, List.length_modify]; rfl
  rw [e] at this;exact this
end
end Go.Proofs.Ytncpehhfjkncoaa
