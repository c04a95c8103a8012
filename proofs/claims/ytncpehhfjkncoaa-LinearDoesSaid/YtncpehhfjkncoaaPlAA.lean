/- A region that draws its order, whose last operations write what its loads read: a load may be taken first where the writing waits for it. No condition. A region that draws its order, whose last operations write what its loads read: S is asked behind what is carried out until a late operation has been; what reads no memory may be taken first always. No condition. The steps of a drawn region as lemmas that carry their own tactics; facts hidden several at once. No condition. More steps of a drawn region as lemmas that carry their own tactics: skipped operations, single ready operations, the frame laid out. No condition. Words for memory: a slice that reads as a list, a block known whole, append onto a row of the call's own, frames. No condition. (Begun from the guide's blocks that are there to be copied.) -/
import Derived.Deep.RegionHeld3
import Derived.OrdersHeld
import Derived.WalkKit
import Derived.WalkSpells
import Derived.Lib.Hide
import Derived.Below
import Derived.Calls
import Derived.Laws.OwnMore
import Derived.Laws.MakeOwn
import Derived.Laws.Entries
import Derived.Laws.Rows
import Derived.Deep.AppendLies
import Derived.Deep.Draws
import Derived.Deep.OwnRows
import Derived.Deep.QuietTactic
import Derived.Maps.AppendAt
import Derived.RegionTactic
import Derived.OwnWalk
import Derived.Laws.BytesArg
import Derived.ChangeSame
set_option linter.unusedVariables false
set_option linter.unusedSimpArgs false
set_option maxRecDepth 100000
set_option maxHeartbeats 16000000
namespace Go.Proofs.Ytncpehhfjkncoaa
section
variable {P : Program} {ops : Array Oper} {Q : Exit -> Act -> World -> Prop} {md : Region.Mode} {S : World -> Prop} {late : Array Bool}

/-- Whatever order is picked from here on, and S holds behind every operation that is carried out, but for the late ones. -/
def wpAnyL (P : Program) (md : Region.Mode) (ops : Array Oper) (Q : Exit -> Act -> World -> Prop) (S : World -> Prop) (late : Array Bool) : Nat -> Array Bool -> Act -> World -> Prop
 | 0, listed, a, w => Region.ready md ops listed = [] /\ Q .normal a w
 | fuel + 1, listed, a, w =>
  (Region.ready md ops listed = [] -> Q .normal a w) /\
  ∀ i ∈ Region.ready md ops listed, wpOp P ops Q i (fun a' w' => (late.getD i false = true ∨ S w') /\ wpAnyL P md ops Q S late fuel (listed.setIfInBounds i true) a' w') a w
theorem wpAny_of_late : ∀ (fuel : Nat) (listed : Array Bool) (a : Act) (w : World), wpAnyL P md ops Q S late fuel listed a w -> wpAny P md ops Q fuel listed a w
 | 0, _, _, _, h => h
 | fuel + 1, _, _, _, h => ⟨h.1, fun i hi => wpOp_mono (fun a' w' h' => wpAny_of_late fuel _ a' w' h'.2) (h.2 i hi)⟩
/-- what may have come up while number i has not -/
def beforeOf (md : Region.Mode) (ops : Array Oper) (i : Nat) : Nat -> Array Bool -> Array Bool
 | 0, F => F
 | n + 1, F => beforeOf md ops i n ((Region.ready md ops F).foldl (fun F j => if j = i then F else F.setIfInBounds j true) F)
def lateOk (md : Region.Mode) (ops : Array Oper) (late listed F : Array Bool) (i : Nat) : Bool :=
 decide (F.size = ops.size) && (Region.ready md ops F).all (fun k => k == i) && (List.range listed.size).all (fun k => !listed.getD k false || F.getD k false) && (List.range F.size).all (fun k => !F.getD k false || !late.getD k false)
theorem getD_lt {F : Array Bool} {k : Nat} (h : F.getD k false = true) : k < F.size := by
 rcases Nat.lt_or_ge k F.size with h' | h'
 ·exact h'
 ·simp [Array.getElem?_eq_none h'] at h
theorem lateOk_spec {listed F : Array Bool} {i : Nat} (h : lateOk md ops late listed F i = true) :
  F.size = ops.size /\ (∀ k ∈ Region.ready md ops F, k = i) /\ (∀ k, listed.getD k false = true -> F.getD k false = true) /\ ∀ k, F.getD k false = true -> late.getD k false = false := by
 simp only [lateOk, Bool.and_eq_true, decide_eq_true_eq, List.all_eq_true, List.mem_range, Bool.or_eq_true, Bool.not_eq_true', beq_iff_eq] at h;obtain ⟨⟨⟨h1, h2⟩, h3⟩, h4⟩ := h;refine ⟨h1, h2, fun k hk => ?_, fun k hk => ?_⟩
 ·rcases h3 k (getD_lt hk) with h | h
  ·rw [h] at hk; cases hk
  ·exact h
 ·rcases h4 k (getD_lt hk) with h | h
  ·rw [h] at hk; cases hk
  ·exact h
theorem before_ready {F listed : Array Bool} {i j : Nat} (h1 : F.size = ops.size) (h2 : ∀ k ∈ Region.ready md ops F, k = i) (hle : ∀ k, listed.getD k false = true -> F.getD k false = true) (hj : j ∈ Region.ready md ops listed) (hne : j ≠ i) : F.getD j false = true := by
 by_cases hF : F.getD j false = true
 ·exact hF
 ·exfalso
  obtain ⟨_, o, ho, hall⟩ := mem_ready.1 hj
  have hlt : j < F.size := by rw [h1]; exact (Array.getElem?_eq_some_iff.1 ho).1
  refine hne (h2 j (mem_ready.2 ⟨?_, o, ho, fun e he hb => hle _ (hall e he hb)⟩));simp only [Array.getD_eq_getD_getElem?, Array.getElem?_eq_getElem hlt, Option.getD_some] at hF ⊢
  simpa using hF
theorem getD_set_or {listed : Array Bool} {i k : Nat} (h : (listed.setIfInBounds i true).getD k false = true) : k = i ∨ listed.getD k false = true := by
 by_cases hk : k = i
 ·exact .inl hk
 ·rw [getD_set_ne false (Ne.symm hk)] at h; exact .inr h
theorem wpAnyL_first {i : Nat} {oi : Oper} {v : Value} {F : Array Bool} (hi : ops[i]? = some oi) (hsel : ∀ (j : Nat) (o : Oper) cs b, ops[j]? = some o -> o.op ≠ .select cs b)
  (hQ : ∀ c a w, Q (.panic c) (a.put oi.dst v) w -> Q (.panic c) a w) (h1 : F.size = ops.size) (h2 : ∀ k ∈ Region.ready md ops F, k = i) (hl : ∀ k, F.getD k false = true -> late.getD k false = false) :
  ∀ (fuel : Nat) (listed : Array Bool) (a : Act) (w : World), (∀ k, listed.getD k false = true -> F.getD k false = true) ->
   (∀ j oj, ops[j]? = some oj -> j ≠ i -> listed.getD j true = false -> (∀ e ∈ oj.after, Region.binds md e = true -> e.on ≠ i) -> oi.apart ops oj = true) ->
   i ∈ Region.ready md ops listed -> YieldsIf P ops S oi v a -> S w ->
   wpAnyL P md ops Q S late fuel (listed.setIfInBounds i true) (a.put oi.dst v) w -> wpAnyL P md ops Q S late (fuel + 1) listed a w := by
 intro fuel
 induction fuel with
 | zero =>
  intro listed a w _ _ hr hy hS H;refine ⟨fun h => (by rw [h] at hr; cases hr), fun j hj => ?_⟩
  by_cases hji : j = i
  ·subst hji; exact hy.wpOp hi hS ⟨.inr hS, H⟩
  ·have := ready_mono hj hji;rw [H.1] at this
   cases this
 | succ fuel ih =>
  intro listed a w hle hfree hr hy hS H;refine ⟨fun h => (by rw [h] at hr; cases hr), fun j hj => ?_⟩
  by_cases hji : j = i
  ·subst hji; exact hy.wpOp hi hS ⟨.inr hS, H⟩
  ·have hjF := before_ready h1 h2 hle hj hji;have hjl := hl j hjF;have h3 := H.2 j (ready_mono hj hji);obtain ⟨hjun, oj, hoj, hall⟩ := mem_ready.1 hj
   have hnot : ∀ e ∈ oj.after, Region.binds md e = true -> e.on ≠ i := fun e he hb heq => by
    have h1 := hall e he hb;have h0 := (mem_ready.1 hr).1;rw [heq] at h1
    rcases Nat.lt_or_ge i listed.size with h' | h'
    ·simp [h'] at h0 h1; rw [h0] at h1; cases h1
    ·simp [Array.getElem?_eq_none h'] at h1
   have h4 := wpOp_putIf hoj (hfree j oj hoj hji hjun hnot) (fun cs b => hsel i oi cs b hi) (fun cs b => hsel j oj cs b hoj) hQ hy h3
   have hfree' : ∀ k ok, ops[k]? = some ok -> k ≠ i -> (listed.setIfInBounds j true).getD k true = false ->
     (∀ e ∈ ok.after, Region.binds md e = true -> e.on ≠ i) -> oi.apart ops ok = true := fun k ok hk hki hun hno => by
    refine hfree k ok hk hki ?_ hno
    by_cases hjk : j = k
    ·subst hjk; exact hjun
    ·rw [getD_set_ne true hjk] at hun; exact hun
   have hle' : ∀ k, (listed.setIfInBounds j true).getD k false = true -> F.getD k false = true := fun k hk => by
    rcases getD_set_or hk with rfl | h
    ·exact hjF
    ·exact hle k h
   refine wpOp_mono (fun a' w' h5 => ?_) h4;have hS' : S w' := h5.2.1.resolve_left (by rw [hjl]; simp);refine ⟨.inr hS', ih (listed.setIfInBounds j true) a' w' hle' hfree' (ready_mono hr (Ne.symm hji)) h5.1 hS' ?_⟩;rw [Array.setIfInBounds_comm _ _ hji];exact h5.2.2
theorem wpAnyL_take {i : Nat} {oi : Oper} {v : Value} {fuel : Nat} {listed : Array Bool} {a : Act} {w : World} (hi : ops[i]? = some oi)
  (hs : Region.noSelect ops = true) (hf : Region.free md ops listed i = true) (hr : (Region.ready md ops listed).contains i = true) (hl : lateOk md ops late listed (beforeOf md ops i ops.size listed) i = true)
  (hQ : ∀ c a w, Q (.panic c) (a.put oi.dst v) w -> Q (.panic c) a w) (hy : YieldsIf P ops S oi v a) (hS : S w)
  (h : wpAnyL P md ops Q S late fuel (listed.setIfInBounds i true) (a.put oi.dst v) w) : wpAnyL P md ops Q S late (fuel + 1) listed a w := by
 obtain ⟨h1, h2, h3, h4⟩ := lateOk_spec hl;exact wpAnyL_first hi (Region.noSelect_spec hs) hQ h1 h2 h4 fuel listed a w h3 (Region.free_spec hi hf) (by simpa using hr) hy hS h
theorem wpAnyL_all {rs : List Nat} {fuel : Nat} {listed : Array Bool} {a : Act} {w : World} (hr : Region.ready md ops listed = rs) (hne : rs ≠ [])
  (h : ∀ i ∈ rs, wpOp P ops Q i (fun a' w' => (late.getD i false = true ∨ S w') /\ wpAnyL P md ops Q S late fuel (listed.setIfInBounds i true) a' w') a w) : wpAnyL P md ops Q S late (fuel + 1) listed a w :=
 ⟨fun h0 => absurd (hr ▸ h0) hne, hr ▸ h⟩
theorem wpAnyL_done {listed : Array Bool} {a : Act} {w : World} (hr : Region.ready md ops listed = []) (h : Q .normal a w) :
  ∀ fuel, wpAnyL P md ops Q S late fuel listed a w
 | 0 => ⟨hr, h⟩
 | _ + 1 => ⟨fun _ => h, by rw [hr]; simp⟩
def AllReadyL (P : Program) (md : Region.Mode) (ops : Array Oper) (Q : Exit -> Act -> World -> Prop) (S : World -> Prop) (late : Array Bool) (fuel : Nat) (listed : Array Bool) (a : Act) (w : World) (rs : List Nat) : Prop :=
 ∀ i ∈ rs, wpOp P ops Q i (fun a' w' => (late.getD i false = true ∨ S w') /\ wpAnyL P md ops Q S late fuel (listed.setIfInBounds i true) a' w') a w
theorem AllReadyL.nil {fuel : Nat} {listed : Array Bool} {a : Act} {w : World} : AllReadyL P md ops Q S late fuel listed a w [] := fun _ h => by cases h
theorem AllReadyL.cons {fuel : Nat} {listed : Array Bool} {a : Act} {w : World} {i : Nat} {o : Oper} {rs : List Nat} (ho : ops[i]? = some o)
  (h : ∀ K' : Act -> World -> Prop, Shut (∀ a w, S w -> (S w -> wpAnyL P md ops Q S late fuel (listed.setIfInBounds i true) a w) -> K' a w) -> if Region.wanted o (yielded ops a.tmps) = true then Oper.wp P o a w K' Q else K' (a.put o.dst undef) w)
  (hs : AllReadyL P md ops Q S late fuel listed a w rs) : AllReadyL P md ops Q S late fuel listed a w (i :: rs) := fun j hj => by
 rcases List.mem_cons.1 hj with rfl | hj
 ·exact wpOp_step ho (fun K' hK => h K' (fun a w hS hW => hK a w ⟨.inr hS, hW hS⟩))
 ·exact hs j hj
/-- a late one: S is not asked -/
theorem AllReadyL.last {fuel : Nat} {listed : Array Bool} {a : Act} {w : World} {i : Nat} {o : Oper} {rs : List Nat} (ho : ops[i]? = some o) (hl : late.getD i false = true)
  (h : ∀ K' : Act -> World -> Prop, Shut (∀ a w, wpAnyL P md ops Q S late fuel (listed.setIfInBounds i true) a w -> K' a w) -> if Region.wanted o (yielded ops a.tmps) = true then Oper.wp P o a w K' Q else K' (a.put o.dst undef) w)
  (hs : AllReadyL P md ops Q S late fuel listed a w rs) : AllReadyL P md ops Q S late fuel listed a w (i :: rs) := fun j hj => by
 rcases List.mem_cons.1 hj with rfl | hj
 ·exact wpOp_step ho (fun K' hK => h K' (fun a w hW => hK a w ⟨.inl hl, hW⟩))
 ·exact hs j hj
theorem wpAnyL_ready {rs : List Nat} {fuel : Nat} {listed : Array Bool} {a : Act} {w : World} (hr : Region.ready md ops listed = rs) (hne : rs ≠ [])
  (h : AllReadyL P md ops Q S late fuel listed a w rs) : wpAnyL P md ops Q S late (fuel + 1) listed a w := wpAnyL_all hr hne h
theorem wp_region_late {id : Nat} {a : Act} {w : World} (late : Array Bool) (hm : P.follows .mixedOrders = true) (hS : S w.drew)
  (h : S w.drew -> wpAnyL P .any ops Q S late ops.size (Array.replicate ops.size false) a w.drew) : (Code.region id ops true).wp P Q a w :=
 wp_region_any hm (wpAny_of_late _ _ _ _ (h hS))
end
end Go.Proofs.Ytncpehhfjkncoaa
namespace Go.Proofs.Ytncpehhfjkncoaa
section
variable {P : Program} {ops : Array Oper} {Q : Exit -> Act -> World -> Prop} {md : Region.Mode} {S : World -> Prop} {late : Array Bool}
def lateIn (late listed : Array Bool) : Prop := ∃ k : Nat, listed.getD k false = true /\ late.getD k false = true
theorem getD_set_keep {listed : Array Bool} {i k : Nat} (h : listed.getD k false = true) : (listed.setIfInBounds i true).getD k false = true := by
 have hk := getD_lt h
 by_cases he : i = k
 ·subst he;simp [Array.getD_eq_getD_getElem?, hk]
 ·rw [getD_set_ne false he]; exact h
theorem lateIn.set {listed : Array Bool} (h : lateIn late listed) (i : Nat) : lateIn late (listed.setIfInBounds i true) := by
 obtain ⟨k, h1, h2⟩ := h;exact ⟨k, getD_set_keep h1, h2⟩
def wpAnyM (P : Program) (md : Region.Mode) (ops : Array Oper) (Q : Exit -> Act -> World -> Prop) (S : World -> Prop) (late : Array Bool) : Nat -> Array Bool -> Act -> World -> Prop
 | 0, listed, a, w => Region.ready md ops listed = [] /\ Q .normal a w
 | fuel + 1, listed, a, w =>
  (Region.ready md ops listed = [] -> Q .normal a w) /\
  ∀ i ∈ Region.ready md ops listed, wpOp P ops Q i (fun a' w' => (lateIn late (listed.setIfInBounds i true) ∨ S w') /\ wpAnyM P md ops Q S late fuel (listed.setIfInBounds i true) a' w') a w
end
end Go.Proofs.Ytncpehhfjkncoaa
namespace Go.Proofs.Ytncpehhfjkncoaa
open Go.RowKit
section
variable {P : Program} {ops : Array Oper} {Q : Exit -> Act -> World -> Prop} {md : Region.Mode} {S : World -> Prop} {late : Array Bool} {fuel : Nat} {listed listed' : Array Bool} {a a' : Act} {w : World}
theorem wpAnyL_tk (i : Nat) {oi : Oper} {v : Value} (h : wpAnyL P md ops Q S late fuel listed' a' w)
  (hi : ops[i]? = some oi := by rfl) (hs : Region.noSelect ops = true := by kernel_rfl) (hf : Region.free md ops listed i = true := by kernel_rfl) (hr : (Region.ready md ops listed).contains i = true := by kernel_rfl) (hl : lateOk md ops late listed (beforeOf md ops i ops.size listed) i = true := by kernel_rfl)
  (hQ : ∀ c a w, Q (.panic c) (a.put oi.dst v) w -> Q (.panic c) a w := by exact fun _ _ _ h => h)
  (hy : YieldsIf P ops S oi v a := by refine Or.inl ⟨by rfl, ?_⟩; intro w hSw; (try dsimp only at hSw); go_simp; try with_reducible rfl) (hS : S w := by assumption)
  (he : a.put oi.dst v = a' := by simp only [Act.put, List.getElem_toArray, List.getElem_cons_zero, List.getElem_cons_succ, List.setIfInBounds_toArray, List.set_cons_zero, List.set_cons_succ] <;> rfl)
  (hL : listed.setIfInBounds i true = listed' := by (try simp only [List.setIfInBounds_toArray, List.set_cons_zero, List.set_cons_succ]) <;> rfl) : wpAnyL P md ops Q S late (fuel + 1) listed a w := by
 subst he hL;exact wpAnyL_take hi hs hf hr hl hQ hy hS h
theorem wpAnyH_tk (i : Nat) {oi : Oper} {v : Value} (h : wpAnyH P md ops Q S fuel listed' a' w)
  (hi : ops[i]? = some oi := by rfl) (hs : Region.noSelect ops = true := by kernel_rfl) (hf : Region.free md ops listed i = true := by kernel_rfl) (hr : (Region.ready md ops listed).contains i = true := by kernel_rfl)
  (hQ : ∀ c a w, Q (.panic c) (a.put oi.dst v) w -> Q (.panic c) a w := by exact fun _ _ _ h => h)
  (hy : YieldsIf P ops S oi v a := by refine Or.inl ⟨by rfl, ?_⟩; intro w hSw; (try dsimp only at hSw); go_simp; try with_reducible rfl) (hS : S w := by assumption)
  (he : a.put oi.dst v = a' := by simp only [Act.put, List.getElem_toArray, List.getElem_cons_zero, List.getElem_cons_succ, List.setIfInBounds_toArray, List.set_cons_zero, List.set_cons_succ] <;> rfl)
  (hL : listed.setIfInBounds i true = listed' := by (try simp only [List.setIfInBounds_toArray, List.set_cons_zero, List.set_cons_succ]) <;> rfl) : wpAnyH P md ops Q S (fuel + 1) listed a w := by
 subst he hL;exact wpAnyH_take hi hs hf hr hQ hy hS h
end
section
variable {p q r s t u v x : Prop}
theorem hd2 (a : p) (b : q) : Hid p /\ Hid q := ⟨a, b⟩
theorem hd3 (a : p) (b : q) (c : r) : Hid p /\ Hid q /\ Hid r := ⟨a, b, c⟩
theorem hd4 (a : p) (b : q) (c : r) (d : s) : Hid p /\ Hid q /\ Hid r /\ Hid s := ⟨a, b, c, d⟩
theorem hd5 (a : p) (b : q) (c : r) (d : s) (e : t) : Hid p /\ Hid q /\ Hid r /\ Hid s /\ Hid t := ⟨a, b, c, d, e⟩
theorem hd6 (a : p) (b : q) (c : r) (d : s) (e : t) (f : u) : Hid p /\ Hid q /\ Hid r /\ Hid s /\ Hid t /\ Hid u := ⟨a, b, c, d, e, f⟩
theorem hd7 (a : p) (b : q) (c : r) (d : s) (e : t) (f : u) (g : v) : Hid p /\ Hid q /\ Hid r /\ Hid s /\ Hid t /\ Hid u /\ Hid v := ⟨a, b, c, d, e, f, g⟩
theorem hd8 (a : p) (b : q) (c : r) (d : s) (e : t) (f : u) (g : v) (h : x) : Hid p /\ Hid q /\ Hid r /\ Hid s /\ Hid t /\ Hid u /\ Hid v /\ Hid x := ⟨a, b, c, d, e, f, g, h⟩
end
end Go.Proofs.Ytncpehhfjkncoaa
namespace Go.Proofs.Ytncpehhfjkncoaa
open Go.RowKit
theorem nm {α : Sort _} (t : α) : ∃ x, x = t := ⟨_, rfl⟩
theorem mn {α : Sort _} (t : α) : ∃ x, t = x := ⟨_, rfl⟩
def nthV : List Value -> Nat -> Option Value
 | [], _ => none
 | x :: _, 0 => some x
 | _ :: l, n + 1 => nthV l n
theorem nthV_get : ∀ (l : List Value) (n : Nat), l[n]? = nthV l n
 | [], n => by simp [nthV]
 | x :: l, 0 => by simp [nthV]
 | x :: l, n + 1 => by simp [nthV, nthV_get l n]
/-- a cell of a block whose cells stand there -/
theorem bc {w : World} {g : Nat} {t : TypeId} {cs : Array Value} (h : w.heap[g]? = some (.cells cs t (0, 0))) (i : Nat) {v : Value} (e : nthV cs.toList i = some v := by rfl) : w.cell? ⟨g, i, none⟩ = some v := by
 rw [<- e, <- nthV_get, Array.getElem?_toList];simp [World.cell?, h]
theorem lay {p q : Prop} (h : q) (e : p = q := by (try simp only [Act.put, List.getElem_toArray, List.getElem_cons_zero, List.getElem_cons_succ, List.setIfInBounds_toArray, List.set_cons_zero, List.set_cons_succ]) <;> rfl) : p := e.mpr h
section
variable {P : Program} {ops : Array Oper} {Q : Exit -> Act -> World -> Prop} {md : Region.Mode} {S : World -> Prop} {late : Array Bool} {fuel : Nat} {listed listed' : Array Bool} {a a' : Act} {w : World}
theorem wpAnyH_sk (i : Nat) {oi : Oper} (h : wpAnyH P md ops Q S fuel listed' a' w)
  (hi : ops[i]? = some oi := by rfl) (hs : Region.noSelect ops = true := by kernel_rfl) (hf : Region.free md ops listed i = true := by kernel_rfl) (hr : (Region.ready md ops listed).contains i = true := by kernel_rfl)
  (hQ : ∀ c a w, Q (.panic c) (a.put oi.dst undef) w -> Q (.panic c) a w := by exact fun _ _ _ h => h)
  (hy : YieldsIf P ops S oi undef a := by exact Or.inr ⟨by rfl, rfl⟩) (hS : S w := by assumption)
  (he : a.put oi.dst undef = a' := by simp only [Act.put, List.getElem_toArray, List.getElem_cons_zero, List.getElem_cons_succ, List.setIfInBounds_toArray, List.set_cons_zero, List.set_cons_succ] <;> rfl)
  (hL : listed.setIfInBounds i true = listed' := by (try simp only [List.setIfInBounds_toArray, List.set_cons_zero, List.set_cons_succ]) <;> rfl) : wpAnyH P md ops Q S (fuel + 1) listed a w := by
 subst he hL;exact wpAnyH_take hi hs hf hr hQ hy hS h
theorem wpAnyH_rd (i : Nat) {o : Oper} (h : ∀ K' : Act -> World -> Prop, Shut (∀ a w, S w -> (S w -> wpAnyH P md ops Q S fuel (listed.setIfInBounds i true) a w) -> K' a w) -> if Region.wanted o (yielded ops a.tmps) = true then Oper.wp P o a w K' Q else K' (a.put o.dst undef) w)
  (hr : Region.ready md ops listed = [i] := by kernel_rfl) (ho : ops[i]? = some o := by rfl) : wpAnyH P md ops Q S (fuel + 1) listed a w :=
 wpAnyH_ready hr (by simp) (AllReadyH.cons ho h AllReadyH.nil)
theorem wpAnyL_rd (i : Nat) {o : Oper} (h : ∀ K' : Act -> World -> Prop, Shut (∀ a w, S w -> (S w -> wpAnyL P md ops Q S late fuel (listed.setIfInBounds i true) a w) -> K' a w) -> if Region.wanted o (yielded ops a.tmps) = true then Oper.wp P o a w K' Q else K' (a.put o.dst undef) w)
  (hr : Region.ready md ops listed = [i] := by kernel_rfl) (ho : ops[i]? = some o := by rfl) : wpAnyL P md ops Q S late (fuel + 1) listed a w :=
 wpAnyL_ready hr (by simp) (AllReadyL.cons ho h AllReadyL.nil)
theorem wpAnyL_ls (i : Nat) {o : Oper} (h : ∀ K' : Act -> World -> Prop, Shut (∀ a w, wpAnyL P md ops Q S late fuel (listed.setIfInBounds i true) a w -> K' a w) -> if Region.wanted o (yielded ops a.tmps) = true then Oper.wp P o a w K' Q else K' (a.put o.dst undef) w)
  (hr : Region.ready md ops listed = [i] := by kernel_rfl) (hl : late.getD i false = true := by kernel_rfl) (ho : ops[i]? = some o := by rfl) : wpAnyL P md ops Q S late (fuel + 1) listed a w :=
 wpAnyL_ready hr (by simp) (AllReadyL.last ho hl h AllReadyL.nil)
end
end Go.Proofs.Ytncpehhfjkncoaa
namespace Go.Proofs.Ytncpehhfjkncoaa
open Go.RowKit Go.WideShapes Go.ChangeShapes

theorem block_of_add (a : Addr) (n : Nat) : (a.add n).block = a.block := by unfold Addr.add; split <;> rfl
theorem add_of_add (a : Addr) (i j : Nat) : (a.add i).add j = a.add (i + j) := by
 unfold Addr.add
 by_cases hi : i = 0 <;> by_cases hj : j = 0 <;> simp [hi, hj, Nat.add_assoc]

def Reads (w : World) (B size : Nat) (A : Option Addr) (n : Nat) (xs : List Value) : Prop :=
 xs.length = n * size /\ (0 < n -> ∃ ad, A = some ad /\ ad.block < B /\ ∀ j u, xs[j]? = some u -> w.cell? (ad.add j) = some u)

section
variable {w w' : World} {B B' size n : Nat} {A : Option Addr} {xs : List Value}
theorem Reads.none_ : Reads w B size A 0 [] := ⟨by simp, fun h => absurd h (by omega)⟩
theorem Reads.at_ {k : Nat} (h : Reads w B 1 A n xs) (hk : k < n) : ∃ ad u, A = some ad /\ ad.block < B /\ xs[k]? = some u /\ w.cell? (ad.add k) = some u := by
 obtain ⟨ad, e, hb, hc⟩ := h.2 (by omega)
 have hl : k < xs.length := by have := h.1; omega
 exact ⟨ad, xs[k], e, hb, List.getElem?_eq_getElem hl, hc k _ (List.getElem?_eq_getElem hl)⟩
theorem Reads.keep (h : Reads w B size A n xs) (hk : ∀ p : Addr, p.block < B -> w'.cell? p = w.cell? p) : Reads w' B size A n xs :=
 ⟨h.1, fun hn => by
  obtain ⟨ad, e, hb, hc⟩ := h.2 hn
  exact ⟨ad, e, hb, fun j u hu => (hk _ (by rw [block_of_add]; exact hb)).trans (hc j u hu)⟩⟩
theorem Reads.more (h : Reads w B size A n xs) (hB : B <= B') : Reads w B' size A n xs :=
 ⟨h.1, fun hn => by
  obtain ⟨ad, e, hb, hc⟩ := h.2 hn
  exact ⟨ad, e, by omega, hc⟩⟩
theorem Reads.below (h : Reads w B size A n xs) (hb : Below B w w') : Reads w' B size A n xs := h.keep fun _ hp => hb.cell hp
theorem Reads.drew (h : Reads w B size A n xs) : Reads w.drew B size A n xs := h
theorem Reads.drewN (h : Reads w B size A n xs) (k : Nat) : Reads (w.drewN k) B size A n xs := h
theorem Reads.alloc (h : Reads w B size A n xs) (hB : B <= w.heap.size) (o : Obj) : Reads (w.alloc o) B size A n xs := h.keep fun p hp => World.cell?_alloc_lt w o p (by omega)
theorem Reads.setCell (h : Reads w B size A n xs) {p : Addr} (hB : B <= p.block) (u : Value) : Reads (w.setCell p u) B size A n xs :=
 h.keep fun q hq => World.cell?_setCell_other w p q u (fun e => by subst e; omega)
theorem Reads.grown (h : Reads w B size A n xs) {row : Option Nat} (hg : w.grownBy w' row) (hB : B <= w.heap.size) (hr : ∀ g, row = some g -> B <= g) : Reads w' B size A n xs :=
 h.keep fun p hp => World.cell?_of_block (hg.block p.block (by omega) (fun e => by have := hr _ e.symm; omega))
theorem Reads.cut (h : Reads w B size A n xs) {k cap : Nat} (hk : k <= n) (hc : n <= cap) :
  Reads w B size (if cap = k then A else A.map (·.add (k * size))) (n - k) (xs.drop (k * size)) := by
 refine ⟨by rw [List.length_drop, h.1, Nat.sub_mul], fun hn => ?_⟩;obtain ⟨ad, rfl, hb, hcell⟩ := h.2 (by omega);rw [if_neg (by omega)];refine ⟨ad.add (k * size), rfl, by rw [block_of_add]; exact hb, fun j u hu => ?_⟩;rw [add_of_add];exact hcell _ u (by rw [<- hu, List.getElem?_drop])
theorem Reads.of_own {base : Nat} {e : TypeId} {c : Nat} (h : w.ownsRow base e size (.slice A n c) n xs) : Reads w w.heap.size size A n xs := by
 refine ⟨h.1, fun hn => ?_⟩;obtain ⟨g, cap, hv, _, hlt⟩ := h.form hn
 have hA : A = some ⟨g, 0, none⟩ := by injection hv
 subst hA;exact ⟨_, rfl, hlt, h.cells (g := g) rfl⟩
end

def Blk (w : World) (g : Nat) (t : TypeId) (cs : Array Value) : Prop := w.heap[g]? = some (.cells cs t (0, 0))

section
variable {w w' : World} {g : Nat} {t : TypeId} {cs : Array Value}
theorem Blk.lt (h : Blk w g t cs) : g < w.heap.size := by
 rcases Nat.lt_or_ge g w.heap.size with hlt | hge
 ·exact hlt
 ·unfold Blk at h; rw [Array.getElem?_eq_none hge] at h; cases h
theorem Blk.cell (h : Blk w g t cs) (i : Nat) : w.cell? ⟨g, i, none⟩ = cs[i]? := cell_of_row w g i cs t (0, 0) h
theorem Blk.frozen (h : Blk w g t cs) (i : Nat) : w.frozen? ⟨g, i, none⟩ = false := by
 unfold Blk at h;simp [World.frozen?, h]
theorem Blk.new (w : World) (t : TypeId) (cs : Array Value) : Blk (w.alloc (.cells cs t)) w.heap.size t cs := heap_alloc_new w _
theorem Blk.drew (h : Blk w g t cs) : Blk w.drew g t cs := h
theorem Blk.drewN (h : Blk w g t cs) (n : Nat) : Blk (w.drewN n) g t cs := h
theorem Blk.alloc (h : Blk w g t cs) (o : Obj) : Blk (w.alloc o) g t cs := (Below.heap_alloc w o g h.lt).trans h
theorem Blk.set_ (h : Blk w g t cs) (i : Nat) (u : Value) : Blk (w.setCell ⟨g, i, none⟩ u) g t (cs.setIfInBounds i u) := by
 unfold Blk at h ⊢;simp [World.setCell, Array.getElem?_modify, h]
theorem Blk.far (h : Blk w g t cs) {p : Addr} (hp : g ≠ p.block) (u : Value) : Blk (w.setCell p u) g t cs := (Below.heap_setCell w p u g hp).trans h
theorem Blk.below {B : Nat} (h : Blk w g t cs) (hb : Below B w w') (hg : g < B) : Blk w' g t cs := (hb.block g hg).trans h
theorem Blk.grown {row : Option Nat} (h : Blk w g t cs) (hb : w.grownBy w' row) (hg : some g ≠ row) : Blk w' g t cs := (hb.block g h.lt hg).trans h
theorem Blk.ne_ {g' : Nat} {t' : TypeId} {cs' : Array Value} (h : Blk w g t cs) (h' : Blk w g' t' cs') (hne : t ≠ t') : g ≠ g' := by
 rintro rfl;unfold Blk at h h';rw [h] at h';injection h' with h';injection h' with _ ht;exact hne ht
theorem own_blk_ne {base : Nat} {e : TypeId} {size n : Nat} {v : Value} {xs : List Value} (h : w.ownsRow base e size v n xs) (hg : Blk w g t cs) (hne : e ≠ t) : v.ownBlock ≠ some g := by
 rcases h.2 with ⟨rfl, _⟩ | ⟨g', cap, cur, rfl, _, hh, _⟩
 ·simp [Value.ownBlock]
 ·intro he
  have : g' = g := by simpa [Value.ownBlock] using he
  subst this;exact Blk.ne_ (t := e) hh hg hne rfl
end

section
variable {P : Program} (w : World)

theorem run_append_of_nil (base : Nat) (t ty e : TypeId) (i : TypeInfo) (size : Nat) (ht : P.underlying t = some (.slice e)) (hi : P.info? e = some i)
  (v : Value) (n : Nat) (xs : List Value) (hown : w.ownsRow base e size v n xs) (c : Nat) : (Builtin.append_ #[t, t] ty #[v, .slice none 0 c]).run P w = .ok v w := by
 rcases hown.2 with ⟨rfl, rfl⟩ | ⟨g, cap, cur, rfl, _, _, hnc, _⟩
 ·simp [Builtin.append_, run_underlying ht, sizeOf, typeInfo, hi, Builtin.lenOf, Builtin.firstCells]
 ·simp [Builtin.append_, run_underlying ht, sizeOf, typeInfo, hi, Builtin.lenOf, Builtin.firstCells, hnc, storeCells]

theorem run_append_any (base : Nat) (t ty e : TypeId) (i : TypeInfo) (z : Value) (size bytes : Nat) (ht : P.underlying t = some (.slice e)) (hi : P.info? e = some i) (hz : i.zero = some z)
  (hsize : i.size = size) (hby : i.bytes = bytes) (hzs : z.cells.size = size) (hsz : 0 < size)
  (v : Value) (n : Nat) (xs : List Value) (hown : w.ownsRow base e size v n xs)
  (B : Nat) (A : Option Addr) (m c : Nat) (news : List Value) (hr : Reads w B size A m news) (h1 : ∀ u ∈ news, u.oneCell' = true)
  (h63 : n + m <= maxLen) (hbytes : (n + m) * bytes <= 140737488355328) (hbase : base <= w.heap.size) :
  ∃ v' w', (Builtin.append_ #[t, t] ty #[v, .slice A m c]).run P w = .ok v' w' /\ w'.ownsRow base e size v' (n + m) (xs ++ news) /\ w.grownBy w' v.ownBlock /\
   (v'.ownBlock = v.ownBlock ∨ v'.ownBlock = some w.heap.size) := by
 rcases A with _ | ad
 ·have hm : m = 0 := by
   rcases Nat.eq_zero_or_pos m with h0 | h0
   ·exact h0
   ·obtain ⟨ad, h, _⟩ := hr.2 h0
    cases h
  subst hm;have hn : news = [] := List.eq_nil_of_length_eq_zero (by simpa using hr.1);subst hn;exact ⟨v, w, run_append_of_nil w base t ty e i size ht hi v n xs hown c, by simpa using hown, World.grownBy.refl w _, .inl rfl⟩
 ·have hcells : ∀ j u, news[j]? = some u -> w.cell? (ad.add j) = some u := by
   intro j u hu
   rcases Nat.eq_zero_or_pos m with h0 | h0
   ·subst h0;have hn : news = [] := List.eq_nil_of_length_eq_zero (by simpa using hr.1);subst hn;simp at hu
   ·obtain ⟨ad', h, _, hc⟩ := hr.2 h0;injection h with h;subst h;exact hc j u hu
  obtain ⟨v', w', hrun, h2, h3, _, h5⟩ := run_append_own_at (P := P) w base t ty e i z size bytes ht hi hz hsize hby hzs hsz v n xs hown ad m c news hr.1 hcells h1 h63 hbytes hbase;exact ⟨v', w', hrun, h2, h3, h5⟩

theorem wp_append_any {o : Oper} {a : Act} {K : Act -> World -> Prop} {Q : Exit -> Act -> World -> Prop} (s x : Operand) (t : TypeId)
  (ho : o.op = .call { callee := .builtin .append, args := #[s, x], argTypes := #[t, t] })
  (base : Nat) (e : TypeId) (i : TypeInfo) (z : Value) (size bytes : Nat) (ht : P.underlying t = some (.slice e)) (hi : P.info? e = some i) (hz : i.zero = some z)
  (hsize : i.size = size) (hby : i.bytes = bytes) (hzs : z.cells.size = size) (hsz : 0 < size)
  (v : Value) (n : Nat) (xs : List Value) (hs : a.eval s = v) (hown : w.ownsRow base e size v n xs)
  (B : Nat) (A : Option Addr) (m c : Nat) (news : List Value) (hx : a.eval x = .slice A m c) (hr : Reads w B size A m news) (h1 : ∀ u ∈ news, u.oneCell' = true)
  (h63 : n + m <= maxLen) (hbytes : (n + m) * bytes <= 140737488355328) (hbase : base <= w.heap.size)
  (h : ∀ v' w', w'.ownsRow base e size v' (n + m) (xs ++ news) -> w.grownBy w' v.ownBlock -> (v'.ownBlock = v.ownBlock ∨ v'.ownBlock = some w.heap.size) -> K (a.put o.dst v') w') : o.wp P a w K Q := by
 obtain ⟨v', w', hrun, h2, h3, h4⟩ := run_append_any (P := P) w base t o.type e i z size bytes ht hi hz hsize hby hzs hsz v n xs hown B A m c news hr h1 h63 hbytes hbase;unfold Oper.wp execOp;simp only [ho, resolve, invoke, builtin, Sem.run_bind, Sem.run_pure, Result.andThen_ok, List.map_toArray, List.map_cons, List.map_nil, hs, hx, hrun];exact h v' w' h2 h3 h4

theorem wpList_append_any {ops : Array Oper} {rest : List Oper} {o : Oper} {a : Act} {Q : Exit -> Act -> World -> Prop} (hgd : o.guard = none) (s x : Operand) (t : TypeId)
  (ho : o.op = .call { callee := .builtin .append, args := #[s, x], argTypes := #[t, t] })
  (base : Nat) (e : TypeId) (i : TypeInfo) (z : Value) (size bytes : Nat) (ht : P.underlying t = some (.slice e)) (hi : P.info? e = some i) (hz : i.zero = some z)
  (hsize : i.size = size) (hby : i.bytes = bytes) (hzs : z.cells.size = size) (hsz : 0 < size)
  (v : Value) (n : Nat) (xs : List Value) (hs : a.eval s = v) (hown : w.ownsRow base e size v n xs)
  (B : Nat) (A : Option Addr) (m c : Nat) (news : List Value) (hx : a.eval x = .slice A m c) (hr : Reads w B size A m news) (h1 : ∀ u ∈ news, u.oneCell' = true)
  (h63 : n + m <= maxLen) (hbytes : (n + m) * bytes <= 140737488355328) (hbase : base <= w.heap.size)
  (h : ∀ v' w', w'.ownsRow base e size v' (n + m) (xs ++ news) -> w.grownBy w' v.ownBlock -> (v'.ownBlock = v.ownBlock ∨ v'.ownBlock = some w.heap.size) -> wpList P ops Q rest (a.put o.dst v') w') : wpList P ops Q (o :: rest) a w :=
 wpList_plain hgd fun _ hK => wp_append_any w s x t ho base e i z size bytes ht hi hz hsize hby hzs hsz v n xs hs hown B A m c news hx hr h1 h63 hbytes hbase fun v' w' h2 h3 h4 => hK _ _ (h v' w' h2 h3 h4)

theorem step_append_any {ops : Array Oper} {o : Oper} {a : Act} {K : Act -> World -> Prop} {Q : Exit -> Act -> World -> Prop} {E : Prop} (hgd : o.guard = none) (s x : Operand) (t : TypeId)
  (ho : o.op = .call { callee := .builtin .append, args := #[s, x], argTypes := #[t, t] })
  (base : Nat) (e : TypeId) (i : TypeInfo) (z : Value) (size bytes : Nat) (ht : P.underlying t = some (.slice e)) (hi : P.info? e = some i) (hz : i.zero = some z)
  (hsize : i.size = size) (hby : i.bytes = bytes) (hzs : z.cells.size = size) (hsz : 0 < size)
  (v : Value) (n : Nat) (xs : List Value) (hs : a.eval s = v) (hown : w.ownsRow base e size v n xs)
  (B : Nat) (A : Option Addr) (m c : Nat) (news : List Value) (hx : a.eval x = .slice A m c) (hr : Reads w B size A m news) (h1 : ∀ u ∈ news, u.oneCell' = true)
  (h63 : n + m <= maxLen) (hbytes : (n + m) * bytes <= 140737488355328) (hbase : base <= w.heap.size)
  (h : ∀ v' w', w'.ownsRow base e size v' (n + m) (xs ++ news) -> w.grownBy w' v.ownBlock -> (v'.ownBlock = v.ownBlock ∨ v'.ownBlock = some w.heap.size) -> K (a.put o.dst v') w') :
  if Region.wanted o (yielded ops a.tmps) = true then Oper.wp P o a w K Q else E := by
 have hw : Region.wanted o (yielded ops a.tmps) = true := by simp [Region.wanted, hgd]
 rw [if_pos hw];exact wp_append_any w s x t ho base e i z size bytes ht hi hz hsize hby hzs hsz v n xs hs hown B A m c news hx hr h1 h63 hbytes hbase h
end

theorem below_drewN {B : Nat} {a w : World} (h : Below B a w) (n : Nat) : Below B a (w.drewN n) := ⟨h.os, h.tape, h.output, h.size, h.block⟩
theorem only_drew {a w : World} {row : Option Nat} (h : a.grownBy w row) : a.grownBy w.drew row := ⟨h.os, h.tape, h.output, h.size, h.block⟩
theorem only_setCell {a w : World} {g : Nat} (h : a.grownBy w (some g)) {p : Addr} (hp : p.block = g ∨ a.heap.size <= p.block) (u : Value) : a.grownBy (w.setCell p u) (some g) :=
 ⟨h.os, h.tape, h.output, by simpa [World.setCell] using h.size, fun i hi hne => (Below.heap_setCell w p u i (by
  rintro rfl
  rcases hp with hp | hp
  ·exact hne (by rw [hp])
  ·omega)).trans (h.block i hi hne)⟩
theorem only_of_below {a w : World} (h : Below a.heap.size a w) (row : Option Nat) : a.grownBy w row := ⟨h.os, h.tape, h.output, h.size, fun i hi _ => h.block i hi⟩

theorem run_make_rowN {P : Program} (t e : TypeId) (i : TypeInfo) (z : Value) (ht : P.underlying t = some (.slice e)) (hi : P.info? e = some i) (hz : i.zero = some z)
  (kl kc : IntKind) (n c : Nat) (hnc : n <= c) (hbytes : i.bytes * c <= 281474976710656) (h63 : c <= 9223372036854775807) (w : World) :
  (Instr.makeSlice t (.int kl (n : Int)) (.int kc (c : Int))).run P w = .ok (.slice (some ⟨w.heap.size, 0, none⟩) n c) (w.alloc (.cells (madeCells z.cells (c * i.size)) e)) := by
 have hb : (i.bytes : Int) * (c : Int) <= 281474976710656 := by
  have h : ((i.bytes * c : Nat) : Int) <= 281474976710656 := by omega
  rwa [Int.natCast_mul] at h
 have hr := run_make (P := P) w t e i z ht hi hz kl kc n c (by omega) (by omega) hb (by omega);simp only [Int.toNat_natCast] at hr;exact hr
section
variable {H : Type} {enc : TypeId × Value -> H} {P : Program}
end

theorem Reads.new1 (w : World) (x : Value) (t : TypeId) : Reads (w.alloc (.cells #[x] t)) (w.heap.size + 1) 1 (some ⟨w.heap.size, 0, none⟩) 1 [x] :=
 ⟨rfl, fun _ => ⟨_, rfl, Nat.lt_succ_self _, cell_one_new w x t⟩⟩

theorem own_form {w : World} {base : Nat} {e : TypeId} {size : Nat} {v : Value} {n : Nat} {xs : List Value} (h : w.ownsRow base e size v n xs) (hn : 0 < n) :
  ∃ g cap, v = .slice (some ⟨g, 0, none⟩) n cap /\ base <= g /\ g < w.heap.size /\ n <= cap /\ cap <= maxLen := by
 obtain ⟨g, cap, hv, hb, hl⟩ := h.form hn
 rcases h.2 with ⟨_, h0⟩ | ⟨g', cap', cur, hv', _, _, h1, h2, _⟩
 ·omega
 ·rw [hv] at hv';injection hv' with _ _ hc;subst hc;exact ⟨g, cap, hv, hb, hl, h1, h2⟩
/-- whatever the length -/
theorem own_any {w : World} {base : Nat} {e : TypeId} {size : Nat} {v : Value} {n : Nat} {xs : List Value} (h : w.ownsRow base e size v n xs) :
  ∃ A cap, v = .slice A n cap /\ n <= cap /\ cap <= maxLen /\ Reads w w.heap.size size A n xs := by
 rcases h.2 with ⟨rfl, rfl⟩ | ⟨g', cap', cur, rfl, _, _, h1, h2, _⟩
 ·exact ⟨none, 0, rfl, by omega, by unfold maxLen; omega, Reads.of_own h⟩
 ·exact ⟨_, cap', rfl, h1, h2, Reads.of_own h⟩

theorem own_base {w : World} {base base' : Nat} {e : TypeId} {size : Nat} {v : Value} {n : Nat} {xs : List Value} (h : w.ownsRow base e size v n xs) (hb : base' <= base) : w.ownsRow base' e size v n xs := by
 rcases h.2 with h0 | ⟨g, cap, cur, hv, hg, h1, h2⟩
 ·exact ⟨h.1, .inl h0⟩
 ·exact ⟨h.1, .inr ⟨g, cap, cur, hv, Nat.le_trans hb hg, h1, h2⟩⟩
theorem own_lit0 (w : World) (e size : Nat) : (w.alloc (.cells #[] e)).ownsRow w.heap.size e size (.slice (some ⟨w.heap.size, 0, none⟩) 0 0) 0 [] :=
 ⟨by simp, .inr ⟨w.heap.size, 0, #[], rfl, Nat.le_refl _, heap_alloc_new w _, Nat.le_refl _, by unfold maxLen; omega, by simp, by simp⟩⟩

end Go.Proofs.Ytncpehhfjkncoaa
