/- Part of the proof, named by its texts: Late Late2 Tk Tk2 Words PlainWord BitSet BitOps. No condition of its own. -/
import Derived.Deep.RegionHeld3
import Derived.OrdersHeld
import Derived.WalkKit
import Derived.WalkSpells
import Derived.Lib.Hide
import Derived.Below
import Derived.Calls
import Derived.Laws.OwnMore
import Derived.Laws.MakeOwn
import Derived.Laws.Entries
import Derived.Laws.Rows
import Derived.Deep.AppendLies
import Derived.Deep.Draws
import Derived.Deep.OwnRows
import Derived.Deep.QuietTactic
import Derived.Maps.AppendAt
import Derived.RegionTactic
import Derived.OwnWalk
import Derived.Laws.BytesArg
import Derived.ChangeSame
import Derived.RowKit
import Derived.Laws.BitsAllLaws
import Derived.Laws.Bits64
import Derived.Test.YtnfjjliiajaijaaDoorRows
import Derived.WalkLawsBesides
import Derived.BigQuiet
import Derived.KernelRfl
set_option linter.unusedVariables false
set_option linter.unusedSimpArgs false
set_option maxRecDepth 100000
set_option maxHeartbeats 16000000
namespace Go.Proofs.YtnfjjliiajaijaaDoor
section
variable {P : Program} {ops : Array Oper} {Q : Exit -> Act -> World -> Prop} {md : Region.Mode} {S : World -> Prop} {late : Array Bool}
def wpAnyL (P : Program) (md : Region.Mode) (ops : Array Oper) (Q : Exit -> Act -> World -> Prop) (S : World -> Prop) (late : Array Bool) : Nat -> Array Bool -> Act -> World -> Prop
 | 0, listed, a, w => Region.ready md ops listed = [] /\ Q .normal a w
 | fuel + 1, listed, a, w =>
  (Region.ready md ops listed = [] -> Q .normal a w) /\
  ∀ i ∈ Region.ready md ops listed, wpOp P ops Q i (fun a' w' => (late.getD i false = true ∨ S w') /\ wpAnyL P md ops Q S late fuel (listed.setIfInBounds i true) a' w') a w
theorem zee : ∀ (fuel : Nat) (listed : Array Bool) (a : Act) (w : World), wpAnyL P md ops Q S late fuel listed a w -> wpAny P md ops Q fuel listed a w
 | 0, _, _, _, h => h
 | fuel + 1, _, _, _, h => ⟨h.1, fun i hi => wpOp_mono (fun a' w' h' => zee fuel _ a' w' h'.2) (h.2 i hi)⟩
def zez (md : Region.Mode) (ops : Array Oper) (i : Nat) : Nat -> Array Bool -> Array Bool
 | 0, F => F
 | n + 1, F => zez md ops i n ((Region.ready md ops F).foldl (fun F j => if j = i then F else F.setIfInBounds j true) F)
def zgf (md : Region.Mode) (ops : Array Oper) (late listed F : Array Bool) (i : Nat) : Bool :=
 decide (F.size = ops.size) && (Region.ready md ops F).all (fun k => k == i) && (List.range listed.size).all (fun k => !listed.getD k false || F.getD k false) && (List.range F.size).all (fun k => !F.getD k false || !late.getD k false)
theorem getD_lt {F : Array Bool} {k : Nat} (h : F.getD k false = true) : k < F.size := by
 rcases Nat.lt_or_ge k F.size with h' | h'
 ·exact h'
 ·simp [Array.getElem?_eq_none h'] at h
theorem zfC {listed F : Array Bool} {i : Nat} (h : zgf md ops late listed F i = true) :
  F.size = ops.size /\ (∀ k ∈ Region.ready md ops F, k = i) /\ (∀ k, listed.getD k false = true -> F.getD k false = true) /\ ∀ k, F.getD k false = true -> late.getD k false = false := by
 simp only [zgf, Bool.and_eq_true, decide_eq_true_eq, List.all_eq_true, List.mem_range, Bool.or_eq_true, Bool.not_eq_true', beq_iff_eq] at h;obtain ⟨⟨⟨h1, h2⟩, h3⟩, h4⟩ := h;refine ⟨h1, h2, fun k hk => ?_, fun k hk => ?_⟩
 ·rcases h3 k (getD_lt hk) with h | h
  ·rw [h] at hk; cases hk
  ·exact h
 ·rcases h4 k (getD_lt hk) with h | h
  ·rw [h] at hk; cases hk
  ·exact h
theorem ze3 {F listed : Array Bool} {i j : Nat} (h1 : F.size = ops.size) (h2 : ∀ k ∈ Region.ready md ops F, k = i) (hle : ∀ k, listed.getD k false = true -> F.getD k false = true) (hj : j ∈ Region.ready md ops listed) (hne : j ≠ i) : F.getD j false = true := by
 by_cases hF : F.getD j false = true
 ·exact hF
 ·exfalso
  obtain ⟨_, o, ho, hall⟩ := mem_ready.1 hj
  have hlt : j < F.size := by rw [h1]; exact (Array.getElem?_eq_some_iff.1 ho).1
  refine hne (h2 j (mem_ready.2 ⟨?_, o, ho, fun e he hb => hle _ (hall e he hb)⟩));simp only [Array.getD_eq_getD_getElem?, Array.getElem?_eq_getElem hlt, Option.getD_some] at hF ⊢
  simpa using hF
theorem zeb {listed : Array Bool} {i k : Nat} (h : (listed.setIfInBounds i true).getD k false = true) : k = i ∨ listed.getD k false = true := by
 by_cases hk : k = i
 ·exact .inl hk
 ·rw [getD_set_ne false (Ne.symm hk)] at h; exact .inr h
theorem wpAnyL_first {i : Nat} {oi : Oper} {v : Value} {F : Array Bool} (hi : ops[i]? = some oi) (hsel : ∀ (j : Nat) (o : Oper) cs b, ops[j]? = some o -> o.op ≠ .select cs b)
  (hQ : ∀ c a w, Q (.panic c) (a.put oi.dst v) w -> Q (.panic c) a w) (h1 : F.size = ops.size) (h2 : ∀ k ∈ Region.ready md ops F, k = i) (hl : ∀ k, F.getD k false = true -> late.getD k false = false) :
  ∀ (fuel : Nat) (listed : Array Bool) (a : Act) (w : World), (∀ k, listed.getD k false = true -> F.getD k false = true) ->
   (∀ j oj, ops[j]? = some oj -> j ≠ i -> listed.getD j true = false -> (∀ e ∈ oj.after, Region.binds md e = true -> e.on ≠ i) -> oi.apart ops oj = true) ->
   i ∈ Region.ready md ops listed -> YieldsIf P ops S oi v a -> S w ->
   wpAnyL P md ops Q S late fuel (listed.setIfInBounds i true) (a.put oi.dst v) w -> wpAnyL P md ops Q S late (fuel + 1) listed a w := by
 intro fuel
 induction fuel with
 | zero =>
  intro listed a w _ _ hr hy hS H;refine ⟨fun h => (by rw [h] at hr; cases hr), fun j hj => ?_⟩
  by_cases hji : j = i
  ·subst hji; exact hy.wpOp hi hS ⟨.inr hS, H⟩
  ·have := ready_mono hj hji;rw [H.1] at this
   cases this
 | succ fuel ih =>
  intro listed a w hle hfree hr hy hS H;refine ⟨fun h => (by rw [h] at hr; cases hr), fun j hj => ?_⟩
  by_cases hji : j = i
  ·subst hji; exact hy.wpOp hi hS ⟨.inr hS, H⟩
  ·have hjF := ze3 h1 h2 hle hj hji;have hjl := hl j hjF;have h3 := H.2 j (ready_mono hj hji);obtain ⟨hjun, oj, hoj, hall⟩ := mem_ready.1 hj
   have hnot : ∀ e ∈ oj.after, Region.binds md e = true -> e.on ≠ i := fun e he hb heq => by
    have h1 := hall e he hb;have h0 := (mem_ready.1 hr).1;rw [heq] at h1
    rcases Nat.lt_or_ge i listed.size with h' | h'
    ·simp [h'] at h0 h1; rw [h0] at h1; cases h1
    ·simp [Array.getElem?_eq_none h'] at h1
   have h4 := wpOp_putIf hoj (hfree j oj hoj hji hjun hnot) (fun cs b => hsel i oi cs b hi) (fun cs b => hsel j oj cs b hoj) hQ hy h3
   have hfree' : ∀ k ok, ops[k]? = some ok -> k ≠ i -> (listed.setIfInBounds j true).getD k true = false ->
     (∀ e ∈ ok.after, Region.binds md e = true -> e.on ≠ i) -> oi.apart ops ok = true := fun k ok hk hki hun hno => by
    refine hfree k ok hk hki ?_ hno
    by_cases hjk : j = k
    ·subst hjk; exact hjun
    ·rw [getD_set_ne true hjk] at hun; exact hun
   have hle' : ∀ k, (listed.setIfInBounds j true).getD k false = true -> F.getD k false = true := fun k hk => by
    rcases zeb hk with rfl | h
    ·exact hjF
    ·exact hle k h
   refine wpOp_mono (fun a' w' h5 => ?_) h4;have hS' : S w' := h5.2.1.resolve_left (by rw [hjl]; simp);refine ⟨.inr hS', ih (listed.setIfInBounds j true) a' w' hle' hfree' (ready_mono hr (Ne.symm hji)) h5.1 hS' ?_⟩;rw [Array.setIfInBounds_comm _ _ hji];exact h5.2.2
theorem zhJ {i : Nat} {oi : Oper} {v : Value} {fuel : Nat} {listed : Array Bool} {a : Act} {w : World} (hi : ops[i]? = some oi)
  (hs : Region.noSelect ops = true) (hf : Region.free md ops listed i = true) (hr : (Region.ready md ops listed).contains i = true) (hl : zgf md ops late listed (zez md ops i ops.size listed) i = true)
  (hQ : ∀ c a w, Q (.panic c) (a.put oi.dst v) w -> Q (.panic c) a w) (hy : YieldsIf P ops S oi v a) (hS : S w)
  (h : wpAnyL P md ops Q S late fuel (listed.setIfInBounds i true) (a.put oi.dst v) w) : wpAnyL P md ops Q S late (fuel + 1) listed a w := by
 obtain ⟨h1, h2, h3, h4⟩ := zfC hl;exact wpAnyL_first hi (Region.noSelect_spec hs) hQ h1 h2 h4 fuel listed a w h3 (Region.free_spec hi hf) (by simpa using hr) hy hS h
theorem ziT {rs : List Nat} {fuel : Nat} {listed : Array Bool} {a : Act} {w : World} (hr : Region.ready md ops listed = rs) (hne : rs ≠ [])
  (h : ∀ i ∈ rs, wpOp P ops Q i (fun a' w' => (late.getD i false = true ∨ S w') /\ wpAnyL P md ops Q S late fuel (listed.setIfInBounds i true) a' w') a w) : wpAnyL P md ops Q S late (fuel + 1) listed a w :=
 ⟨fun h0 => absurd (hr ▸ h0) hne, hr ▸ h⟩
theorem zai {listed : Array Bool} {a : Act} {w : World} (hr : Region.ready md ops listed = []) (h : Q .normal a w) :
  ∀ fuel, wpAnyL P md ops Q S late fuel listed a w
 | 0 => ⟨hr, h⟩
 | _ + 1 => ⟨fun _ => h, by rw [hr]; simp⟩
def zbw (P : Program) (md : Region.Mode) (ops : Array Oper) (Q : Exit -> Act -> World -> Prop) (S : World -> Prop) (late : Array Bool) (fuel : Nat) (listed : Array Bool) (a : Act) (w : World) (rs : List Nat) : Prop :=
 ∀ i ∈ rs, wpOp P ops Q i (fun a' w' => (late.getD i false = true ∨ S w') /\ wpAnyL P md ops Q S late fuel (listed.setIfInBounds i true) a' w') a w
theorem zbw.nil {fuel : Nat} {listed : Array Bool} {a : Act} {w : World} : zbw P md ops Q S late fuel listed a w [] := fun _ h => by cases h
theorem zbw.cons {fuel : Nat} {listed : Array Bool} {a : Act} {w : World} {i : Nat} {o : Oper} {rs : List Nat} (ho : ops[i]? = some o)
  (h : ∀ K' : Act -> World -> Prop, Shut (∀ a w, S w -> (S w -> wpAnyL P md ops Q S late fuel (listed.setIfInBounds i true) a w) -> K' a w) -> if Region.wanted o (yielded ops a.tmps) = true then Oper.wp P o a w K' Q else K' (a.put o.dst undef) w)
  (hs : zbw P md ops Q S late fuel listed a w rs) : zbw P md ops Q S late fuel listed a w (i :: rs) := fun j hj => by
 rcases List.mem_cons.1 hj with rfl | hj
 ·exact wpOp_step ho (fun K' hK => h K' (fun a w hS hW => hK a w ⟨.inr hS, hW hS⟩))
 ·exact hs j hj
theorem zbw.last {fuel : Nat} {listed : Array Bool} {a : Act} {w : World} {i : Nat} {o : Oper} {rs : List Nat} (ho : ops[i]? = some o) (hl : late.getD i false = true)
  (h : ∀ K' : Act -> World -> Prop, Shut (∀ a w, wpAnyL P md ops Q S late fuel (listed.setIfInBounds i true) a w -> K' a w) -> if Region.wanted o (yielded ops a.tmps) = true then Oper.wp P o a w K' Q else K' (a.put o.dst undef) w)
  (hs : zbw P md ops Q S late fuel listed a w rs) : zbw P md ops Q S late fuel listed a w (i :: rs) := fun j hj => by
 rcases List.mem_cons.1 hj with rfl | hj
 ·exact wpOp_step ho (fun K' hK => h K' (fun a w hW => hK a w ⟨.inl hl, hW⟩))
 ·exact hs j hj
theorem zeT {rs : List Nat} {fuel : Nat} {listed : Array Bool} {a : Act} {w : World} (hr : Region.ready md ops listed = rs) (hne : rs ≠ [])
  (h : zbw P md ops Q S late fuel listed a w rs) : wpAnyL P md ops Q S late (fuel + 1) listed a w := ziT hr hne h
theorem zaf {id : Nat} {a : Act} {w : World} (late : Array Bool) (hm : P.follows .mixedOrders = true) (hS : S w.drew)
  (h : S w.drew -> wpAnyL P .any ops Q S late ops.size (Array.replicate ops.size false) a w.drew) : (Code.region id ops true).wp P Q a w :=
 wp_region_any hm (zee _ _ _ _ (h hS))
end
section
variable {P : Program} {ops : Array Oper} {Q : Exit -> Act -> World -> Prop} {md : Region.Mode} {S : World -> Prop} {late : Array Bool}
def zdu (late listed : Array Bool) : Prop := ∃ k : Nat, listed.getD k false = true /\ late.getD k false = true
theorem zgL {listed : Array Bool} {i k : Nat} (h : listed.getD k false = true) : (listed.setIfInBounds i true).getD k false = true := by
 have hk := getD_lt h
 by_cases he : i = k
 ·subst he;simp [Array.getD_eq_getD_getElem?, hk]
 ·rw [getD_set_ne false he]; exact h
theorem zdu.set {listed : Array Bool} (h : zdu late listed) (i : Nat) : zdu late (listed.setIfInBounds i true) := by
 obtain ⟨k, h1, h2⟩ := h;exact ⟨k, zgL h1, h2⟩
theorem zdu.of_set {listed : Array Bool} {i : Nat} (h : zdu late (listed.setIfInBounds i true)) (hi : late.getD i false = false) : zdu late listed := by
 obtain ⟨k, h1, h2⟩ := h
 rcases zeb h1 with rfl | h3
 ·rw [hi] at h2; cases h2
 ·exact ⟨k, h3, h2⟩
def zb0 (P : Program) (md : Region.Mode) (ops : Array Oper) (Q : Exit -> Act -> World -> Prop) (S : World -> Prop) (late : Array Bool) : Nat -> Array Bool -> Act -> World -> Prop
 | 0, listed, a, w => Region.ready md ops listed = [] /\ Q .normal a w
 | fuel + 1, listed, a, w =>
  (Region.ready md ops listed = [] -> Q .normal a w) /\
  ∀ i ∈ Region.ready md ops listed, wpOp P ops Q i (fun a' w' => (zdu late (listed.setIfInBounds i true) ∨ S w') /\ zb0 P md ops Q S late fuel (listed.setIfInBounds i true) a' w') a w
theorem zdV : ∀ (fuel : Nat) (listed : Array Bool) (a : Act) (w : World), zb0 P md ops Q S late fuel listed a w -> wpAny P md ops Q fuel listed a w
 | 0, _, _, _, h => h
 | fuel + 1, _, _, _, h => ⟨h.1, fun i hi => wpOp_mono (fun a' w' h' => zdV fuel _ a' w' h'.2) (h.2 i hi)⟩
theorem zgY {i : Nat} {oi : Oper} {v : Value} {F : Array Bool} (hi : ops[i]? = some oi) (hsel : ∀ (j : Nat) (o : Oper) cs b, ops[j]? = some o -> o.op ≠ .select cs b)
  (hQ : ∀ c a w, Q (.panic c) (a.put oi.dst v) w -> Q (.panic c) a w) (h1 : F.size = ops.size) (h2 : ∀ k ∈ Region.ready md ops F, k = i) (hl : ∀ k, F.getD k false = true -> late.getD k false = false) (hli : late.getD i false = false) :
  ∀ (fuel : Nat) (listed : Array Bool) (a : Act) (w : World), (∀ k, listed.getD k false = true -> F.getD k false = true) ->
   (∀ j oj, ops[j]? = some oj -> j ≠ i -> listed.getD j true = false -> (∀ e ∈ oj.after, Region.binds md e = true -> e.on ≠ i) -> oi.apart ops oj = true) ->
   i ∈ Region.ready md ops listed -> YieldsIf P ops S oi v a -> S w ->
   zb0 P md ops Q S late fuel (listed.setIfInBounds i true) (a.put oi.dst v) w -> zb0 P md ops Q S late (fuel + 1) listed a w := by
 intro fuel
 induction fuel with
 | zero =>
  intro listed a w _ _ hr hy hS H;refine ⟨fun h => (by rw [h] at hr; cases hr), fun j hj => ?_⟩
  by_cases hji : j = i
  ·subst hji; exact hy.wpOp hi hS ⟨.inr hS, H⟩
  ·have := ready_mono hj hji;rw [H.1] at this
   cases this
 | succ fuel ih =>
  intro listed a w hle hfree hr hy hS H;refine ⟨fun h => (by rw [h] at hr; cases hr), fun j hj => ?_⟩
  by_cases hji : j = i
  ·subst hji; exact hy.wpOp hi hS ⟨.inr hS, H⟩
  ·have hjF := ze3 h1 h2 hle hj hji;have hjl := hl j hjF;have h3 := H.2 j (ready_mono hj hji);obtain ⟨hjun, oj, hoj, hall⟩ := mem_ready.1 hj
   have hnot : ∀ e ∈ oj.after, Region.binds md e = true -> e.on ≠ i := fun e he hb heq => by
    have h1 := hall e he hb;have h0 := (mem_ready.1 hr).1;rw [heq] at h1
    rcases Nat.lt_or_ge i listed.size with h' | h'
    ·simp [h'] at h0 h1; rw [h0] at h1; cases h1
    ·simp [Array.getElem?_eq_none h'] at h1
   have h4 := wpOp_putIf hoj (hfree j oj hoj hji hjun hnot) (fun cs b => hsel i oi cs b hi) (fun cs b => hsel j oj cs b hoj) hQ hy h3
   have hfree' : ∀ k ok, ops[k]? = some ok -> k ≠ i -> (listed.setIfInBounds j true).getD k true = false ->
     (∀ e ∈ ok.after, Region.binds md e = true -> e.on ≠ i) -> oi.apart ops ok = true := fun k ok hk hki hun hno => by
    refine hfree k ok hk hki ?_ hno
    by_cases hjk : j = k
    ·subst hjk; exact hjun
    ·rw [getD_set_ne true hjk] at hun; exact hun
   have hle' : ∀ k, (listed.setIfInBounds j true).getD k false = true -> F.getD k false = true := fun k hk => by
    rcases zeb hk with rfl | h
    ·exact hjF
    ·exact hle k h
   refine wpOp_mono (fun a' w' h5 => ?_) h4
   have hS' : S w' := h5.2.1.resolve_left (fun hl' => by
    have hl2 := (hl'.of_set hjl).of_set hli;obtain ⟨k, hk1, hk2⟩ := hl2
    rw [hl k (hle k hk1)] at hk2; cases hk2)
   refine ⟨.inr hS', ih (listed.setIfInBounds j true) a' w' hle' hfree' (ready_mono hr (Ne.symm hji)) h5.1 hS' ?_⟩;rw [Array.setIfInBounds_comm _ _ hji];exact h5.2.2
theorem zd2 {i : Nat} {oi : Oper} {v : Value} {fuel : Nat} {listed : Array Bool} {a : Act} {w : World} (hi : ops[i]? = some oi)
  (hs : Region.noSelect ops = true) (hf : Region.free md ops listed i = true) (hr : (Region.ready md ops listed).contains i = true) (hl : (zgf md ops late listed (zez md ops i ops.size listed) i && !late.getD i false) = true)
  (hQ : ∀ c a w, Q (.panic c) (a.put oi.dst v) w -> Q (.panic c) a w) (hy : YieldsIf P ops S oi v a) (hS : S w)
  (h : zb0 P md ops Q S late fuel (listed.setIfInBounds i true) (a.put oi.dst v) w) : zb0 P md ops Q S late (fuel + 1) listed a w := by
 rw [Bool.and_eq_true, Bool.not_eq_true'] at hl;obtain ⟨h1, h2, h3, h4⟩ := zfC hl.1;exact zgY hi (Region.noSelect_spec hs) hQ h1 h2 h4 hl.2 fuel listed a w h3 (Region.free_spec hi hf) (by simpa using hr) hy hS h
theorem ze5 {i : Nat} {oi : Oper} {v : Value} (hi : ops[i]? = some oi) (hsel : ∀ (j : Nat) (o : Oper) cs b, ops[j]? = some o -> o.op ≠ .select cs b)
  (hQ : ∀ c a w, Q (.panic c) (a.put oi.dst v) w -> Q (.panic c) a w) (hli : late.getD i false = false) :
  ∀ (fuel : Nat) (listed : Array Bool) (a : Act) (w : World),
   (∀ j oj, ops[j]? = some oj -> j ≠ i -> listed.getD j true = false -> (∀ e ∈ oj.after, Region.binds md e = true -> e.on ≠ i) -> oi.apart ops oj = true) ->
   i ∈ Region.ready md ops listed -> YieldsIf P ops (fun _ => True) oi v a -> (zdu late listed ∨ S w) ->
   zb0 P md ops Q S late fuel (listed.setIfInBounds i true) (a.put oi.dst v) w -> zb0 P md ops Q S late (fuel + 1) listed a w := by
 intro fuel
 induction fuel with
 | zero =>
  intro listed a w _ hr hy hS H;refine ⟨fun h => (by rw [h] at hr; cases hr), fun j hj => ?_⟩
  by_cases hji : j = i
  ·subst hji; exact hy.wpOp hi trivial ⟨hS.imp (fun h => h.set _) id, H⟩
  ·have := ready_mono hj hji;rw [H.1] at this
   cases this
 | succ fuel ih =>
  intro listed a w hfree hr hy hS H;refine ⟨fun h => (by rw [h] at hr; cases hr), fun j hj => ?_⟩
  by_cases hji : j = i
  ·subst hji; exact hy.wpOp hi trivial ⟨hS.imp (fun h => h.set _) id, H⟩
  ·have h3 := H.2 j (ready_mono hj hji);obtain ⟨hjun, oj, hoj, hall⟩ := mem_ready.1 hj
   have hnot : ∀ e ∈ oj.after, Region.binds md e = true -> e.on ≠ i := fun e he hb heq => by
    have h1 := hall e he hb;have h0 := (mem_ready.1 hr).1;rw [heq] at h1
    rcases Nat.lt_or_ge i listed.size with h' | h'
    ·simp [h'] at h0 h1; rw [h0] at h1; cases h1
    ·simp [Array.getElem?_eq_none h'] at h1
   have h4 := wpOp_putIf hoj (hfree j oj hoj hji hjun hnot) (fun cs b => hsel i oi cs b hi) (fun cs b => hsel j oj cs b hoj) hQ hy h3
   have hfree' : ∀ k ok, ops[k]? = some ok -> k ≠ i -> (listed.setIfInBounds j true).getD k true = false ->
     (∀ e ∈ ok.after, Region.binds md e = true -> e.on ≠ i) -> oi.apart ops ok = true := fun k ok hk hki hun hno => by
    refine hfree k ok hk hki ?_ hno
    by_cases hjk : j = k
    ·subst hjk; exact hjun
    ·rw [getD_set_ne true hjk] at hun; exact hun
   refine wpOp_mono (fun a' w' h5 => ?_) h4
   have hS' : zdu late (listed.setIfInBounds j true) ∨ S w' := h5.2.1.imp (fun h => by
    rw [Array.setIfInBounds_comm _ _ (Ne.symm hji)] at h
    exact h.of_set hli) id
   refine ⟨hS', ih (listed.setIfInBounds j true) a' w' hfree' (ready_mono hr (Ne.symm hji)) h5.1 hS' ?_⟩;rw [Array.setIfInBounds_comm _ _ hji];exact h5.2.2
theorem zdd {i : Nat} {oi : Oper} {v : Value} {fuel : Nat} {listed : Array Bool} {a : Act} {w : World} (hi : ops[i]? = some oi)
  (hs : Region.noSelect ops = true) (hf : Region.free md ops listed i = true) (hr : (Region.ready md ops listed).contains i = true) (hl : (!late.getD i false) = true)
  (hQ : ∀ c a w, Q (.panic c) (a.put oi.dst v) w -> Q (.panic c) a w) (hy : YieldsIf P ops (fun _ => True) oi v a) (hS : zdu late listed ∨ S w)
  (h : zb0 P md ops Q S late fuel (listed.setIfInBounds i true) (a.put oi.dst v) w) : zb0 P md ops Q S late (fuel + 1) listed a w := by
 rw [Bool.not_eq_true'] at hl;exact ze5 hi (Region.noSelect_spec hs) hQ hl fuel listed a w (Region.free_spec hi hf) (by simpa using hr) hy hS h
theorem zeS {rs : List Nat} {fuel : Nat} {listed : Array Bool} {a : Act} {w : World} (hr : Region.ready md ops listed = rs) (hne : rs ≠ [])
  (h : ∀ i ∈ rs, wpOp P ops Q i (fun a' w' => (zdu late (listed.setIfInBounds i true) ∨ S w') /\ zb0 P md ops Q S late fuel (listed.setIfInBounds i true) a' w') a w) : zb0 P md ops Q S late (fuel + 1) listed a w :=
 ⟨fun h0 => absurd (hr ▸ h0) hne, hr ▸ h⟩
theorem zdy {i : Nat} {o : Oper} {fuel : Nat} {listed : Array Bool} {a : Act} {w : World} (hr : Region.ready md ops listed = [i]) (ho : ops[i]? = some o)
  (h : ∀ K' : Act -> World -> Prop, Shut (∀ a w, S w -> (S w -> zb0 P md ops Q S late fuel (listed.setIfInBounds i true) a w) -> K' a w) -> if Region.wanted o (yielded ops a.tmps) = true then Oper.wp P o a w K' Q else K' (a.put o.dst undef) w) : zb0 P md ops Q S late (fuel + 1) listed a w :=
 zeS hr (by simp) fun j hj => by
  have : j = i := by simpa using hj
  subst this;exact wpOp_step ho (fun K' hK => h K' (fun a w hS hW => hK a w ⟨.inr hS, hW hS⟩))
theorem zbF {i : Nat} {o : Oper} {fuel : Nat} {listed : Array Bool} {a : Act} {w : World} (hr : Region.ready md ops listed = [i]) (ho : ops[i]? = some o) (hl : zdu late (listed.setIfInBounds i true))
  (h : ∀ K' : Act -> World -> Prop, Shut (∀ a w, zb0 P md ops Q S late fuel (listed.setIfInBounds i true) a w -> K' a w) -> if Region.wanted o (yielded ops a.tmps) = true then Oper.wp P o a w K' Q else K' (a.put o.dst undef) w) : zb0 P md ops Q S late (fuel + 1) listed a w :=
 zeS hr (by simp) fun j hj => by
  have : j = i := by simpa using hj
  subst this;exact wpOp_step ho (fun K' hK => h K' (fun a w hW => hK a w ⟨.inl hl, hW⟩))
theorem zbY {listed : Array Bool} {a : Act} {w : World} (hr : Region.ready md ops listed = []) (h : Q .normal a w) :
  ∀ fuel, zb0 P md ops Q S late fuel listed a w
 | 0 => ⟨hr, h⟩
 | _ + 1 => ⟨fun _ => h, by rw [hr]; simp⟩
theorem zbh {id : Nat} {a : Act} {w : World} (late : Array Bool) (hm : P.follows .mixedOrders = true) (hS : S w.drew)
  (h : S w.drew -> zb0 P .any ops Q S late ops.size (Array.replicate ops.size false) a w.drew) : (Code.region id ops true).wp P Q a w :=
 wp_region_any hm (zdV _ _ _ _ (h hS))
end
open Go.RowKit
section
variable {P : Program} {ops : Array Oper} {Q : Exit -> Act -> World -> Prop} {md : Region.Mode} {S : World -> Prop} {late : Array Bool} {fuel : Nat} {listed listed' : Array Bool} {a a' : Act} {w : World}
theorem zaa (i : Nat) {oi : Oper} {v : Value} (h : wpAnyL P md ops Q S late fuel listed' a' w)
  (hi : ops[i]? = some oi := by rfl) (hs : Region.noSelect ops = true := by kernel_rfl) (hf : Region.free md ops listed i = true := by kernel_rfl) (hr : (Region.ready md ops listed).contains i = true := by kernel_rfl) (hl : zgf md ops late listed (zez md ops i ops.size listed) i = true := by kernel_rfl)
  (hQ : ∀ c a w, Q (.panic c) (a.put oi.dst v) w -> Q (.panic c) a w := by exact fun _ _ _ h => h)
  (hy : YieldsIf P ops S oi v a := by refine Or.inl ⟨by rfl, ?_⟩; intro w hSw; (try dsimp only at hSw); go_simp; try with_reducible rfl) (hS : S w := by assumption)
  (he : a.put oi.dst v = a' := by simp only [Act.put, List.getElem_toArray, List.getElem_cons_zero, List.getElem_cons_succ, List.setIfInBounds_toArray, List.set_cons_zero, List.set_cons_succ] <;> rfl)
  (hL : listed.setIfInBounds i true = listed' := by (try simp only [List.setIfInBounds_toArray, List.set_cons_zero, List.set_cons_succ]) <;> rfl) : wpAnyL P md ops Q S late (fuel + 1) listed a w := by
 subst he hL;exact zhJ hi hs hf hr hl hQ hy hS h
theorem zaj (i : Nat) {oi : Oper} {v : Value} (h : zb0 P md ops Q S late fuel listed' a' w)
  (hi : ops[i]? = some oi := by rfl) (hs : Region.noSelect ops = true := by kernel_rfl) (hf : Region.free md ops listed i = true := by kernel_rfl) (hr : (Region.ready md ops listed).contains i = true := by kernel_rfl) (hl : (zgf md ops late listed (zez md ops i ops.size listed) i && !late.getD i false) = true := by kernel_rfl)
  (hQ : ∀ c a w, Q (.panic c) (a.put oi.dst v) w -> Q (.panic c) a w := by exact fun _ _ _ h => h)
  (hy : YieldsIf P ops S oi v a := by refine Or.inl ⟨by rfl, ?_⟩; intro w hSw; (try dsimp only at hSw); go_simp; try with_reducible rfl) (hS : S w := by assumption)
  (he : a.put oi.dst v = a' := by simp only [Act.put, List.getElem_toArray, List.getElem_cons_zero, List.getElem_cons_succ, List.setIfInBounds_toArray, List.set_cons_zero, List.set_cons_succ] <;> rfl)
  (hL : listed.setIfInBounds i true = listed' := by (try simp only [List.setIfInBounds_toArray, List.set_cons_zero, List.set_cons_succ]) <;> rfl) : zb0 P md ops Q S late (fuel + 1) listed a w := by
 subst he hL;exact zd2 hi hs hf hr hl hQ hy hS h
theorem zab (i : Nat) {oi : Oper} {v : Value} (h : wpAnyH P md ops Q S fuel listed' a' w)
  (hi : ops[i]? = some oi := by rfl) (hs : Region.noSelect ops = true := by kernel_rfl) (hf : Region.free md ops listed i = true := by kernel_rfl) (hr : (Region.ready md ops listed).contains i = true := by kernel_rfl)
  (hQ : ∀ c a w, Q (.panic c) (a.put oi.dst v) w -> Q (.panic c) a w := by exact fun _ _ _ h => h)
  (hy : YieldsIf P ops S oi v a := by refine Or.inl ⟨by rfl, ?_⟩; intro w hSw; (try dsimp only at hSw); go_simp; try with_reducible rfl) (hS : S w := by assumption)
  (he : a.put oi.dst v = a' := by simp only [Act.put, List.getElem_toArray, List.getElem_cons_zero, List.getElem_cons_succ, List.setIfInBounds_toArray, List.set_cons_zero, List.set_cons_succ] <;> rfl)
  (hL : listed.setIfInBounds i true = listed' := by (try simp only [List.setIfInBounds_toArray, List.set_cons_zero, List.set_cons_succ]) <;> rfl) : wpAnyH P md ops Q S (fuel + 1) listed a w := by
 subst he hL;exact wpAnyH_take hi hs hf hr hQ hy hS h
end
section
variable {p q r s t u v x : Prop}
theorem hd2 (a : p) (b : q) : Hid p /\ Hid q := ⟨a, b⟩
theorem hd3 (a : p) (b : q) (c : r) : Hid p /\ Hid q /\ Hid r := ⟨a, b, c⟩
theorem hd4 (a : p) (b : q) (c : r) (d : s) : Hid p /\ Hid q /\ Hid r /\ Hid s := ⟨a, b, c, d⟩
theorem hd5 (a : p) (b : q) (c : r) (d : s) (e : t) : Hid p /\ Hid q /\ Hid r /\ Hid s /\ Hid t := ⟨a, b, c, d, e⟩
theorem hd6 (a : p) (b : q) (c : r) (d : s) (e : t) (f : u) : Hid p /\ Hid q /\ Hid r /\ Hid s /\ Hid t /\ Hid u := ⟨a, b, c, d, e, f⟩
theorem hd7 (a : p) (b : q) (c : r) (d : s) (e : t) (f : u) (g : v) : Hid p /\ Hid q /\ Hid r /\ Hid s /\ Hid t /\ Hid u /\ Hid v := ⟨a, b, c, d, e, f, g⟩
theorem hd8 (a : p) (b : q) (c : r) (d : s) (e : t) (f : u) (g : v) (h : x) : Hid p /\ Hid q /\ Hid r /\ Hid s /\ Hid t /\ Hid u /\ Hid v /\ Hid x := ⟨a, b, c, d, e, f, g, h⟩
end
theorem nm {α : Sort _} (t : α) : ∃ x, x = t := ⟨_, rfl⟩
theorem mn {α : Sort _} (t : α) : ∃ x, t = x := ⟨_, rfl⟩
def zmM : List Value -> Nat -> Option Value
 | [], _ => none
 | x :: _, 0 => some x
 | _ :: l, n + 1 => zmM l n
theorem ziC : ∀ (l : List Value) (n : Nat), l[n]? = zmM l n
 | [], n => by simp [zmM]
 | x :: l, 0 => by simp [zmM]
 | x :: l, n + 1 => by simp [zmM, ziC l n]
theorem bc {w : World} {g : Nat} {t : TypeId} {cs : Array Value} (h : w.heap[g]? = some (.cells cs t (0, 0))) (i : Nat) {v : Value} (e : zmM cs.toList i = some v := by rfl) : w.cell? ⟨g, i, none⟩ = some v := by
 rw [<- e, <- ziC, Array.getElem?_toList];simp [World.cell?, h]
theorem lay {p q : Prop} (h : q) (e : p = q := by (try simp only [Act.put, List.getElem_toArray, List.getElem_cons_zero, List.getElem_cons_succ, List.setIfInBounds_toArray, List.set_cons_zero, List.set_cons_succ]) <;> rfl) : p := e.mpr h
section
variable {P : Program} {ops : Array Oper} {Q : Exit -> Act -> World -> Prop} {md : Region.Mode} {S : World -> Prop} {late : Array Bool} {fuel : Nat} {listed listed' : Array Bool} {a a' : Act} {w : World}
theorem zac (i : Nat) {oi : Oper} (h : wpAnyH P md ops Q S fuel listed' a' w)
  (hi : ops[i]? = some oi := by rfl) (hs : Region.noSelect ops = true := by kernel_rfl) (hf : Region.free md ops listed i = true := by kernel_rfl) (hr : (Region.ready md ops listed).contains i = true := by kernel_rfl)
  (hQ : ∀ c a w, Q (.panic c) (a.put oi.dst undef) w -> Q (.panic c) a w := by exact fun _ _ _ h => h)
  (hy : YieldsIf P ops S oi undef a := by exact Or.inr ⟨by rfl, rfl⟩) (hS : S w := by assumption)
  (he : a.put oi.dst undef = a' := by simp only [Act.put, List.getElem_toArray, List.getElem_cons_zero, List.getElem_cons_succ, List.setIfInBounds_toArray, List.set_cons_zero, List.set_cons_succ] <;> rfl)
  (hL : listed.setIfInBounds i true = listed' := by (try simp only [List.setIfInBounds_toArray, List.set_cons_zero, List.set_cons_succ]) <;> rfl) : wpAnyH P md ops Q S (fuel + 1) listed a w := by
 subst he hL;exact wpAnyH_take hi hs hf hr hQ hy hS h
theorem zbb (i : Nat) {o : Oper} (h : ∀ K' : Act -> World -> Prop, Shut (∀ a w, S w -> (S w -> wpAnyH P md ops Q S fuel (listed.setIfInBounds i true) a w) -> K' a w) -> if Region.wanted o (yielded ops a.tmps) = true then Oper.wp P o a w K' Q else K' (a.put o.dst undef) w)
  (hr : Region.ready md ops listed = [i] := by kernel_rfl) (ho : ops[i]? = some o := by rfl) : wpAnyH P md ops Q S (fuel + 1) listed a w :=
 wpAnyH_ready hr (by simp) (AllReadyH.cons ho h AllReadyH.nil)
theorem zag (i : Nat) {o : Oper} (h : ∀ K' : Act -> World -> Prop, Shut (∀ a w, S w -> (S w -> wpAnyL P md ops Q S late fuel (listed.setIfInBounds i true) a w) -> K' a w) -> if Region.wanted o (yielded ops a.tmps) = true then Oper.wp P o a w K' Q else K' (a.put o.dst undef) w)
  (hr : Region.ready md ops listed = [i] := by kernel_rfl) (ho : ops[i]? = some o := by rfl) : wpAnyL P md ops Q S late (fuel + 1) listed a w :=
 zeT hr (by simp) (zbw.cons ho h zbw.nil)
theorem zao (i : Nat) {o : Oper} (h : ∀ K' : Act -> World -> Prop, Shut (∀ a w, wpAnyL P md ops Q S late fuel (listed.setIfInBounds i true) a w -> K' a w) -> if Region.wanted o (yielded ops a.tmps) = true then Oper.wp P o a w K' Q else K' (a.put o.dst undef) w)
  (hr : Region.ready md ops listed = [i] := by kernel_rfl) (hl : late.getD i false = true := by kernel_rfl) (ho : ops[i]? = some o := by rfl) : wpAnyL P md ops Q S late (fuel + 1) listed a w :=
 zeT hr (by simp) (zbw.last ho hl h zbw.nil)
end
end Go.Proofs.YtnfjjliiajaijaaDoor
namespace Go.Proofs.YtnfjjliiajaijaaDoor
open Go.RowKit Go.WideShapes Go.ChangeShapes
theorem zas (a : Addr) (n : Nat) : (a.add n).block = a.block := by unfold Addr.add; split <;> rfl
theorem zgm (a : Addr) (i j : Nat) : (a.add i).add j = a.add (i + j) := by
 unfold Addr.add
 by_cases hi : i = 0 <;> by_cases hj : j = 0 <;> simp [hi, hj, Nat.add_assoc]
def zal (w : World) (B size : Nat) (A : Option Addr) (n : Nat) (xs : List Value) : Prop :=
 xs.length = n * size /\ (0 < n -> ∃ ad, A = some ad /\ ad.block < B /\ ∀ j u, xs[j]? = some u -> w.cell? (ad.add j) = some u)
section
variable {w w' : World} {B B' size n : Nat} {A : Option Addr} {xs : List Value}
theorem zal.none_ : zal w B size A 0 [] := ⟨by simp, fun h => absurd h (by omega)⟩
theorem zal.at_ {k : Nat} (h : zal w B 1 A n xs) (hk : k < n) : ∃ ad u, A = some ad /\ ad.block < B /\ xs[k]? = some u /\ w.cell? (ad.add k) = some u := by
 obtain ⟨ad, e, hb, hc⟩ := h.2 (by omega)
 have hl : k < xs.length := by have := h.1; omega
 exact ⟨ad, xs[k], e, hb, List.getElem?_eq_getElem hl, hc k _ (List.getElem?_eq_getElem hl)⟩
theorem zal.keep (h : zal w B size A n xs) (hk : ∀ p : Addr, p.block < B -> w'.cell? p = w.cell? p) : zal w' B size A n xs :=
 ⟨h.1, fun hn => by
  obtain ⟨ad, e, hb, hc⟩ := h.2 hn
  exact ⟨ad, e, hb, fun j u hu => (hk _ (by rw [zas]; exact hb)).trans (hc j u hu)⟩⟩
theorem zal.more (h : zal w B size A n xs) (hB : B <= B') : zal w B' size A n xs :=
 ⟨h.1, fun hn => by
  obtain ⟨ad, e, hb, hc⟩ := h.2 hn
  exact ⟨ad, e, by omega, hc⟩⟩
theorem zal.below (h : zal w B size A n xs) (hb : Below B w w') : zal w' B size A n xs := h.keep fun _ hp => hb.cell hp
theorem zal.drew (h : zal w B size A n xs) : zal w.drew B size A n xs := h
theorem zal.drewN (h : zal w B size A n xs) (k : Nat) : zal (w.drewN k) B size A n xs := h
theorem zal.alloc (h : zal w B size A n xs) (hB : B <= w.heap.size) (o : Obj) : zal (w.alloc o) B size A n xs := h.keep fun p hp => World.cell?_alloc_lt w o p (by omega)
theorem zal.setCell (h : zal w B size A n xs) {p : Addr} (hB : B <= p.block) (u : Value) : zal (w.setCell p u) B size A n xs :=
 h.keep fun q hq => World.cell?_setCell_other w p q u (fun e => by subst e; omega)
theorem zal.grown (h : zal w B size A n xs) {row : Option Nat} (hg : w.grownBy w' row) (hB : B <= w.heap.size) (hr : ∀ g, row = some g -> B <= g) : zal w' B size A n xs :=
 h.keep fun p hp => World.cell?_of_block (hg.block p.block (by omega) (fun e => by have := hr _ e.symm; omega))
theorem zal.cut (h : zal w B size A n xs) {k cap : Nat} (hk : k <= n) (hc : n <= cap) :
  zal w B size (if cap = k then A else A.map (·.add (k * size))) (n - k) (xs.drop (k * size)) := by
 refine ⟨by rw [List.length_drop, h.1, Nat.sub_mul], fun hn => ?_⟩;obtain ⟨ad, rfl, hb, hcell⟩ := h.2 (by omega);rw [if_neg (by omega)];refine ⟨ad.add (k * size), rfl, by rw [zas]; exact hb, fun j u hu => ?_⟩;rw [zgm];exact hcell _ u (by rw [<- hu, List.getElem?_drop])
theorem zal.of_own {base : Nat} {e : TypeId} {c : Nat} (h : w.ownsRow base e size (.slice A n c) n xs) : zal w w.heap.size size A n xs := by
 refine ⟨h.1, fun hn => ?_⟩;obtain ⟨g, cap, hv, _, hlt⟩ := h.form hn
 have hA : A = some ⟨g, 0, none⟩ := by injection hv
 subst hA;exact ⟨_, rfl, hlt, h.cells (g := g) rfl⟩
end
def Blk (w : World) (g : Nat) (t : TypeId) (cs : Array Value) : Prop := w.heap[g]? = some (.cells cs t (0, 0))
section
variable {w w' : World} {g : Nat} {t : TypeId} {cs : Array Value}
theorem Blk.lt (h : Blk w g t cs) : g < w.heap.size := by
 rcases Nat.lt_or_ge g w.heap.size with hlt | hge
 ·exact hlt
 ·unfold Blk at h; rw [Array.getElem?_eq_none hge] at h; cases h
theorem Blk.cell (h : Blk w g t cs) (i : Nat) : w.cell? ⟨g, i, none⟩ = cs[i]? := cell_of_row w g i cs t (0, 0) h
theorem Blk.frozen (h : Blk w g t cs) (i : Nat) : w.frozen? ⟨g, i, none⟩ = false := by
 unfold Blk at h;simp [World.frozen?, h]
theorem Blk.new (w : World) (t : TypeId) (cs : Array Value) : Blk (w.alloc (.cells cs t)) w.heap.size t cs := heap_alloc_new w _
theorem Blk.drew (h : Blk w g t cs) : Blk w.drew g t cs := h
theorem Blk.drewN (h : Blk w g t cs) (n : Nat) : Blk (w.drewN n) g t cs := h
theorem Blk.alloc (h : Blk w g t cs) (o : Obj) : Blk (w.alloc o) g t cs := (Below.heap_alloc w o g h.lt).trans h
theorem Blk.set_ (h : Blk w g t cs) (i : Nat) (u : Value) : Blk (w.setCell ⟨g, i, none⟩ u) g t (cs.setIfInBounds i u) := by
 unfold Blk at h ⊢;simp [World.setCell, Array.getElem?_modify, h]
theorem Blk.far (h : Blk w g t cs) {p : Addr} (hp : g ≠ p.block) (u : Value) : Blk (w.setCell p u) g t cs := (Below.heap_setCell w p u g hp).trans h
theorem Blk.below {B : Nat} (h : Blk w g t cs) (hb : Below B w w') (hg : g < B) : Blk w' g t cs := (hb.block g hg).trans h
theorem Blk.grown {row : Option Nat} (h : Blk w g t cs) (hb : w.grownBy w' row) (hg : some g ≠ row) : Blk w' g t cs := (hb.block g h.lt hg).trans h
theorem Blk.ne_ {g' : Nat} {t' : TypeId} {cs' : Array Value} (h : Blk w g t cs) (h' : Blk w g' t' cs') (hne : t ≠ t') : g ≠ g' := by
 rintro rfl;unfold Blk at h h';rw [h] at h';injection h' with h';injection h' with _ ht;exact hne ht
theorem zaq {base : Nat} {e : TypeId} {size n : Nat} {v : Value} {xs : List Value} (h : w.ownsRow base e size v n xs) (hg : Blk w g t cs) (hne : e ≠ t) : v.ownBlock ≠ some g := by
 rcases h.2 with ⟨rfl, _⟩ | ⟨g', cap, cur, rfl, _, hh, _⟩
 ·simp [Value.ownBlock]
 ·intro he
  have : g' = g := by simpa [Value.ownBlock] using he
  subst this;exact Blk.ne_ (t := e) hh hg hne rfl
end
section
variable {P : Program} (w : World)
theorem zeI (base : Nat) (t ty e : TypeId) (i : TypeInfo) (size : Nat) (ht : P.underlying t = some (.slice e)) (hi : P.info? e = some i)
  (v : Value) (n : Nat) (xs : List Value) (hown : w.ownsRow base e size v n xs) (c : Nat) : (Builtin.append_ #[t, t] ty #[v, .slice none 0 c]).run P w = .ok v w := by
 rcases hown.2 with ⟨rfl, rfl⟩ | ⟨g, cap, cur, rfl, _, _, hnc, _⟩
 ·simp [Builtin.append_, run_underlying ht, sizeOf, typeInfo, hi, Builtin.lenOf, Builtin.firstCells]
 ·simp [Builtin.append_, run_underlying ht, sizeOf, typeInfo, hi, Builtin.lenOf, Builtin.firstCells, hnc, storeCells]
theorem zfR (base : Nat) (t ty e : TypeId) (i : TypeInfo) (z : Value) (size bytes : Nat) (ht : P.underlying t = some (.slice e)) (hi : P.info? e = some i) (hz : i.zero = some z)
  (hsize : i.size = size) (hby : i.bytes = bytes) (hzs : z.cells.size = size) (hsz : 0 < size)
  (v : Value) (n : Nat) (xs : List Value) (hown : w.ownsRow base e size v n xs)
  (B : Nat) (A : Option Addr) (m c : Nat) (news : List Value) (hr : zal w B size A m news) (h1 : ∀ u ∈ news, u.oneCell' = true)
  (h63 : n + m <= maxLen) (hbytes : (n + m) * bytes <= 140737488355328) (hbase : base <= w.heap.size) :
  ∃ v' w', (Builtin.append_ #[t, t] ty #[v, .slice A m c]).run P w = .ok v' w' /\ w'.ownsRow base e size v' (n + m) (xs ++ news) /\ w.grownBy w' v.ownBlock /\
   (v'.ownBlock = v.ownBlock ∨ v'.ownBlock = some w.heap.size) := by
 rcases A with _ | ad
 ·have hm : m = 0 := by
   rcases Nat.eq_zero_or_pos m with h0 | h0
   ·exact h0
   ·obtain ⟨ad, h, _⟩ := hr.2 h0
    cases h
  subst hm;have hn : news = [] := List.eq_nil_of_length_eq_zero (by simpa using hr.1);subst hn;exact ⟨v, w, zeI w base t ty e i size ht hi v n xs hown c, by simpa using hown, World.grownBy.refl w _, .inl rfl⟩
 ·have hcells : ∀ j u, news[j]? = some u -> w.cell? (ad.add j) = some u := by
   intro j u hu
   rcases Nat.eq_zero_or_pos m with h0 | h0
   ·subst h0;have hn : news = [] := List.eq_nil_of_length_eq_zero (by simpa using hr.1);subst hn;simp at hu
   ·obtain ⟨ad', h, _, hc⟩ := hr.2 h0;injection h with h;subst h;exact hc j u hu
  obtain ⟨v', w', hrun, h2, h3, _, h5⟩ := run_append_own_at (P := P) w base t ty e i z size bytes ht hi hz hsize hby hzs hsz v n xs hown ad m c news hr.1 hcells h1 h63 hbytes hbase;exact ⟨v', w', hrun, h2, h3, h5⟩
theorem zed {o : Oper} {a : Act} {K : Act -> World -> Prop} {Q : Exit -> Act -> World -> Prop} (s x : Operand) (t : TypeId)
  (ho : o.op = .call { callee := .builtin .append, args := #[s, x], argTypes := #[t, t] })
  (base : Nat) (e : TypeId) (i : TypeInfo) (z : Value) (size bytes : Nat) (ht : P.underlying t = some (.slice e)) (hi : P.info? e = some i) (hz : i.zero = some z)
  (hsize : i.size = size) (hby : i.bytes = bytes) (hzs : z.cells.size = size) (hsz : 0 < size)
  (v : Value) (n : Nat) (xs : List Value) (hs : a.eval s = v) (hown : w.ownsRow base e size v n xs)
  (B : Nat) (A : Option Addr) (m c : Nat) (news : List Value) (hx : a.eval x = .slice A m c) (hr : zal w B size A m news) (h1 : ∀ u ∈ news, u.oneCell' = true)
  (h63 : n + m <= maxLen) (hbytes : (n + m) * bytes <= 140737488355328) (hbase : base <= w.heap.size)
  (h : ∀ v' w', w'.ownsRow base e size v' (n + m) (xs ++ news) -> w.grownBy w' v.ownBlock -> (v'.ownBlock = v.ownBlock ∨ v'.ownBlock = some w.heap.size) -> K (a.put o.dst v') w') : o.wp P a w K Q := by
 obtain ⟨v', w', hrun, h2, h3, h4⟩ := zfR (P := P) w base t o.type e i z size bytes ht hi hz hsize hby hzs hsz v n xs hown B A m c news hr h1 h63 hbytes hbase;unfold Oper.wp execOp;simp only [ho, resolve, invoke, builtin, Sem.run_bind, Sem.run_pure, Result.andThen_ok, List.map_toArray, List.map_cons, List.map_nil, hs, hx, hrun];exact h v' w' h2 h3 h4
theorem zau {ops : Array Oper} {rest : List Oper} {o : Oper} {a : Act} {Q : Exit -> Act -> World -> Prop} (hgd : o.guard = none) (s x : Operand) (t : TypeId)
  (ho : o.op = .call { callee := .builtin .append, args := #[s, x], argTypes := #[t, t] })
  (base : Nat) (e : TypeId) (i : TypeInfo) (z : Value) (size bytes : Nat) (ht : P.underlying t = some (.slice e)) (hi : P.info? e = some i) (hz : i.zero = some z)
  (hsize : i.size = size) (hby : i.bytes = bytes) (hzs : z.cells.size = size) (hsz : 0 < size)
  (v : Value) (n : Nat) (xs : List Value) (hs : a.eval s = v) (hown : w.ownsRow base e size v n xs)
  (B : Nat) (A : Option Addr) (m c : Nat) (news : List Value) (hx : a.eval x = .slice A m c) (hr : zal w B size A m news) (h1 : ∀ u ∈ news, u.oneCell' = true)
  (h63 : n + m <= maxLen) (hbytes : (n + m) * bytes <= 140737488355328) (hbase : base <= w.heap.size)
  (h : ∀ v' w', w'.ownsRow base e size v' (n + m) (xs ++ news) -> w.grownBy w' v.ownBlock -> (v'.ownBlock = v.ownBlock ∨ v'.ownBlock = some w.heap.size) -> wpList P ops Q rest (a.put o.dst v') w') : wpList P ops Q (o :: rest) a w :=
 wpList_plain hgd fun _ hK => zed w s x t ho base e i z size bytes ht hi hz hsize hby hzs hsz v n xs hs hown B A m c news hx hr h1 h63 hbytes hbase fun v' w' h2 h3 h4 => hK _ _ (h v' w' h2 h3 h4)
theorem zaB {ops : Array Oper} {o : Oper} {a : Act} {K : Act -> World -> Prop} {Q : Exit -> Act -> World -> Prop} {E : Prop} (hgd : o.guard = none) (s x : Operand) (t : TypeId)
  (ho : o.op = .call { callee := .builtin .append, args := #[s, x], argTypes := #[t, t] })
  (base : Nat) (e : TypeId) (i : TypeInfo) (z : Value) (size bytes : Nat) (ht : P.underlying t = some (.slice e)) (hi : P.info? e = some i) (hz : i.zero = some z)
  (hsize : i.size = size) (hby : i.bytes = bytes) (hzs : z.cells.size = size) (hsz : 0 < size)
  (v : Value) (n : Nat) (xs : List Value) (hs : a.eval s = v) (hown : w.ownsRow base e size v n xs)
  (B : Nat) (A : Option Addr) (m c : Nat) (news : List Value) (hx : a.eval x = .slice A m c) (hr : zal w B size A m news) (h1 : ∀ u ∈ news, u.oneCell' = true)
  (h63 : n + m <= maxLen) (hbytes : (n + m) * bytes <= 140737488355328) (hbase : base <= w.heap.size)
  (h : ∀ v' w', w'.ownsRow base e size v' (n + m) (xs ++ news) -> w.grownBy w' v.ownBlock -> (v'.ownBlock = v.ownBlock ∨ v'.ownBlock = some w.heap.size) -> K (a.put o.dst v') w') :
  if Region.wanted o (yielded ops a.tmps) = true then Oper.wp P o a w K Q else E := by
 have hw : Region.wanted o (yielded ops a.tmps) = true := by simp [Region.wanted, hgd]
 rw [if_pos hw];exact zed w s x t ho base e i z size bytes ht hi hz hsize hby hzs hsz v n xs hs hown B A m c news hx hr h1 h63 hbytes hbase h
end
theorem below_drewN {B : Nat} {a w : World} (h : Below B a w) (n : Nat) : Below B a (w.drewN n) := ⟨h.os, h.tape, h.output, h.size, h.block⟩
theorem zb8 {a w : World} {row : Option Nat} (h : a.grownBy w row) : a.grownBy w.drew row := ⟨h.os, h.tape, h.output, h.size, h.block⟩
theorem zaZ {a w : World} {g : Nat} (h : a.grownBy w (some g)) {p : Addr} (hp : p.block = g ∨ a.heap.size <= p.block) (u : Value) : a.grownBy (w.setCell p u) (some g) :=
 ⟨h.os, h.tape, h.output, by simpa [World.setCell] using h.size, fun i hi hne => (Below.heap_setCell w p u i (by
  rintro rfl
  rcases hp with hp | hp
  ·exact hne (by rw [hp])
  ·omega)).trans (h.block i hi hne)⟩
theorem zah {a w : World} (h : Below a.heap.size a w) (row : Option Nat) : a.grownBy w row := ⟨h.os, h.tape, h.output, h.size, fun i hi _ => h.block i hi⟩
theorem zdf {P : Program} (t e : TypeId) (i : TypeInfo) (z : Value) (ht : P.underlying t = some (.slice e)) (hi : P.info? e = some i) (hz : i.zero = some z)
  (kl kc : IntKind) (n c : Nat) (hnc : n <= c) (hbytes : i.bytes * c <= 281474976710656) (h63 : c <= 9223372036854775807) (w : World) :
  (Instr.makeSlice t (.int kl (n : Int)) (.int kc (c : Int))).run P w = .ok (.slice (some ⟨w.heap.size, 0, none⟩) n c) (w.alloc (.cells (madeCells z.cells (c * i.size)) e)) := by
 have hb : (i.bytes : Int) * (c : Int) <= 281474976710656 := by
  have h : ((i.bytes * c : Nat) : Int) <= 281474976710656 := by omega
  rwa [Int.natCast_mul] at h
 have hr := run_make (P := P) w t e i z ht hi hz kl kc n c (by omega) (by omega) hb (by omega);simp only [Int.toNat_natCast] at hr;exact hr
section
variable {H : Type} {enc : TypeId × Value -> H} {P : Program}
end
theorem zal.new1 (w : World) (x : Value) (t : TypeId) : zal (w.alloc (.cells #[x] t)) (w.heap.size + 1) 1 (some ⟨w.heap.size, 0, none⟩) 1 [x] :=
 ⟨rfl, fun _ => ⟨_, rfl, Nat.lt_succ_self _, cell_one_new w x t⟩⟩
theorem zbn {w : World} {base : Nat} {e : TypeId} {size : Nat} {v : Value} {n : Nat} {xs : List Value} (h : w.ownsRow base e size v n xs) (hn : 0 < n) :
  ∃ g cap, v = .slice (some ⟨g, 0, none⟩) n cap /\ base <= g /\ g < w.heap.size /\ n <= cap /\ cap <= maxLen := by
 obtain ⟨g, cap, hv, hb, hl⟩ := h.form hn
 rcases h.2 with ⟨_, h0⟩ | ⟨g', cap', cur, hv', _, _, h1, h2, _⟩
 ·omega
 ·rw [hv] at hv';injection hv' with _ _ hc;subst hc;exact ⟨g, cap, hv, hb, hl, h1, h2⟩
theorem zak {w : World} {base : Nat} {e : TypeId} {size : Nat} {v : Value} {n : Nat} {xs : List Value} (h : w.ownsRow base e size v n xs) :
  ∃ A cap, v = .slice A n cap /\ n <= cap /\ cap <= maxLen /\ zal w w.heap.size size A n xs := by
 rcases h.2 with ⟨rfl, rfl⟩ | ⟨g', cap', cur, rfl, _, _, h1, h2, _⟩
 ·exact ⟨none, 0, rfl, by omega, by unfold maxLen; omega, zal.of_own h⟩
 ·exact ⟨_, cap', rfl, h1, h2, zal.of_own h⟩
theorem zbD {w : World} {base base' : Nat} {e : TypeId} {size : Nat} {v : Value} {n : Nat} {xs : List Value} (h : w.ownsRow base e size v n xs) (hb : base' <= base) : w.ownsRow base' e size v n xs := by
 rcases h.2 with h0 | ⟨g, cap, cur, hv, hg, h1, h2⟩
 ·exact ⟨h.1, .inl h0⟩
 ·exact ⟨h.1, .inr ⟨g, cap, cur, hv, Nat.le_trans hb hg, h1, h2⟩⟩
theorem zcR (w : World) (e size : Nat) : (w.alloc (.cells #[] e)).ownsRow w.heap.size e size (.slice (some ⟨w.heap.size, 0, none⟩) 0 0) 0 [] :=
 ⟨by simp, .inr ⟨w.heap.size, 0, #[], rfl, Nat.le_refl _, heap_alloc_new w _, Nat.le_refl _, by unfold maxLen; omega, by simp, by simp⟩⟩
end Go.Proofs.YtnfjjliiajaijaaDoor
namespace Go.Proofs.YtnfjjliiajaijaaDoor
open Go.RowKit
def U64 (a : Int) : Prop := 0 <= a /\ a < 18446744073709551616
def doV (op a b : Int) : Int :=
 if op = 7 then IntKind.u64.wrap (a + b)
 else if op = 8 then IntKind.u64.wrap (a - b)
 else if op = 9 then IntKind.u64.wrap (a * b)
 else if op = 10 then if b = 0 then 0 else IntKind.u64.wrap (wrap64 ((wrap64 a).tdiv (wrap64 b)))
 else if op = 11 then if b = 0 then 0 else IntKind.u64.wrap ((wrap64 a).tmod (wrap64 b))
 else if op = 12 then ((a.toNat &&& b.toNat : Nat) : Int)
 else if op = 13 then ((a.toNat ||| b.toNat : Nat) : Int)
 else if op = 14 then ((a.toNat ^^^ b.toNat : Nat) : Int)
 else if op = 15 then IntKind.u64.wrap (a * 2 ^ min b.toNat 64)
 else if op = 16 then a / 2 ^ min b.toNat 64
 else if op = 17 then IntKind.u64.wrap (wrap64 a / 2 ^ min b.toNat 63)
 else if op = 18 then if a = b then 1 else 0
 else if op = 19 then if wrap64 a < wrap64 b then 1 else 0
 else if op = 20 then if a < b then 1 else 0
 else 0
def doE (op b : Int) : Int :=
 if 7 <= op /\ op <= 20 then if (op = 10 ∨ op = 11) /\ b = 0 then 10 else 0 else 2
def leV : List Int -> Int
 | [] => 0
 | x :: r => x + 256 * leV r
theorem zlr (l : List Int) (x : Int) : leV (l ++ [x]) = leV l + x * 256 ^ l.length := by
 induction l with
 | nil => simp [leV]
 | cons y r ih =>
  simp only [List.cons_append, leV, ih, List.length_cons, Int.pow_succ, Int.mul_add];rw [Int.mul_comm (256 ^ r.length) 256, Int.mul_left_comm x 256]
  omega
def zhG (v : Int) (i : Nat) : Int := v / 256 ^ i % 256
def zcl (k : Nat) (v : Int) : List Int := (List.range k).map (zhG v)
theorem zcX (k : Nat) (v : Int) : (zcl k v).length = k := by simp [zcl]
theorem zhE (k : Nat) (v : Int) : zcl (k + 1) v = zcl k v ++ [zhG v k] := by
 simp [zcl, List.range_succ]
theorem zjE (k : Nat) (v : Int) : ∀ x ∈ zcl k v, 0 <= x /\ x < 256 := by
 intro x hx;simp only [zcl, List.mem_map] at hx;obtain ⟨i, _, rfl⟩ := hx;unfold zhG; omega
theorem zku (k : Nat) (v : Int) (h0 : 0 <= v) : leV (zcl k v) = v % 256 ^ k := by
 induction k with
 | zero => simp [zcl, leV]
 | succ k ih =>
  rw [zhE, zlr, ih, zcX];unfold zhG;obtain ⟨n, rfl⟩ := Int.eq_ofNat_of_zero_le h0;have h := Nat.mod_mul (a := 256 ^ k) (b := 256) (x := n);rw [<- Nat.pow_succ, Nat.mul_comm (256 ^ k)] at h;have h' := congrArg (fun x : Nat => (x : Int)) h
  simpa using h'.symm
def setCells (n : Int) (h L : Nat) : Array Value := #[.int .i64 n, .slice (some ⟨h, 0, none⟩) L L]
def zlX (ws : List Int) : Array Value := (ws.map (Value.int .u64)).toArray
def zeros (L : Nat) : List Int := List.replicate L 0
structure zm7 (w : World) (g h : Nat) (n : Int) (ws : List Int) : Prop where
 top : Blk w g 145 (setCells n h ws.length)
 words : Blk w h 53 (zlX ws)
 lo : 0 <= n
 hi : n <= 1048576
 len : (ws.length : Int) = (n + 63) / 64
 wf : ∀ x ∈ ws, U64 x
theorem zky : (Tryd.prog.info? 53).map (fun i => (i.zero, i.size, i.bytes)) = some (some (.int .u64 0), 1, 8) := by kernel_rfl
theorem zkq (L : Nat) : madeCells #[Value.int .u64 0] (L * 1) = zlX (zeros L) := by
 apply Array.toList_inj.1
 rw [Nat.mul_one, toList_madeCells_one];simp [zlX, zeros]
theorem zkn (x : Int) (L : Nat) (hx : x = L) (hL : L <= 1048576) (W : World) :
  (Instr.makeSlice 143 (.int .i64 x) (.int .i64 x)).run Tryd.prog W = .ok (.slice (some ⟨W.heap.size, 0, none⟩) L L) (W.alloc (.cells (zlX (zeros L)) 53)) := by
 obtain ⟨i0, hi0, hz0, hz1, hz2⟩ := info_parts zky;subst hx;rw [zdf (P := Tryd.prog) 143 53 i0 _ Tryd.underlying143 hi0 hz0 .i64 .i64 L L (Nat.le_refl _) (by rw [hz2]; omega) (by omega) W, hz1];show Result.ok _ (W.alloc (.cells (madeCells #[Value.int .u64 0] (L * 1)) _)) = _;rw [zkq]
theorem zmp (n0 n : Int) (w : World) (hn : n = min (max n0 0) 1048576) :
  Calls Tryd.prog 61 #[.int .i64 n0] w fun e w' => e = .returned (.pointer (some ⟨w.heap.size + 1, 0, none⟩)) /\ zm7 w' (w.heap.size + 1) w.heap.size n (zeros ((n + 63) / 64).toNat) /\ Below w.heap.size w w' := by
 obtain ⟨L, hL⟩ : ∃ L : Nat, (n + 63) / 64 = L := Int.eq_ofNat_of_zero_le (by omega)
 have hL2 : L <= 16384 := by omega
 have hfin : ∀ W : World, W = (w.alloc (.cells (zlX (zeros L)) 53)).alloc (.cells (setCells n w.heap.size L) 145) ->
   zm7 W (w.heap.size + 1) w.heap.size n (zeros ((n + 63) / 64).toNat) /\ Below w.heap.size w W := by
  intro W hW;subst hW;rw [hL, Int.toNat_natCast];refine ⟨⟨?_, ?_, by omega, by omega, by simp [hL, zeros], fun x hx => by rw [(List.mem_replicate.1 hx).2]; unfold U64; omega⟩, ((Below.refl _ _).alloc (Nat.le_refl _) _).alloc (by simp) _⟩
  ·rw [show (zeros L).length = L from by simp [zeros]];have := Blk.new (w.alloc (.cells (zlX (zeros L)) 53)) 145 (setCells n w.heap.size L)
   simpa using this
  ·exact (Blk.new w 53 (zlX (zeros L))).alloc _
 have HF := Lib.hid hfin;clear hfin
 rcases (show n0 < 0 /\ n = 0 ∨ 0 <= n0 /\ n0 <= 1048576 /\ n = n0 ∨ 1048576 < n0 /\ n = 1048576 by omega) with ⟨h1, h2⟩ | ⟨h0, h1, h2⟩ | ⟨h1, h2⟩
 ·obtain rfl : L = 0 := by omega
  have hmk := zkn 0 0 rfl (by omega);subst h2;clear hn hL hL2;go_enter Tryd.func61, Tryd.ntmps61;go_wp2_with fail;go_ret;exact ⟨rfl, HF.out _ rfl⟩
 ·have hmk := zkn ((n0 + 63) / 64) L (by omega) (by omega);subst h2;clear hn hL hL2;go_enter Tryd.func61, Tryd.ntmps61;go_wp2_with fail;go_ret;exact ⟨rfl, HF.out _ rfl⟩
 ·obtain rfl : L = 16384 := by omega
  have hmk := zkn 16384 16384 rfl (by omega);subst h2;clear hn hL hL2;go_enter Tryd.func61, Tryd.ntmps61;go_wp2_with fail;go_ret;exact ⟨rfl, HF.out _ rfl⟩
def zjH (x : Int) (k : Nat) : Bool := bits .and .u64 (x / 2 ^ k) 1 == 1
def zmI (x : Int) (k : Nat) : Int := bits .or .u64 x (IntKind.u64.wrap (2 ^ k))
theorem zh9 (g : Nat) (n i : Int) (w : World) (h0 : 0 <= i) (h2 : i < n) (hc : w.cell? ⟨g, 0, none⟩ = some (.int .i64 n)) :
  Calls Tryd.prog 87 #[.pointer (some ⟨g, 0, none⟩), .int .i64 i] w fun e w' => e = .returned (.bool true) /\ w = w' := by
 have h1 : decide (0 <= i) = true := by simpa using h0
 have h3 : decide (i < n) = true := by simpa using h2
 go_enter Tryd.func87, Tryd.ntmps87;go_wp2_with fail;go_ret;exact ⟨rfl, rfl⟩
end Go.Proofs.YtnfjjliiajaijaaDoor
