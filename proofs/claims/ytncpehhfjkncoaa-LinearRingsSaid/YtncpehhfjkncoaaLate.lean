/- A region that draws its order, whose last operations write what its loads read: a load may be taken first where the writing waits for it. No condition. -/
import Derived.Deep.RegionHeld3
set_option linter.unusedVariables false
set_option linter.unusedSimpArgs false
namespace Go.Proofs.Ytncpehhfjkncoaa
section
variable {P : Program} {ops : Array Oper} {Q : Exit → Act → World → Prop} {md : Region.Mode} {S : World → Prop} {late : Array Bool}

/-- Whatever order is picked from here on, and S holds behind every operation that is carried out, but for the late ones. -/
def wpAnyL (P : Program) (md : Region.Mode) (ops : Array Oper) (Q : Exit → Act → World → Prop) (S : World → Prop) (late : Array Bool) : Nat → Array Bool → Act → World → Prop
  | 0, listed, a, w => Region.ready md ops listed = [] ∧ Q .normal a w
  | fuel + 1, listed, a, w =>
    (Region.ready md ops listed = [] → Q .normal a w) ∧
    ∀ i ∈ Region.ready md ops listed, wpOp P ops Q i (fun a' w' => (late.getD i false = true ∨ S w') ∧ wpAnyL P md ops Q S late fuel (listed.setIfInBounds i true) a' w') a w
theorem wpAny_of_late : ∀ (fuel : Nat) (listed : Array Bool) (a : Act) (w : World), wpAnyL P md ops Q S late fuel listed a w → wpAny P md ops Q fuel listed a w
  | 0, _, _, _, h => h
  | fuel + 1, _, _, _, h => ⟨h.1, fun i hi => wpOp_mono (fun a' w' h' => wpAny_of_late fuel _ a' w' h'.2) (h.2 i hi)⟩
/-- what may have come up while number i has not -/
def beforeOf (md : Region.Mode) (ops : Array Oper) (i : Nat) : Nat → Array Bool → Array Bool
  | 0, F => F
  | n + 1, F => beforeOf md ops i n ((Region.ready md ops F).foldl (fun F j => if j = i then F else F.setIfInBounds j true) F)
def lateOk (md : Region.Mode) (ops : Array Oper) (late listed F : Array Bool) (i : Nat) : Bool :=
  decide (F.size = ops.size) && (Region.ready md ops F).all (fun k => k == i) && (List.range listed.size).all (fun k => !listed.getD k false || F.getD k false) && (List.range F.size).all (fun k => !F.getD k false || !late.getD k false)
theorem getD_lt {F : Array Bool} {k : Nat} (h : F.getD k false = true) : k < F.size := by
  rcases Nat.lt_or_ge k F.size with h' | h'
  · exact h'
  · simp [Array.getElem?_eq_none h'] at h
theorem lateOk_spec {listed F : Array Bool} {i : Nat} (h : lateOk md ops late listed F i = true) :
    F.size = ops.size ∧ (∀ k ∈ Region.ready md ops F, k = i) ∧ (∀ k, listed.getD k false = true → F.getD k false = true) ∧ ∀ k, F.getD k false = true → late.getD k false = false := by
  simp only [lateOk, Bool.and_eq_true, decide_eq_true_eq, List.all_eq_true, List.mem_range, Bool.or_eq_true, Bool.not_eq_true', beq_iff_eq] at h
  obtain ⟨⟨⟨h1, h2⟩, h3⟩, h4⟩ := h
  refine ⟨h1, h2, fun k hk => ?_, fun k hk => ?_⟩
  · rcases h3 k (getD_lt hk) with h | h
    · rw [h] at hk; cases hk
    · exact h
  · rcases h4 k (getD_lt hk) with h | h
    · rw [h] at hk; cases hk
    · exact h
theorem before_ready {F listed : Array Bool} {i j : Nat} (h1 : F.size = ops.size) (h2 : ∀ k ∈ Region.ready md ops F, k = i) (hle : ∀ k, listed.getD k false = true → F.getD k false = true) (hj : j ∈ Region.ready md ops listed) (hne : j ≠ i) : F.getD j false = true := by
  by_cases hF : F.getD j false = true
  · exact hF
  · exfalso
    obtain ⟨_, o, ho, hall⟩ := mem_ready.1 hj
    have hlt : j < F.size := by rw [h1]; exact (Array.getElem?_eq_some_iff.1 ho).1
    refine hne (h2 j (mem_ready.2 ⟨?_, o, ho, fun e he hb => hle _ (hall e he hb)⟩))
    simp only [Array.getD_eq_getD_getElem?, Array.getElem?_eq_getElem hlt, Option.getD_some] at hF ⊢
    simpa using hF
theorem getD_set_or {listed : Array Bool} {i k : Nat} (h : (listed.setIfInBounds i true).getD k false = true) : k = i ∨ listed.getD k false = true := by
  by_cases hk : k = i
  · exact .inl hk
  · rw [getD_set_ne false (Ne.symm hk)] at h; exact .inr h
theorem wpAnyL_first {i : Nat} {oi : Oper} {v : Value} {F : Array Bool} (hi : ops[i]? = some oi) (hsel : ∀ (j : Nat) (o : Oper) cs b, ops[j]? = some o → o.op ≠ .select cs b)
    (hQ : ∀ c a w, Q (.panic c) (a.put oi.dst v) w → Q (.panic c) a w) (h1 : F.size = ops.size) (h2 : ∀ k ∈ Region.ready md ops F, k = i) (hl : ∀ k, F.getD k false = true → late.getD k false = false) :
    ∀ (fuel : Nat) (listed : Array Bool) (a : Act) (w : World), (∀ k, listed.getD k false = true → F.getD k false = true) →
      (∀ j oj, ops[j]? = some oj → j ≠ i → listed.getD j true = false → (∀ e ∈ oj.after, Region.binds md e = true → e.on ≠ i) → oi.apart ops oj = true) →
      i ∈ Region.ready md ops listed → YieldsIf P ops S oi v a → S w →
      wpAnyL P md ops Q S late fuel (listed.setIfInBounds i true) (a.put oi.dst v) w → wpAnyL P md ops Q S late (fuel + 1) listed a w := by
  intro fuel
  induction fuel with
  | zero =>
    intro listed a w _ _ hr hy hS H
    refine ⟨fun h => (by rw [h] at hr; cases hr), fun j hj => ?_⟩
    by_cases hji : j = i
    · subst hji; exact hy.wpOp hi hS ⟨.inr hS, H⟩
    · have := ready_mono hj hji
      rw [H.1] at this
      cases this
  | succ fuel ih =>
    intro listed a w hle hfree hr hy hS H
    refine ⟨fun h => (by rw [h] at hr; cases hr), fun j hj => ?_⟩
    by_cases hji : j = i
    · subst hji; exact hy.wpOp hi hS ⟨.inr hS, H⟩
    · have hjF := before_ready h1 h2 hle hj hji
      have hjl := hl j hjF
      have h3 := H.2 j (ready_mono hj hji)
      obtain ⟨hjun, oj, hoj, hall⟩ := mem_ready.1 hj
      have hnot : ∀ e ∈ oj.after, Region.binds md e = true → e.on ≠ i := fun e he hb heq => by
        have h1 := hall e he hb
        have h0 := (mem_ready.1 hr).1
        rw [heq] at h1
        rcases Nat.lt_or_ge i listed.size with h' | h'
        · simp [h'] at h0 h1; rw [h0] at h1; cases h1
        · simp [Array.getElem?_eq_none h'] at h1
      have h4 := wpOp_putIf hoj (hfree j oj hoj hji hjun hnot) (fun cs b => hsel i oi cs b hi) (fun cs b => hsel j oj cs b hoj) hQ hy h3
      have hfree' : ∀ k ok, ops[k]? = some ok → k ≠ i → (listed.setIfInBounds j true).getD k true = false →
          (∀ e ∈ ok.after, Region.binds md e = true → e.on ≠ i) → oi.apart ops ok = true := fun k ok hk hki hun hno => by
        refine hfree k ok hk hki ?_ hno
        by_cases hjk : j = k
        · subst hjk; exact hjun
        · rw [getD_set_ne true hjk] at hun; exact hun
      have hle' : ∀ k, (listed.setIfInBounds j true).getD k false = true → F.getD k false = true := fun k hk => by
        rcases getD_set_or hk with rfl | h
        · exact hjF
        · exact hle k h
      refine wpOp_mono (fun a' w' h5 => ?_) h4
      have hS' : S w' := h5.2.1.resolve_left (by rw [hjl]; simp)
      refine ⟨.inr hS', ih (listed.setIfInBounds j true) a' w' hle' hfree' (ready_mono hr (Ne.symm hji)) h5.1 hS' ?_⟩
      rw [Array.setIfInBounds_comm _ _ hji]
      exact h5.2.2
theorem wpAnyL_take {i : Nat} {oi : Oper} {v : Value} {fuel : Nat} {listed : Array Bool} {a : Act} {w : World} (hi : ops[i]? = some oi)
    (hs : Region.noSelect ops = true) (hf : Region.free md ops listed i = true) (hr : (Region.ready md ops listed).contains i = true) (hl : lateOk md ops late listed (beforeOf md ops i ops.size listed) i = true)
    (hQ : ∀ c a w, Q (.panic c) (a.put oi.dst v) w → Q (.panic c) a w) (hy : YieldsIf P ops S oi v a) (hS : S w)
    (h : wpAnyL P md ops Q S late fuel (listed.setIfInBounds i true) (a.put oi.dst v) w) : wpAnyL P md ops Q S late (fuel + 1) listed a w := by
  obtain ⟨h1, h2, h3, h4⟩ := lateOk_spec hl
  exact wpAnyL_first hi (Region.noSelect_spec hs) hQ h1 h2 h4 fuel listed a w h3 (Region.free_spec hi hf) (by simpa using hr) hy hS h
theorem wpAnyL_all {rs : List Nat} {fuel : Nat} {listed : Array Bool} {a : Act} {w : World} (hr : Region.ready md ops listed = rs) (hne : rs ≠ [])
    (h : ∀ i ∈ rs, wpOp P ops Q i (fun a' w' => (late.getD i false = true ∨ S w') ∧ wpAnyL P md ops Q S late fuel (listed.setIfInBounds i true) a' w') a w) : wpAnyL P md ops Q S late (fuel + 1) listed a w :=
  ⟨fun h0 => absurd (hr ▸ h0) hne, hr ▸ h⟩
theorem wpAnyL_done {listed : Array Bool} {a : Act} {w : World} (hr : Region.ready md ops listed = []) (h : Q .normal a w) :
    ∀ fuel, wpAnyL P md ops Q S late fuel listed a w
  | 0 => ⟨hr, h⟩
  | _ + 1 => ⟨fun _ => h, by rw [hr]; simp⟩
def AllReadyL (P : Program) (md : Region.Mode) (ops : Array Oper) (Q : Exit → Act → World → Prop) (S : World → Prop) (late : Array Bool) (fuel : Nat) (listed : Array Bool) (a : Act) (w : World) (rs : List Nat) : Prop :=
  ∀ i ∈ rs, wpOp P ops Q i (fun a' w' => (late.getD i false = true ∨ S w') ∧ wpAnyL P md ops Q S late fuel (listed.setIfInBounds i true) a' w') a w
theorem AllReadyL.nil {fuel : Nat} {listed : Array Bool} {a : Act} {w : World} : AllReadyL P md ops Q S late fuel listed a w [] := fun _ h => by cases h
theorem AllReadyL.cons {fuel : Nat} {listed : Array Bool} {a : Act} {w : World} {i : Nat} {o : Oper} {rs : List Nat} (ho : ops[i]? = some o)
    (h : ∀ K' : Act → World → Prop, Shut (∀ a w, S w → (S w → wpAnyL P md ops Q S late fuel (listed.setIfInBounds i true) a w) → K' a w) → if Region.wanted o (yielded ops a.tmps) = true then Oper.wp P o a w K' Q else K' (a.put o.dst undef) w)
    (hs : AllReadyL P md ops Q S late fuel listed a w rs) : AllReadyL P md ops Q S late fuel listed a w (i :: rs) := fun j hj => by
  rcases List.mem_cons.1 hj with rfl | hj
  · exact wpOp_step ho (fun K' hK => h K' (fun a w hS hW => hK a w ⟨.inr hS, hW hS⟩))
  · exact hs j hj
/-- a late one: S is not asked -/
theorem AllReadyL.last {fuel : Nat} {listed : Array Bool} {a : Act} {w : World} {i : Nat} {o : Oper} {rs : List Nat} (ho : ops[i]? = some o) (hl : late.getD i false = true)
    (h : ∀ K' : Act → World → Prop, Shut (∀ a w, wpAnyL P md ops Q S late fuel (listed.setIfInBounds i true) a w → K' a w) → if Region.wanted o (yielded ops a.tmps) = true then Oper.wp P o a w K' Q else K' (a.put o.dst undef) w)
    (hs : AllReadyL P md ops Q S late fuel listed a w rs) : AllReadyL P md ops Q S late fuel listed a w (i :: rs) := fun j hj => by
  rcases List.mem_cons.1 hj with rfl | hj
  · exact wpOp_step ho (fun K' hK => h K' (fun a w hW => hK a w ⟨.inl hl, hW⟩))
  · exact hs j hj
theorem wpAnyL_ready {rs : List Nat} {fuel : Nat} {listed : Array Bool} {a : Act} {w : World} (hr : Region.ready md ops listed = rs) (hne : rs ≠ [])
    (h : AllReadyL P md ops Q S late fuel listed a w rs) : wpAnyL P md ops Q S late (fuel + 1) listed a w := wpAnyL_all hr hne h
theorem wp_region_late {id : Nat} {a : Act} {w : World} (late : Array Bool) (hm : P.follows .mixedOrders = true) (hS : S w.drew)
    (h : S w.drew → wpAnyL P .any ops Q S late ops.size (Array.replicate ops.size false) a w.drew) : (Code.region id ops true).wp P Q a w :=
  wp_region_any hm (wpAny_of_late _ _ _ _ (h hS))
end
end Go.Proofs.Ytncpehhfjkncoaa
