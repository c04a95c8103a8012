/- Bytes of a program, plain: what is written is read again; what is read is written so again; what other bytes are. No condition. -/
import Derived.Test.YtcaefdfdngecdaaDecP
set_option linter.unusedVariables false
set_option linter.unusedSimpArgs false
namespace Go.Proofs.Ytcaefdfdngecdaa
open Go.RowKit

theorem num_some {k : Nat} {r s : List Int} {v : Int} (h : num k r = some (v, s)) : k ≤ r.length ∧ v = leV (r.take k) ∧ s = r.drop k := by
  unfold num at h
  split at h
  · cases h
  · simp only [Option.some.injEq, Prod.mk.injEq] at h
    exact ⟨by omega, h.1.symm, h.2.symm⟩
theorem num_more {k : Nat} {r s : List Int} {v : Int} (h : num k r = some (v, s)) (t : List Int) : num k (r ++ t) = some (v, s ++ t) := by
  obtain ⟨h1, rfl, rfl⟩ := num_some h
  unfold num
  rw [if_neg (by simp; omega), List.take_append_of_le_length h1, List.drop_append_of_le_length h1]
theorem byteAt_zero (x y : Int) (h0 : 0 ≤ x) (h1 : x < 256) : byteAt (x + 256 * y) 0 = x := by unfold byteAt; simp; omega
theorem byteAt_succ (v : Int) (i : Nat) : byteAt v (i + 1) = byteAt (v / 256) i := by
  unfold byteAt
  rw [Int.pow_succ, Int.mul_comm, Int.ediv_mul]; simp
theorem bytesLE_cons (k : Nat) (v : Int) : bytesLE (k + 1) v = v % 256 :: bytesLE k (v / 256) := by
  unfold bytesLE
  rw [List.range_succ_eq_map, List.map_cons, List.map_map]
  congr 1
  · unfold byteAt; simp
  · exact List.map_congr_left fun i _ => byteAt_succ v i
theorem bytesLE_leV (l : List Int) (h : ∀ x ∈ l, Byte x) : bytesLE l.length (leV l) = l := by
  induction l with
  | nil => rfl
  | cons x r ih =>
    have hx := h x List.mem_cons_self
    unfold Byte at hx
    rw [List.length_cons, bytesLE_cons, leV, show (x + 256 * leV r) % 256 = x by omega, show (x + 256 * leV r) / 256 = leV r by omega, ih fun y hy => h y (List.mem_cons_of_mem _ hy)]
theorem num_put (k : Nat) (v : Int) (s : List Int) (h0 : 0 ≤ v) (h1 : v < 256 ^ k) : num k (bytesLE k v ++ s) = some (v, s) := by
  unfold num
  rw [if_neg (by simp [bytesLE_length]), List.take_left' (bytesLE_length k v), List.drop_left' (bytesLE_length k v), leV_bytes k v h0, Int.emod_eq_of_lt h0 h1]
theorem bytesLE_one (v : Int) (h0 : 0 ≤ v) (h1 : v < 256) : bytesLE 1 v = [v] := by
  rw [bytesLE_cons, show v % 256 = v by omega]; rfl
theorem num_one (v : Int) (s : List Int) (h0 : 0 ≤ v) (h1 : v < 256) : num 1 (v :: s) = some (v, s) := by
  have := num_put 1 v s h0 (by simpa using h1)
  rwa [bytesLE_one v h0 h1] at this
theorem num_get {k : Nat} {r s : List Int} {v : Int} (hb : ∀ x ∈ r, Byte x) (h : num k r = some (v, s)) : r = bytesLE k v ++ s ∧ 0 ≤ v ∧ v < 256 ^ k ∧ ∀ x ∈ s, Byte x := by
  obtain ⟨h1, rfl, rfl⟩ := num_some h
  have hb' : ∀ x ∈ r.take k, Byte x := fun x hx => hb x (List.mem_of_mem_take hx)
  have hl : (r.take k).length = k := by simp; omega
  have e := bytesLE_leV (r.take k) hb'
  have hd := leV_bd (r.take k) hb'
  rw [hl] at e hd
  exact ⟨by rw [e, List.take_append_drop], hd.1, hd.2, fun x hx => hb x (List.mem_of_mem_drop hx)⟩
theorem num_get1 {r s : List Int} {v : Int} (hb : ∀ x ∈ r, Byte x) (h : num 1 r = some (v, s)) : r = v :: s ∧ 0 ≤ v ∧ v < 256 ∧ ∀ x ∈ s, Byte x := by
  obtain ⟨h1, h2, h3, h4⟩ := num_get hb h
  have h3' : v < 256 := by simpa using h3
  rw [bytesLE_one v h2 h3'] at h1
  exact ⟨h1, h2, h3', h4⟩

theorem decL_more {n : Nat} {r ks s : List Int} (h : decL n r = some (ks, s)) (t : List Int) : decL n (r ++ t) = some (ks, s ++ t) := by
  induction n generalizing r ks s with
  | zero => simp only [decL, Option.some.injEq, Prod.mk.injEq] at h ⊢; obtain ⟨rfl, rfl⟩ := h; exact ⟨rfl, rfl⟩
  | succ n ih =>
    simp only [decL, Option.bind_eq_some_iff] at h ⊢
    obtain ⟨⟨v, r1⟩, h1, h2⟩ := h
    refine ⟨(v, r1 ++ t), num_more h1 t, ?_⟩
    split at h2
    · cases h2
    · rename_i hd
      rw [if_neg hd]
      simp only [Option.bind_eq_some_iff] at h2 ⊢
      obtain ⟨⟨ks', r2⟩, h3, h4⟩ := h2
      simp only [Option.some.injEq, Prod.mk.injEq] at h4
      exact ⟨(ks', r2 ++ t), ih h3, by simp [h4.1, h4.2]⟩
theorem decI_more {r s : List Int} {i : InstrD} (h : decI r = some (i, s)) (t : List Int) : decI (r ++ t) = some (i, s ++ t) := by
  simp only [decI, Option.bind_eq_some_iff] at h ⊢
  obtain ⟨⟨v, r1⟩, h1, h2⟩ := h
  refine ⟨(v, r1 ++ t), num_more h1 t, ?_⟩
  split at h2
  · cases h2
  · rename_i hd
    rw [if_neg hd]
    split at h2
    · rename_i h8
      rw [if_pos h8]
      simp only [Option.bind_eq_some_iff] at h2 ⊢
      obtain ⟨⟨q, r2⟩, h3, h4⟩ := h2
      simp only [Option.some.injEq, Prod.mk.injEq] at h4
      exact ⟨(q, r2 ++ t), num_more h3 t, by simp [h4.1, h4.2]⟩
    · rename_i h8
      rw [if_neg h8]
      simp only [Option.bind_eq_some_iff] at h2 ⊢
      obtain ⟨⟨q, r2⟩, h3, h4⟩ := h2
      simp only [Option.some.injEq, Prod.mk.injEq] at h4
      exact ⟨(q, r2 ++ t), num_more h3 t, by simp [h4.1, h4.2]⟩
theorem decIs_more {n : Nat} {r s : List Int} {is : List InstrD} (h : decIs n r = some (is, s)) (t : List Int) : decIs n (r ++ t) = some (is, s ++ t) := by
  induction n generalizing r is s with
  | zero => simp only [decIs, Option.some.injEq, Prod.mk.injEq] at h ⊢; obtain ⟨rfl, rfl⟩ := h; exact ⟨rfl, rfl⟩
  | succ n ih =>
    simp only [decIs, Option.bind_eq_some_iff] at h ⊢
    obtain ⟨⟨v, r1⟩, h1, ⟨is', r2⟩, h3, h4⟩ := h
    simp only [Option.some.injEq, Prod.mk.injEq] at h4
    exact ⟨(v, r1 ++ t), decI_more h1 t, (is', r2 ++ t), ih h3, by simp [h4.1, h4.2]⟩
theorem decF_more {r s : List Int} {f : FuncD} (h : decF r = some (f, s)) (t : List Int) : decF (r ++ t) = some (f, s ++ t) := by
  simp only [decF, Option.bind_eq_some_iff] at h ⊢
  obtain ⟨⟨a, r1⟩, h1, ⟨b, r2⟩, h2, h3⟩ := h
  refine ⟨(a, r1 ++ t), num_more h1 t, (b, r2 ++ t), num_more h2 t, ?_⟩
  split at h3
  · cases h3
  · rename_i hd
    rw [if_neg hd]
    simp only [tail2, tail3, Option.bind_eq_some_iff] at h3 ⊢
    obtain ⟨⟨ks, r3⟩, h4, ⟨d, r4⟩, h5, h6⟩ := h3
    refine ⟨(ks, r3 ++ t), decL_more h4 t, (d, r4 ++ t), num_more h5 t, ?_⟩
    split at h6
    · cases h6
    · rename_i hd2
      rw [if_neg hd2]
      simp only [Option.bind_eq_some_iff] at h6 ⊢
      obtain ⟨⟨e, r5⟩, h7, ⟨g, r6⟩, h8, ⟨is, r7⟩, h9, h10⟩ := h6
      simp only [Option.some.injEq, Prod.mk.injEq] at h10
      exact ⟨(e, r5 ++ t), num_more h7 t, (g, r6 ++ t), num_more h8 t, (is, r7 ++ t), decIs_more h9 t, by simp [h10.1, h10.2]⟩
theorem decFs_more {n : Nat} {r s : List Int} {fs : List FuncD} (h : decFs n r = some (fs, s)) (t : List Int) : decFs n (r ++ t) = some (fs, s ++ t) := by
  induction n generalizing r fs s with
  | zero => simp only [decFs, Option.some.injEq, Prod.mk.injEq] at h ⊢; obtain ⟨rfl, rfl⟩ := h; exact ⟨rfl, rfl⟩
  | succ n ih =>
    simp only [decFs, Option.bind_eq_some_iff] at h ⊢
    obtain ⟨⟨v, r1⟩, h1, ⟨is', r2⟩, h3, h4⟩ := h
    simp only [Option.some.injEq, Prod.mk.injEq] at h4
    exact ⟨(v, r1 ++ t), decF_more h1 t, (is', r2 ++ t), ih h3, by simp [h4.1, h4.2]⟩
/-- a program's bytes with others behind them -/
def decR (r : List Int) : Option (List FuncD × List Int) := (num 2 r).bind fun a => (num 1 a.2).bind fun b => if headBad a.1 b.1 then none else decFs b.1.toNat b.2
theorem decP_decR (r : List Int) : decP r = (decR r).bind endP := by
  unfold decP decR
  cases num 2 r with
  | none => rfl
  | some a =>
    simp only [Option.bind_some]
    cases num 1 a.2 with
    | none => rfl
    | some b =>
      simp only [Option.bind_some]
      split <;> rfl
theorem decR_more {r s : List Int} {fs : List FuncD} (h : decR r = some (fs, s)) (t : List Int) : decR (r ++ t) = some (fs, s ++ t) := by
  simp only [decR, Option.bind_eq_some_iff] at h ⊢
  obtain ⟨⟨a, r1⟩, h1, ⟨b, r2⟩, h2, h3⟩ := h
  refine ⟨(a, r1 ++ t), num_more h1 t, (b, r2 ++ t), num_more h2 t, ?_⟩
  split at h3
  · cases h3
  · rename_i hd
    rw [if_neg hd]
    exact decFs_more h3 t
theorem decP_iff {r : List Int} {fs : List FuncD} : decP r = some fs ↔ decR r = some (fs, []) := by
  rw [decP_decR]
  simp only [Option.bind_eq_some_iff, endP]
  constructor
  · rintro ⟨⟨fs', s⟩, h1, h2⟩
    split at h2
    · cases h2
    · rename_i hd
      simp only [decide_eq_true_eq, Nat.not_lt, Nat.le_zero, List.length_eq_zero_iff] at hd
      simp only [Option.some.injEq] at h2
      rw [h1, h2, hd]
  · intro h
    exact ⟨_, h, by simp⟩
/-- with bytes behind -/
theorem decP_more {r : List Int} {fs : List FuncD} (h : decP r = some fs) (t : List Int) (ht : t ≠ []) : decP (r ++ t) = none := by
  have h1 := decR_more (decP_iff.1 h) t
  rw [decP_decR, h1]
  simp only [Option.bind_some, List.nil_append, endP]
  rw [if_pos (by simpa using List.length_pos_iff.2 ht)]
/-- cut off -/
theorem decP_cut {r t : List Int} {fs : List FuncD} (h : decP (r ++ t) = some fs) (ht : t ≠ []) : decP r = none := by
  cases h0 : decP r with
  | none => rfl
  | some gs => rw [decP_more h0 t ht] at h; cases h

theorem decL_put (ks s : List Int) (h : ∀ k ∈ ks, 0 ≤ k ∧ k ≤ 1) : decL ks.length (ks ++ s) = some (ks, s) := by
  induction ks with
  | nil => rfl
  | cons k r ih =>
    have hk := h k List.mem_cons_self
    rw [List.length_cons, List.cons_append, decL, num_one k _ hk.1 (by omega), Option.bind_some]
    simp only
    rw [if_neg (by simp; omega), ih fun x hx => h x (List.mem_cons_of_mem _ hx)]
    rfl
theorem u64Of_eq (a : Int) (h0 : 0 ≤ a) (h1 : a < 18446744073709551616) : u64Of a = a := by unfold u64Of; rw [IntKind.wrap_u64]; omega
theorem decI_put (i : InstrD) (s : List Int) (hw : i.Wf) (h : okI i = true) : decI (encI i ++ s) = some (i, s) := by
  obtain ⟨op, arg, imm⟩ := i
  have h0 := hw.op0
  have h1 := hw.op1
  have h2 := hw.imm
  unfold okI at h
  unfold encI
  simp only [decide_eq_true_eq] at h h0 h1 h2 ⊢
  obtain ⟨hw0, hc⟩ := h
  rw [List.cons_append, decI, num_one op _ h0 (by omega), Option.bind_some]
  simp only
  rw [if_neg (by simp; omega)]
  rcases hc with ⟨h8, rfl⟩ | ⟨h8, rfl, ha0, ha1⟩
  · unfold U64 at h2
    rw [if_pos h8, if_pos h8, num_put 8 imm s h2.1 (by have := h2.2; simpa using this)]
    rfl
  · rw [if_neg h8, if_neg h8]
    have hc := width_cases op
    have hu : u64Of arg = arg := by
      refine u64Of_eq arg ha0 ?_
      rcases hc with e | e | e | e | e <;> rw [e] at ha1 <;> simp at ha1 <;> omega
    rw [hu, num_put _ arg s ha0 (by rw [pow256]; exact ha1)]
    rfl
theorem decIs_put (is : List InstrD) (s : List Int) (hw : ∀ i ∈ is, i.Wf) (h : ∀ i ∈ is, okI i = true) : decIs is.length (is.flatMap encI ++ s) = some (is, s) := by
  induction is with
  | nil => rfl
  | cons i r ih =>
    rw [List.length_cons, List.flatMap_cons, List.append_assoc, decIs, decI_put i _ (hw i List.mem_cons_self) (h i List.mem_cons_self), Option.bind_some]
    simp only
    rw [ih (fun x hx => hw x (List.mem_cons_of_mem _ hx)) fun x hx => h x (List.mem_cons_of_mem _ hx)]
    rfl
theorem okF_parts {f : FuncD} (h : okF f = true) : (0 ≤ f.params ∧ f.params ≤ f.locals.length ∧ f.locals.length ≤ 255 ∧ -1 ≤ f.keep ∧ f.keep ≤ 254 ∧ f.code.length ≤ 65535) ∧ (∀ k ∈ f.locals, k ≤ 1) ∧ ∀ i ∈ f.code, okI i = true := by
  unfold okF headOk at h
  simp only [Bool.and_eq_true, decide_eq_true_eq, List.all_eq_true] at h
  exact ⟨h.1.1, h.1.2, h.2⟩
theorem keepOf_byte (k : Int) (h0 : -1 ≤ k) (h1 : k ≤ 254) : 0 ≤ byteOf k ∧ byteOf k < 256 ∧ keepOf (byteOf k) = k := by
  unfold byteOf keepOf
  rw [IntKind.wrap_u8']
  refine ⟨by omega, by omega, ?_⟩
  split <;> omega
theorem decF_put (f : FuncD) (s : List Int) (hw : f.Wf) (h : okF f = true) : decF (encF f ++ s) = some (f, s) := by
  obtain ⟨⟨h0, h1, h2, h3, h4, h5⟩, h6, h7⟩ := okF_parts h
  have hl := hw.locals
  have hc := hw.code
  obtain ⟨params, locals, result, keep, code⟩ := f
  simp only at *
  obtain ⟨k0, k1, k2⟩ := keepOf_byte keep h3 h4
  have e : encF ⟨params, locals, result, keep, code⟩ ++ s = params :: (locals.length : Int) :: (locals ++ ((if result then 1 else 0) :: byteOf keep :: (bytesLE 2 code.length ++ (code.flatMap encI ++ s)))) := by
    simp [encF, encHead]
  rw [e, decF, num_one params _ h0 (by omega), Option.bind_some]
  simp only
  rw [num_one _ _ (by omega) (by omega), Option.bind_some]
  simp only
  rw [if_neg (by simp; omega), Int.toNat_natCast, decL_put locals _ fun k hk => ⟨(hl k hk).1, h6 k hk⟩, Option.bind_some, tail2]
  simp only
  rw [num_one (if result then 1 else 0) _ (by cases result <;> simp) (by cases result <;> simp), Option.bind_some]
  simp only
  rw [if_neg (by cases result <;> simp), num_one _ _ k0 k1, Option.bind_some]
  simp only
  rw [num_put 2 _ _ (by omega) (by simp; omega), Option.bind_some, tail3]
  simp only
  rw [Int.toNat_natCast, decIs_put code s hc h7, Option.bind_some]
  simp only [k2]
  cases result <;> rfl
theorem decFs_put (fs : List FuncD) (s : List Int) (hw : ∀ f ∈ fs, f.Wf) (h : ∀ f ∈ fs, okF f = true) : decFs fs.length (fs.flatMap encF ++ s) = some (fs, s) := by
  induction fs with
  | nil => rfl
  | cons i r ih =>
    rw [List.length_cons, List.flatMap_cons, List.append_assoc, decFs, decF_put i _ (hw i List.mem_cons_self) (h i List.mem_cons_self), Option.bind_some]
    simp only
    rw [ih (fun x hx => hw x (List.mem_cons_of_mem _ hx)) fun x hx => h x (List.mem_cons_of_mem _ hx)]
    rfl
theorem okP_parts {fs : List FuncD} (h : okP fs = true) : 1 ≤ fs.length ∧ fs.length ≤ 255 ∧ ∀ f ∈ fs, okF f = true := by
  unfold okP at h
  simp only [Bool.and_eq_true, decide_eq_true_eq, List.all_eq_true] at h
  exact ⟨h.1.1, h.1.2, h.2⟩
/-- what is written is read again -/
theorem decP_put (fs : List FuncD) (hw : ∀ f ∈ fs, f.Wf) (h : okP fs = true) : decP (encP fs) = some fs := by
  obtain ⟨h1, h2, h3⟩ := okP_parts h
  rw [decP_iff, decR, encP]
  have e : [87, 76, (fs.length : Int)] ++ fs.flatMap encF = bytesLE 2 19543 ++ ((fs.length : Int) :: (fs.flatMap encF ++ [])) := by
    rw [show bytesLE 2 19543 = [87, 76] from rfl]; simp
  rw [e, num_put 2 19543 _ (by omega) (by simp), Option.bind_some]
  simp only
  rw [num_one _ _ (by omega) (by omega), Option.bind_some]
  simp only
  rw [if_neg (by unfold headBad; simp; intro hh; rw [hh] at h1; simp at h1), Int.toNat_natCast, decFs_put fs [] hw h3]

theorem decL_get {n : Nat} {r ks s : List Int} (hb : ∀ x ∈ r, Byte x) (h : decL n r = some (ks, s)) : r = ks ++ s ∧ ks.length = n ∧ (∀ k ∈ ks, 0 ≤ k ∧ k ≤ 1) ∧ ∀ x ∈ s, Byte x := by
  induction n generalizing r ks s with
  | zero => simp only [decL, Option.some.injEq, Prod.mk.injEq] at h; obtain ⟨rfl, rfl⟩ := h; exact ⟨rfl, rfl, by simp, hb⟩
  | succ n ih =>
    simp only [decL, Option.bind_eq_some_iff] at h
    obtain ⟨⟨v, r1⟩, h1, h2⟩ := h
    obtain ⟨rfl, v0, v1, hb1⟩ := num_get1 hb h1
    split at h2
    · cases h2
    · rename_i hd
      simp only [decide_eq_true_eq] at hd
      simp only [Option.bind_eq_some_iff] at h2
      obtain ⟨⟨ks', r2⟩, h3, h4⟩ := h2
      simp only [Option.some.injEq, Prod.mk.injEq] at h4
      obtain ⟨rfl, rfl⟩ := h4
      obtain ⟨rfl, hl, hk, hb2⟩ := ih hb1 h3
      refine ⟨rfl, by simp [hl], fun k hk' => ?_, hb2⟩
      rcases List.mem_cons.1 hk' with rfl | hk'
      · omega
      · exact hk k hk'
theorem decI_get {r s : List Int} {i : InstrD} (hb : ∀ x ∈ r, Byte x) (h : decI r = some (i, s)) : r = encI i ++ s ∧ okI i = true ∧ i.Wf ∧ ∀ x ∈ s, Byte x := by
  simp only [decI, Option.bind_eq_some_iff] at h
  obtain ⟨⟨v, r1⟩, h1, h2⟩ := h
  obtain ⟨rfl, v0, v1, hb1⟩ := num_get1 hb h1
  split at h2
  · cases h2
  · rename_i hd
    simp only [decide_eq_true_eq] at hd
    split at h2
    · rename_i h8
      simp only [Option.bind_eq_some_iff] at h2
      obtain ⟨⟨q, r2⟩, h3, h4⟩ := h2
      simp only [Option.some.injEq, Prod.mk.injEq] at h4
      obtain ⟨rfl, rfl⟩ := h4
      obtain ⟨rfl, q0, q1, hb2⟩ := num_get hb1 h3
      have q1' : q < 18446744073709551616 := by simpa using q1
      simp only at h8 hd
      refine ⟨?_, ?_, wf_of v0 (by omega) (by omega) (by omega) q0 q1', hb2⟩
      · unfold encI; simp only; rw [if_pos h8]; rfl
      · unfold okI; simp only [decide_eq_true_eq]; exact ⟨by omega, .inl ⟨h8, trivial⟩⟩
    · rename_i h8
      simp only [Option.bind_eq_some_iff] at h2
      obtain ⟨⟨q, r2⟩, h3, h4⟩ := h2
      simp only [Option.some.injEq, Prod.mk.injEq] at h4
      obtain ⟨rfl, rfl⟩ := h4
      obtain ⟨rfl, q0, q1, hb2⟩ := num_get hb1 h3
      simp only at h8 hd
      have hc := width_cases v
      have q2 : q < 65536 := by
        rcases hc with e | e | e | e | e <;> rw [e] at q1 <;> simp at q1 <;> omega
      refine ⟨?_, ?_, wf_of v0 (by omega) (by omega) (by omega) (by omega) (by omega), hb2⟩
      · unfold encI; simp only; rw [if_neg h8, u64Of_eq q q0 (by omega)]; rfl
      · unfold okI; simp only [decide_eq_true_eq]; exact ⟨by omega, .inr ⟨h8, trivial, q0, by rw [← pow256]; exact q1⟩⟩
theorem decIs_get {n : Nat} {r s : List Int} {is : List InstrD} (hb : ∀ x ∈ r, Byte x) (h : decIs n r = some (is, s)) : r = is.flatMap encI ++ s ∧ is.length = n ∧ (∀ i ∈ is, okI i = true ∧ i.Wf) ∧ ∀ x ∈ s, Byte x := by
  induction n generalizing r is s with
  | zero => simp only [decIs, Option.some.injEq, Prod.mk.injEq] at h; obtain ⟨rfl, rfl⟩ := h; exact ⟨rfl, rfl, by simp, hb⟩
  | succ n ih =>
    simp only [decIs, Option.bind_eq_some_iff] at h
    obtain ⟨⟨v, r1⟩, h1, ⟨is', r2⟩, h3, h4⟩ := h
    simp only [Option.some.injEq, Prod.mk.injEq] at h4
    obtain ⟨rfl, rfl⟩ := h4
    obtain ⟨rfl, a1, a2, hb1⟩ := decI_get hb h1
    obtain ⟨rfl, hl, hk, hb2⟩ := ih hb1 h3
    refine ⟨by simp, by simp [hl], fun k hk' => ?_, hb2⟩
    rcases List.mem_cons.1 hk' with rfl | hk'
    · exact ⟨a1, a2⟩
    · exact hk k hk'
theorem byteOf_keep (v : Int) (h0 : 0 ≤ v) (h1 : v < 256) : byteOf (keepOf v) = v ∧ -1 ≤ keepOf v ∧ keepOf v ≤ 254 := by
  unfold byteOf keepOf
  rw [IntKind.wrap_u8']
  split <;> omega
theorem decF_get {r s : List Int} {f : FuncD} (hb : ∀ x ∈ r, Byte x) (h : decF r = some (f, s)) : r = encF f ++ s ∧ okF f = true ∧ f.Wf ∧ ∀ x ∈ s, Byte x := by
  simp only [decF, Option.bind_eq_some_iff] at h
  obtain ⟨⟨a, r1⟩, h1, ⟨b, r2⟩, h2, h3⟩ := h
  obtain ⟨rfl, a0, a1, hb1⟩ := num_get1 hb h1
  obtain ⟨rfl, b0, b1, hb2⟩ := num_get1 hb1 h2
  split at h3
  · cases h3
  · rename_i hd
    simp only [decide_eq_true_eq] at hd
    simp only [tail2, tail3, Option.bind_eq_some_iff] at h3
    obtain ⟨⟨ks, r3⟩, h4, ⟨d, r4⟩, h5, h6⟩ := h3
    obtain ⟨rfl, kl, kk, hb3⟩ := decL_get hb2 h4
    obtain ⟨rfl, d0, d1, hb4⟩ := num_get1 hb3 h5
    split at h6
    · cases h6
    · rename_i hd2
      simp only [decide_eq_true_eq] at hd2
      simp only [Option.bind_eq_some_iff] at h6
      obtain ⟨⟨e, r5⟩, h7, ⟨g, r6⟩, h8, ⟨is, r7⟩, h9, h10⟩ := h6
      simp only [Option.some.injEq, Prod.mk.injEq] at h10
      obtain ⟨rfl, rfl⟩ := h10
      obtain ⟨rfl, e0, e1, hb5⟩ := num_get1 hb4 h7
      obtain ⟨rfl, g0, g1, hb6⟩ := num_get hb5 h8
      obtain ⟨rfl, il, ik, hb7⟩ := decIs_get hb6 h9
      have g1' : g < 65536 := by simpa using g1
      obtain ⟨c1, c2, c3⟩ := byteOf_keep e e0 e1
      simp only at hd hd2 kl il
      have hkl : (ks.length : Int) = b := by omega
      have hil : (is.length : Int) = g := by omega
      have hde : (if (d == 1) = true then (1 : Int) else 0) = d := by
        by_cases hh : d = 1
        · simp [hh]
        · have : d = 0 := by omega
          simp [this]
      refine ⟨?_, ?_, ⟨by unfold I64; simp only; omega, fun k hk => by have := kk k hk; omega, by unfold I64; simp only; omega, fun i hi => (ik i hi).2⟩, hb7⟩
      · simp only [encF, encHead, hkl, hil, c1, hde]; simp
      · unfold okF headOk
        simp only [Bool.and_eq_true, decide_eq_true_eq, List.all_eq_true]
        exact ⟨⟨by omega, fun k hk => (kk k hk).2⟩, fun i hi => (ik i hi).1⟩
theorem decFs_get {n : Nat} {r s : List Int} {fs : List FuncD} (hb : ∀ x ∈ r, Byte x) (h : decFs n r = some (fs, s)) : r = fs.flatMap encF ++ s ∧ fs.length = n ∧ (∀ f ∈ fs, okF f = true ∧ f.Wf) ∧ ∀ x ∈ s, Byte x := by
  induction n generalizing r fs s with
  | zero => simp only [decFs, Option.some.injEq, Prod.mk.injEq] at h; obtain ⟨rfl, rfl⟩ := h; exact ⟨rfl, rfl, by simp, hb⟩
  | succ n ih =>
    simp only [decFs, Option.bind_eq_some_iff] at h
    obtain ⟨⟨v, r1⟩, h1, ⟨fs', r2⟩, h3, h4⟩ := h
    simp only [Option.some.injEq, Prod.mk.injEq] at h4
    obtain ⟨rfl, rfl⟩ := h4
    obtain ⟨rfl, a1, a2, hb1⟩ := decF_get hb h1
    obtain ⟨rfl, hl, hk, hb2⟩ := ih hb1 h3
    refine ⟨by simp, by simp [hl], fun k hk' => ?_, hb2⟩
    rcases List.mem_cons.1 hk' with rfl | hk'
    · exact ⟨a1, a2⟩
    · exact hk k hk'
/-- what is read is written so again -/
theorem decP_get {r : List Int} {fs : List FuncD} (hb : ∀ x ∈ r, Byte x) (h : decP r = some fs) : r = encP fs ∧ okP fs = true ∧ ∀ f ∈ fs, f.Wf := by
  rw [decP_iff, decR] at h
  simp only [Option.bind_eq_some_iff] at h
  obtain ⟨⟨a, r1⟩, h1, ⟨b, r2⟩, h2, h3⟩ := h
  obtain ⟨rfl, a0, a1, hb1⟩ := num_get hb h1
  obtain ⟨rfl, b0, b1, hb2⟩ := num_get1 hb1 h2
  split at h3
  · cases h3
  · rename_i hd
    simp only [headBad, Bool.or_eq_true, decide_eq_true_eq, not_or, Decidable.not_not] at hd
    obtain ⟨rfl, hb0⟩ := hd
    obtain ⟨rfl, fl, fk, _⟩ := decFs_get hb2 h3
    simp only at fl
    have hfl : (fs.length : Int) = b := by omega
    refine ⟨?_, ?_, fun f hf => (fk f hf).2⟩
    · rw [encP, hfl, show bytesLE 2 19543 = [87, 76] from rfl]; simp
    · unfold okP
      simp only [Bool.and_eq_true, decide_eq_true_eq, List.all_eq_true]
      exact ⟨by omega, fun f hf => (fk f hf).1⟩
theorem encI_byte (i : InstrD) (hw : i.Wf) : ∀ x ∈ encI i, Byte x := by
  intro x hx
  unfold encI at hx
  rcases List.mem_cons.1 hx with rfl | hx
  · exact ⟨hw.op0, by have := hw.op1; omega⟩
  · split at hx
    · exact bytesLE_bd _ _ x hx
    · exact bytesLE_bd _ _ x hx
theorem encF_byte (f : FuncD) (hw : f.Wf) (h : okF f = true) : ∀ x ∈ encF f, Byte x := by
  obtain ⟨⟨h0, h1, h2, h3, h4, h5⟩, _, _⟩ := okF_parts h
  intro x hx
  unfold encF encHead at hx
  simp only [List.mem_append, List.mem_cons, List.not_mem_nil, or_false, List.mem_flatMap] at hx
  rcases hx with ((((rfl | rfl) | hx) | rfl | rfl) | hx) | ⟨i, hi, hx⟩
  · exact ⟨h0, by omega⟩
  · exact ⟨by omega, by omega⟩
  · have := hw.locals x hx; exact ⟨this.1, by omega⟩
  · split <;> exact ⟨by omega, by omega⟩
  · have := keepOf_byte f.keep h3 h4; exact ⟨this.1, this.2.1⟩
  · exact bytesLE_bd _ _ x hx
  · exact encI_byte i (hw.code i hi) x hx
theorem encP_byte (fs : List FuncD) (hw : ∀ f ∈ fs, f.Wf) (h : okP fs = true) : ∀ x ∈ encP fs, Byte x := by
  obtain ⟨h1, h2, h3⟩ := okP_parts h
  intro x hx
  unfold encP at hx
  simp only [List.mem_append, List.mem_cons, List.not_mem_nil, or_false, List.mem_flatMap] at hx
  rcases hx with (rfl | rfl | rfl) | ⟨f, hf, hx⟩
  · exact ⟨by omega, by omega⟩
  · exact ⟨by omega, by omega⟩
  · exact ⟨by omega, by omega⟩
  · exact encF_byte f (hw f hf) (h3 f hf) x hx
theorem encP_len (fs : List FuncD) (h : okP fs = true) : 0 < (encP fs).length ∧ (encP fs).length ≤ 160000000 := by
  obtain ⟨h1, h2, h3⟩ := okP_parts h
  have := encFs_le fs h3
  unfold encP
  simp only [List.length_append, List.length_cons, List.length_nil]
  omega
end Go.Proofs.Ytcaefdfdngecdaa
