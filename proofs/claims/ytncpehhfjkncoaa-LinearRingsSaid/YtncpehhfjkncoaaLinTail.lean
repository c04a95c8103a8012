/- The back part of a row of numbers of the call's own, and append onto it. No condition. -/
import Derived.Test.YtncpehhfjkncoaaWords2
set_option linter.unusedVariables false
set_option linter.unusedSimpArgs false
namespace Go.Proofs.Ytncpehhfjkncoaa
open Go.RowKit

/-- v is the back part of a row of the call's own; it holds xs -/
def Tail (w : World) (base : Nat) (e : TypeId) (v : Value) (xs : List Value) : Prop :=
  ∃ (dead : List Value) (g k n c C : Nat), v = .slice (some ⟨g, k, none⟩) n c ∧ w.ownsRow base e 1 (.slice (some ⟨g, 0, none⟩) (k + n) C) (k + n) (dead ++ xs) ∧ dead.length = k ∧ xs.length = n ∧ n ≤ c ∧ k + c ≤ C
section
variable {w w' : World} {base : Nat} {e : TypeId} {v : Value} {xs : List Value}
theorem Tail.of_own {g n c : Nat} (h : w.ownsRow base e 1 (.slice (some ⟨g, 0, none⟩) n c) n xs) : Tail w base e (.slice (some ⟨g, 0, none⟩) n c) xs := by
  have hl := h.1
  have hc : n ≤ c := by
    rcases h.2 with ⟨h0, _⟩ | ⟨g', cap, cur, hv, _, _, h1, _⟩
    · cases h0
    · injection hv with _ _ hv; omega
  exact ⟨[], g, 0, n, c, c, rfl, by simpa using h, rfl, by simpa using hl, hc, by omega⟩
theorem Tail.form (h : Tail w base e v xs) : ∃ A c, v = .slice A xs.length c ∧ xs.length ≤ c ∧ c ≤ maxLen ∧ Reads w w.heap.size 1 A xs.length xs := by
  obtain ⟨dead, g, k, n, c, C, rfl, h, hd, hx, hc, hC⟩ := h
  subst hx
  have hR := Reads.of_own h
  have hm : C ≤ maxLen := by
    rcases h.2 with ⟨h0, _⟩ | ⟨g', cap, cur, hv, _, _, _, h1, _⟩
    · cases h0
    · injection hv with _ _ hv; omega
  refine ⟨_, c, rfl, hc, by omega, ⟨by omega, fun hn => ?_⟩⟩
  obtain ⟨ad, hA, hb, hcell⟩ := hR.2 (by omega)
  injection hA with hA
  subst hA
  refine ⟨_, rfl, hb, fun j u hu => ?_⟩
  have := hcell (k + j) u (by rw [List.getElem?_append_right (by omega), hd, Nat.add_sub_cancel_left]; exact hu)
  rw [Addr.add_lit, Nat.zero_add] at this
  rw [Addr.add_lit]
  exact this
theorem Tail.block (h : Tail w base e v xs) : ∃ g, v.ownBlock = some g ∧ base ≤ g ∧ g < w.heap.size := by
  obtain ⟨dead, g, k, n, c, C, rfl, h, _⟩ := h
  exact ⟨g, rfl, h.lt g rfl⟩
theorem Tail.kept {row : Option Nat} (h : Tail w base e v xs) (hg : w.grownBy w' row) (hne : v.ownBlock ≠ row) : Tail w' base e v xs := by
  obtain ⟨dead, g, k, n, c, C, rfl, h, h1⟩ := h
  exact ⟨dead, g, k, n, c, C, rfl, h.kept hg (.inr hne), h1⟩
theorem Tail.alloc (h : Tail w base e v xs) (o : Obj) : Tail (w.alloc o) base e v xs := by
  obtain ⟨g, hg, _⟩ := h.block
  exact h.kept (World.grownBy_alloc w o none) (by rw [hg]; nofun)
/-- the first one is taken away -/
theorem Tail.rest {x : Value} {A : Option Addr} {n c : Nat} (h : Tail w base e (.slice A n c) (x :: xs)) : Tail w base e (.slice (if c = 1 then A else A.map (·.add 1)) (n - 1) (c - 1)) xs := by
  obtain ⟨dead, g, k, n', c', C, hv, h, hd, hx, hc, hC⟩ := h
  injection hv with h1 h2 h3
  subst h1 h2 h3
  simp only [List.length_cons] at hx
  by_cases hc1 : c = 1
  · rw [if_pos hc1]
    have hn : n = 1 := by omega
    have hxs : xs = [] := List.eq_nil_of_length_eq_zero (by omega)
    subst hxs hn
    -- the row as it was cut at the front: its last one is dead
    refine ⟨dead, g, k, 0, 0, C, by rw [hc1], ?_, hd, rfl, Nat.le_refl _, by omega⟩
    rcases h.2 with ⟨h0, _⟩ | ⟨g', cap, cur, hv, hb, hh, k1, k2, k3, k4⟩
    · cases h0
    · injection hv with hv1 _ hv3
      injection hv1 with hv1
      injection hv1 with hv1
      subst hv1 hv3
      refine ⟨by simp [hd], .inr ⟨g, C, cur, rfl, hb, hh, by omega, k2, k3, ?_⟩⟩
      have := congrArg (List.take k) k4
      rw [List.take_take, List.take_left' hd] at this
      rw [List.append_nil, ← this]
      congr 1
      omega
  · rw [if_neg hc1]
    refine ⟨dead ++ [x], g, k + 1, n - 1, c - 1, C, ?_, ?_, by simp [hd], by omega, by omega, by omega⟩
    · simp [Addr.add]
    · rw [List.append_assoc, List.singleton_append, show k + 1 + (n - 1) = k + n by omega]; exact h
end
section
variable {P : Program} (w : World)
theorem run_append_tail (base : Nat) (t ty e : TypeId) (i : TypeInfo) (z : Value) (bytes : Nat) (ht : P.underlying t = some (.slice e)) (hi : P.info? e = some i) (hz : i.zero = some z)
    (hsize : i.size = 1) (hby : i.bytes = bytes) (hzs : z.cells.size = 1) (v : Value) (xs : List Value) (hown : Tail w base e v xs)
    (a : Addr) (c0 : Nat) (u : Value) (hu : w.cell? a = some u) (h1 : u.oneCell' = true) (h63 : xs.length + 1 ≤ maxLen) (hbytes : (xs.length + 1) * bytes ≤ 140737488355328) (hbase : base ≤ w.heap.size) :
    ∃ v' w', (Builtin.append_ #[t, t] ty #[v, .slice (some a) 1 c0]).run P w = .ok v' w' ∧ Tail w' base e v' (xs ++ [u]) ∧ w.grownBy w' v.ownBlock ∧ (v'.ownBlock = v.ownBlock ∨ v'.ownBlock = some w.heap.size) := by
  obtain ⟨dead, g, k, n, c, C, rfl, h, hd, hx, hc, hC⟩ := hown
  subst hby
  have hnews : ∀ j v, [u][j]? = some v → w.cell? (a.add j) = some v := fun j v hv => by
    match j, hv with
    | 0, hv => simp at hv; subst hv; simpa [Addr.add] using hu
  by_cases hroom : n + 1 ≤ c
  · rcases h.2 with ⟨h0, _⟩ | ⟨g', cap, cur, hv, hb, hh, k1, k2, k3, k4⟩
    · cases h0
    · injection hv with hv1 _ hv3
      injection hv1 with hv1
      injection hv1 with hv1
      subst hv1 hv3
      have hf := run_firstCells_some (P := P) w i.size 1 a 1 c0 [u] (by simp [hsize]) hnews
      have hst := run_storeCells_at P g (k + n) e [u] 0 cur w hh (by simp [k3]; omega) (by simpa using h1)
      simp only [Nat.add_zero] at hst
      rw [hsize] at hf
      refine ⟨.slice (some ⟨g, k, none⟩) (n + 1) c, w.setRow g (cur.toList.take (k + n) ++ [u] ++ cur.toList.drop (k + n + 1)).toArray, ?_, ⟨dead, g, k, n + 1, c, C, rfl, ⟨by simp only [List.length_append, List.length_singleton, hd, hx]; omega, .inr ⟨g, C, _, rfl, hb, setRow_heap w g cur (cur.toList.take (k + n) ++ [u] ++ cur.toList.drop (k + n + 1)).toArray e _ hh, by omega, k2, ?_, ?_⟩⟩, hd, by simp [hx], hroom, hC⟩, ⟨rfl, rfl, rfl, by simp, fun j _ hj => setRow_other w g j (cur.toList.take (k + n) ++ [u] ++ cur.toList.drop (k + n + 1)).toArray (fun e => hj (by simp [Value.ownBlock, e]))⟩, .inl rfl⟩
      · simp [Builtin.append_, run_underlying ht, sizeOf, typeInfo, hi, Builtin.lenOf, hroom, hf, Addr.add_lit, hsize]
        have hst' : (storeCells ⟨g, k + n, none⟩ [u]).run P w = .ok () (w.setRow g (List.take (k + n) cur.toList ++ u :: List.drop (k + n + 1) cur.toList).toArray) := by simpa using hst
        rw [hst']
        rfl
      · simp only [List.size_toArray, List.length_append, List.length_take, List.length_drop, Array.length_toList, k3, List.length_singleton]
        omega
      · rw [Nat.mul_one] at k4 ⊢
        rw [List.toList_toArray, k4, show k + (n + 1) = (dead ++ xs ++ [u]).length by simp only [List.length_append, List.length_singleton, hd, hx]; omega, List.append_assoc dead xs [u]] 
        exact List.take_left
  · have holds : ∀ j v, xs[j]? = some v → w.cell? ((⟨g, k, none⟩ : Addr).add j) = some v := fun j v hv => by
      obtain ⟨A, c', e', _, _, hR⟩ := Tail.form ⟨dead, g, k, n, c, C, rfl, h, hd, hx, hc, hC⟩
      injection e' with e1 e2 e3
      obtain ⟨ad, hA, _, hcell⟩ := hR.2 (by have := (List.getElem?_eq_some_iff.1 hv).1; omega)
      rw [← e1] at hA
      injection hA with hA
      subst hA
      exact hcell j v hv
    subst hx
    have hr := run_append_grow (P := P) w t ty e i z ht hi hz ⟨g, k, none⟩ xs.length c xs (by simp [hsize]) holds a 1 c0 [u] (by simp [hsize]) hnews (by omega) (by simp only [maxLen] at h63; omega) (growslice_fits (by omega) hbytes)
    have hge := grownCap_ge w (xs.length + 1) c e
    have hcm : grownCap w (xs.length + 1) c e ≤ maxLen := grownCap_le_maxLen w (xs.length + 1) c e h63
    refine ⟨_, _, hr, Tail.of_own ⟨by simp, .inr ⟨w.heap.size, _, _, rfl, hbase, heap_alloc_new w.drew _, hge, hcm, ?_, ?_⟩⟩, ⟨rfl, rfl, rfl, by simp, fun j hj _ => heap_alloc_old w.drew _ j hj⟩, .inr rfl⟩
    · simp only [Array.size_append, List.size_toArray, size_zeroCells, hzs, List.length_singleton]
      omega
    · simp only [Array.toList_append, List.append_assoc, Nat.mul_one]
      rw [← List.append_assoc, show xs.length + 1 = (xs ++ [u]).length by simp]
      exact List.take_left
theorem step_append_tail {ops : Array Oper} {o : Oper} {a : Act} {K : Act → World → Prop} {Q : Exit → Act → World → Prop} {E : Prop} (hgd : o.guard = none) (s x : Operand) (t : TypeId)
    (ho : o.op = .call { callee := .builtin .append, args := #[s, x], argTypes := #[t, t] })
    (base : Nat) (e : TypeId) (i : TypeInfo) (z : Value) (bytes : Nat) (ht : P.underlying t = some (.slice e)) (hi : P.info? e = some i) (hz : i.zero = some z)
    (hsize : i.size = 1) (hby : i.bytes = bytes) (hzs : z.cells.size = 1) (v : Value) (xs : List Value) (hs : a.eval s = v) (hown : Tail w base e v xs)
    (ad : Addr) (c0 : Nat) (u : Value) (hx : a.eval x = .slice (some ad) 1 c0) (hu : w.cell? ad = some u) (h1 : u.oneCell' = true) (h63 : xs.length + 1 ≤ maxLen) (hbytes : (xs.length + 1) * bytes ≤ 140737488355328) (hbase : base ≤ w.heap.size)
    (h : ∀ v' w', Tail w' base e v' (xs ++ [u]) → w.grownBy w' v.ownBlock → (v'.ownBlock = v.ownBlock ∨ v'.ownBlock = some w.heap.size) → K (a.put o.dst v') w') :
    if Region.wanted o (yielded ops a.tmps) = true then Oper.wp P o a w K Q else E := by
  obtain ⟨v', w', hrun, h2, h3, h4⟩ := run_append_tail (P := P) w base t o.type e i z bytes ht hi hz hsize hby hzs v xs hown ad c0 u hu h1 h63 hbytes hbase
  rw [if_pos (by simp [Region.wanted, hgd])]
  unfold Oper.wp execOp
  simp only [ho, resolve, invoke, builtin, Sem.run_bind, Sem.run_pure, Result.andThen_ok, List.map_toArray, List.map_cons, List.map_nil, hs, hx, hrun]
  exact h v' w' h2 h3 h4
end
end Go.Proofs.Ytncpehhfjkncoaa
