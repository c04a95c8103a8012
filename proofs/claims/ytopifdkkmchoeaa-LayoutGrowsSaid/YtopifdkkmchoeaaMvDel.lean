/- Walk of slices.Delete at moves, one taken out of a row of the call's own. Conditions: the row is the call's own, the place is in it. -/
import Derived.Test.YtopifdkkmchoeaaMvP
import Derived.WalkKit
import Derived.WalkSpells
import Derived.BigQuiet
import Derived.Deep.CutBlock
import Derived.Deep.DeepMust
import Derived.Deep.DeepCutAuto
import Derived.Deep.RegionLaw
import Derived.Shelf.RegionOpenPlain
import Derived.Lib.SliceRun
set_option linter.unusedVariables false
set_option linter.unusedSimpArgs false
namespace Go.Proofs.Ytopifdkkmchoeaa
open Go.RowKit

theorem infoMv : (Try.prog.info? 26).map (fun i => (i.zero, i.size, i.bytes)) = some (some (.agg #[.int .i64 0, .int .i64 0]), 2, 16) := by kernel_rfl
theorem zeroMv (w : World) : (zeroValue 26).run Try.prog w = .ok (.agg #[.int .i64 0, .int .i64 0]) w := by kernel_rfl
theorem mcells_take (ms : List Mv) (k : Nat) : (mcells ms).take (k * 2) = mcells (ms.take k) := by
  induction ms generalizing k with
  | nil => simp [mcells_nil]
  | cons m r ih =>
    cases k with
    | zero => simp [mcells_nil]
    | succ k => rw [mcells_cons, show (k + 1) * 2 = k * 2 + 1 + 1 by omega, List.take_succ_cons, List.take_succ_cons, ih, List.take_succ_cons, mcells_cons]
theorem mcells_drop (ms : List Mv) (k : Nat) : (mcells ms).drop (k * 2) = mcells (ms.drop k) := by
  induction ms generalizing k with
  | nil => simp [mcells_nil]
  | cons m r ih =>
    cases k with
    | zero => simp
    | succ k => rw [mcells_cons, show (k + 1) * 2 = k * 2 + 1 + 1 by omega, List.drop_succ_cons, List.drop_succ_cons, ih, List.drop_succ_cons]
theorem Blk.setCells {g : Nat} {t : TypeId} : ∀ (vs : List Value) (o : Nat) (w : World) (cs : Array Value), Blk w g t cs → o + vs.length ≤ cs.size → Blk (w.setCells g o vs) g t (cs.toList.take o ++ vs ++ cs.toList.drop (o + vs.length)).toArray
  | [], o, w, cs, h, _ => by simpa [World.setCells] using h
  | v :: r, o, w, cs, h, hl => by
    have hol : o < cs.size := by simp at hl; omega
    have h2 := Blk.setCells r (o + 1) _ _ (h.set_ o v) (by simp at hl ⊢; omega)
    have e : (cs.setIfInBounds o v).toList = cs.toList.set o v := by simp
    rw [e, List.take_add_one, List.getElem?_set_self (by simpa using hol), List.drop_set_of_lt (by omega)] at h2
    have e2 : (cs.toList.set o v).take o = cs.toList.take o := by rw [List.take_set_of_le (by omega)]
    rw [e2] at h2
    have e3 : o + (v :: r).length = o + 1 + r.length := by simp; omega
    rw [e3, show w.setCells g o (v :: r) = (w.setCell ⟨g, o, none⟩ v).setCells g (o + 1) r from rfl]
    simpa using h2
theorem grown_setCells (g : Nat) : ∀ (vs : List Value) (o : Nat) (w : World), w.grownBy (w.setCells g o vs) (some g)
  | [], _, w => World.grownBy.refl w _
  | v :: r, o, w => by
    have h1 := grown_setCell w ⟨g, o, none⟩ v
    have h2 := grown_setCells g r (o + 1) (w.setCell ⟨g, o, none⟩ v)
    exact ⟨h2.os.trans h1.os, h2.tape.trans h1.tape, h2.output.trans h1.output, Nat.le_trans h1.size h2.size, fun k hk hne => (h2.block k (Nat.lt_of_lt_of_le hk h1.size) hne).trans (h1.block k hk hne)⟩
/-- 'clear' of so many moves -/
theorem run_clear_mv (w : World) (ty : TypeId) (b o n c : Nat) (hn : 0 < n) (hc : ∀ j, j < n * 2 → (w.cell? ⟨b, o + j, none⟩).isSome = true) (hf : ∀ j, j < n * 2 → w.frozen? ⟨b, o + j, none⟩ = false) :
    (Builtin.clear_ #[24] ty #[.slice (some ⟨b, o, none⟩) n c]).run Try.prog w = .ok (.tuple #[]) (w.setCells b o (List.replicate (n * 2) (.int .i64 0))) := by
  have hzc : (Builtin.zeroCells (Value.agg #[.int .i64 0, .int .i64 0]).cells n).toList = List.replicate (n * 2) (.int .i64 0) := by
    simp only [Value.cells, Builtin.zeroCells]
    apply List.ext_getElem
    · simp
    · intro i h1 h2
      have : i % 2 = 0 ∨ i % 2 = 1 := by omega
      rcases this with h | h <;> simp [h]
  have hst := run_storeCells_cells (P := Try.prog) b o (List.replicate (n * 2) (.int .i64 0)) 0 w (by simpa using hc) (by simpa using hf) (by intro v hv'; rw [List.eq_of_mem_replicate hv']; rfl)
  simp only [Nat.add_zero] at hst
  obtain ⟨m, rfl⟩ : ∃ m, n = m + 1 := ⟨n - 1, by omega⟩
  simp [Builtin.clear_, run_underlying Try.underlying24, zeroMv, hzc, hst]
theorem ret_slice {A : Option Addr} {n m c : Nat} (h : n = m) : Ending.returned (.slice A n c) = .returned (.slice A m c) := by rw [h]
set_option maxRecDepth 100000 in
set_option maxHeartbeats 2000000 in
theorem delete_any (w : World) (base g n cap i j : Nat) (ms : List Mv) (hown : w.ownsRow base 26 2 (.slice (some ⟨g, 0, none⟩) n cap) n (mcells ms)) (hij : i < j) (hji : j ≤ i + 1) (hj : j ≤ n) :
    Calls Try.prog 21 #[.slice (some ⟨g, 0, none⟩) n cap, .int .i64 i, .int .i64 j] w fun e w' => e = .returned (.slice (some ⟨g, 0, none⟩) (n - 1) cap) ∧ w'.ownsRow base 26 2 (.slice (some ⟨g, 0, none⟩) (n - 1) cap) (n - 1) (mcells (ms.eraseIdx i)) ∧ w.grownBy w' (some g) := by
  obtain ⟨i0, hi0, hz0, hz1, hz2⟩ := info_parts infoMv
  have hlen : ms.length = n := by have := hown.1; rw [mcells_len] at this; omega
  obtain ⟨hl0, h⟩ := hown
  rcases h with ⟨h, _⟩ | ⟨g', cap', cur, hv, hbase, hblk, hnc, hcm, hcs, hcur⟩
  · cases h
  injection hv with hv1 hv2 hv3
  injection hv1 with hv1
  injection hv1 with hv1
  subst hv1 hv3
  unfold maxLen at hcm
  have hB : Blk w g 26 cur := hblk
  obtain ⟨news, hnews⟩ : ∃ news, news = mcells (ms.drop j) := ⟨_, rfl⟩
  have hnl : news.length = (n - j) * 2 := by rw [hnews, mcells_len, List.length_drop, hlen]
  have hsz : n * 2 ≤ cur.size := by omega
  have hcell : ∀ k u, (mcells ms)[k]? = some u → w.cell? ⟨g, k, none⟩ = some u := fun k u hu => by
    rw [hB.cell, ← Array.getElem?_toList]
    rw [← hcur, List.getElem?_take] at hu
    split at hu
    · exact hu
    · cases hu
  obtain ⟨A, hA, hsrc⟩ : ∃ A : Addr, (if cap = j then some (⟨g, 0, none⟩ : Addr) else some ⟨g, j * 2, none⟩) = some A ∧ Hid (∀ t u, news[t]? = some u → w.drew.cell? (A.add t) = some u) := by
    by_cases h : cap = j
    · refine ⟨⟨g, 0, none⟩, by simp [h], fun t u hu => ?_⟩
      have h0 : news.length = 0 := by rw [hnl]; omega
      rw [List.length_eq_zero_iff.1 h0] at hu
      simp at hu
    · refine ⟨⟨g, j * 2, none⟩, by simp [h], fun t u hu => ?_⟩
      rw [hnews, ← mcells_drop, List.getElem?_drop] at hu
      rw [Addr.add_lit]
      exact hcell _ _ hu
  have s2 : Hid (∀ u ∈ news, u.oneCell' = true) := by rw [hnews]; exact mcells_one _
  have s3 : Hid (∀ t, t < news.length → (w.drew.cell? ⟨g, 0 + i * 2 + t, none⟩).isSome = true ∧ w.drew.frozen? ⟨g, 0 + i * 2 + t, none⟩ = false) := by
    intro t ht
    rw [hnl] at ht
    have hd : Blk w.drew g 26 cur := hB
    refine ⟨?_, hd.frozen _⟩
    rw [hd.cell, Array.getElem?_eq_getElem (by omega)]; rfl
  obtain ⟨W1, hW1⟩ : ∃ W1, W1 = w.drew.setCells g (0 + i * 2) news := ⟨_, rfl⟩
  have hB1 := Blk.setCells news (0 + i * 2) w.drew cur hB (by rw [hnl]; omega)
  have hg1 : w.grownBy W1 (some g) := by
    have h := grown_setCells g news (0 + i * 2) w.drew
    rw [← hW1] at h
    exact ⟨h.os, h.tape, h.output, h.size, h.block⟩
  rw [← hW1] at hB1
  obtain ⟨cur1, hc1⟩ : ∃ cur1, cur1 = (cur.toList.take (0 + i * 2) ++ news ++ cur.toList.drop (0 + i * 2 + news.length)).toArray := ⟨_, rfl⟩
  rw [← hc1] at hB1
  have hs1 : cur1.size = cur.size := by rw [hc1]; simp; omega
  have hcl : ∀ ty, (Builtin.clear_ #[24] ty #[.slice (some ⟨g, (i + (n - j)) * 2, none⟩) (n - (i + (n - j))) (cap - (i + (n - j)))]).run Try.prog W1 = .ok (.tuple #[]) (W1.setCells g ((i + (n - j)) * 2) (List.replicate ((n - (i + (n - j))) * 2) (.int .i64 0))) :=
    fun ty => run_clear_mv W1 ty g _ _ _ (by omega) (fun t ht => by rw [hB1.cell, Array.getElem?_eq_getElem (by omega)]; rfl) (fun t ht => hB1.frozen _)
  have hB2 := Blk.setCells (List.replicate ((n - (i + (n - j))) * 2) (.int .i64 0)) ((i + (n - j)) * 2) W1 cur1 hB1 (by simp; omega)
  have hg2 := grown_setCells g (List.replicate ((n - (i + (n - j))) * 2) (.int .i64 0)) ((i + (n - j)) * 2) W1
  obtain ⟨W2, hW2⟩ : ∃ W2, W2 = W1.setCells g ((i + (n - j)) * 2) (List.replicate ((n - (i + (n - j))) * 2) (.int .i64 0)) := ⟨_, rfl⟩
  rw [← hW2] at hB2 hg2 hcl
  have hfin : W2.ownsRow base 26 2 (.slice (some ⟨g, 0, none⟩) (n - 1) cap) (n - 1) (mcells (ms.eraseIdx i)) := by
    refine ⟨by rw [mcells_len, List.length_eraseIdx, if_pos (by omega), hlen], .inr ⟨g, cap, _, rfl, hbase, hB2, by omega, by unfold maxLen; omega, by simp; omega, ?_⟩⟩
    have eT : (i + (n - j)) * 2 = (n - 1) * 2 := by omega
    rw [eT, List.append_assoc, List.take_left' (by simp; omega), hc1, Nat.zero_add, List.take_left' (by simp [hnl]; omega)]
    have e1 : cur.toList.take (i * 2) = mcells (ms.take i) := by
      rw [← mcells_take, ← hcur, List.take_take]
      congr 1; omega
    obtain rfl : j = i + 1 := by omega
    rw [e1, hnews, ← mcells_append, List.eraseIdx_eq_take_drop_succ]
  have hgf : w.grownBy W2 (some g) := ⟨hg2.os.trans hg1.os, hg2.tape.trans hg1.tape, hg2.output.trans hg1.output, Nat.le_trans hg1.size hg2.size, fun k hk hne => (hg2.block k (Nat.lt_of_lt_of_le hk hg1.size) hne).trans (hg1.block k hk hne)⟩
  have hic : i ≤ cap := by omega
  have hjc : j ≤ cap := by omega
  have s1 : Hid (news.length = (n - j) * 2) := hnl
  have HW1 := Lib.hid hW1
  have HW2 := Lib.hid hW2
  have HB := Lib.hid hB
  have HB1 := Lib.hid hB1
  have HB2 := Lib.hid hB2
  have Hg1 := Lib.hid hg1
  have Hg2 := Lib.hid hg2
  have Hfin := Lib.hid hfin
  have Hgf := Lib.hid hgf
  have Hc1 := Lib.hid hc1
  have Hs1 := Lib.hid hs1
  have Hnews := Lib.hid hnews
  have Hnl := Lib.hid hnl
  have Hcell := Lib.hid hcell
  have Hcs := Lib.hid hcs
  have Hlen := Lib.hid hlen
  clear hlen hcs hcell hnl hnews hs1 hc1 hgf hfin hg2 hg1 hB2 hB1 hB hW2 hW1
  clear hl0 hblk hcur hv2
  have mixed : Try.prog.follows Departure.mixedOrders = true := by kernel_rfl
  go_enter Try.func21, Try.ntmps21
  go_wp2_with fail
  go_region_law_o (refine step_append_room rfl (.tmp 22) (.tmp 25) 24 rfl 26 i0 2 Try.underlying24 hi0 hz1 g 0 i cap (by simp [Act.eval, Act.put]) A (n - j) (cap - j) news (by simp [Act.eval, Act.put]) s1.out hsrc.out s2.out (by omega) s3.out ?_; rw [← HW1.out])
  go_wp2
  go_ret
  exact ⟨ret_slice (by omega), Hfin.out, Hgf.out⟩
end Go.Proofs.Ytopifdkkmchoeaa
