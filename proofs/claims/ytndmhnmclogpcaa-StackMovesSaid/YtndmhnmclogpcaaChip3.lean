/- Walks of the machine's stack as a whole: a copy of it, another one, a new machine without code. Conditions: the machine lies in memory. -/
import Derived.Test.YtndmhnmclogpcaaChip2
import Derived.WalkSpells
set_option linter.unusedVariables false
set_option linter.unusedSimpArgs false
namespace Go.Proofs.Ytndmhnmclogpcaa
open Go.RowKit

set_option maxRecDepth 100000 in
set_option maxHeartbeats 400000 in
theorem clone_any (A : Option Addr) (n c : Nat) (xs : List Int) (w : World) (B : Nat) (h : Reads w B 1 A n (byteVals xs)) (hn : n ≤ 140737488355000) (hB : B ≤ w.heap.size) (hA : A = none → c = 0) :
    Calls Try.prog 25 #[.slice A n c] w fun e w' => ∃ sv, e = .returned sv ∧ w'.ownsRow w.heap.size 5 1 sv n (byteVals xs) ∧ Below w.heap.size w w' := by
  obtain ⟨i0, hi0, hz0, hz1, hz2⟩ := info_parts infoU8
  have hlen : (byteVals xs).length = n := by have := h.1; omega
  rcases A with _ | ad
  · have hn0 : n = 0 := by
      rcases Nat.eq_zero_or_pos n with h0 | h0
      · exact h0
      · obtain ⟨ad, e, _⟩ := h.2 h0; cases e
    subst hn0
    have hc := hA rfl
    subst hc
    have hx : byteVals xs = [] := List.eq_nil_of_length_eq_zero hlen
    rw [hx]
    have hq := fun W : World => (Lib.run_eql_slice_nil (P := Try.prog) W 33 _ none 0 0 0 0 Try.underlying33)
    go_enter Try.func25, Try.ntmps25
    go_wp2_with fail
    go_ret
    exact ⟨_, rfl, World.ownsRow_nil _ _ _ _, Below.refl _ _⟩
  · have hE := own_lit0 w 5 1
    have hR := h.alloc hB (.cells #[] 5)
    have HE := Lib.hid hE
    have HR := Lib.hid hR
    clear hR hE
    clear h hA
    have hq := fun W : World => (Lib.run_eql_slice_nil (P := Try.prog) W 33 _ (some ad) n c 0 0 Try.underlying33)
    go_enter Try.func25, Try.ntmps25
    go_wp2_with (first
      | (at_builtin
         refine wpList_append_any _ rfl (.tmp 5) (.tmp 6) _ rfl w.heap.size 5 i0 _ 1 1 Try.underlying33 hi0 hz0 hz1 hz2 rfl (by omega) _ 0 [] rfl HE.out B (some ad) n c (byteVals xs) rfl HR.out (byteVals_one _) ?c2 ?c3 ?c4 ?_
         case c2 => simp only [maxLen]; omega
         case c3 => omega
         case c4 => simp
         intro v1 w1 hown1 hg1 hat1))
    have hb1 := ((Below.refl w.heap.size w).alloc (Nat.le_refl _) (.cells #[] 5)).grown hg1 (by simp) (fun k e => by have := (HE.out.lt k e).1; omega)
    rw [List.nil_append, Nat.zero_add] at hown1
    go_ret
    exact ⟨_, rfl, hown1, hb1⟩
theorem own_nilcap {w : World} {base n c size : Nat} {e : TypeId} {A : Option Addr} {xs : List Value} (h : w.ownsRow base e size (.slice A n c) n xs) : A = none → c = 0 := by
  rintro rfl
  rcases h.2 with ⟨h0, _⟩ | ⟨g, cap, cur, hv, _⟩
  · injection h0
  · injection hv with h1; cases h1
set_option maxRecDepth 100000 in
set_option maxHeartbeats 1000000 in
theorem stack_in {w : World} {lo p : Nat} {cv sv : Value} {regs : List Int} {pc base : Int} {ws : List Int} (h : ChipAt w lo p cv sv regs pc base ws) :
    Calls Try.prog 11 #[.pointer (some ⟨p, 0, none⟩)] w fun e w' => ∃ tv, e = .returned (.tuple #[.int .u64 base, tv]) ∧ w'.ownsRow w.heap.size 5 1 tv (8 * ws.length) (byteVals (flat ws)) ∧ Below w.heap.size w w' := by
  have hs := h.stack_
  have hb := h.base_
  obtain ⟨A, c, rfl, hc1, hc2, hr⟩ := own_any h.row
  have hf := h.fit.2.2.2
  have hA := own_nilcap h.row
  obtain ⟨n, hn⟩ : ∃ n, n = 8 * ws.length := ⟨_, rfl⟩
  rw [← hn] at hs hc1 hf hr ⊢
  have H := Lib.hid h
  have Hr := Lib.hid hr
  have Hn := Lib.hid hn
  clear hn hr h
  go_enter Try.func11, Try.ntmps11
  go_upto_region 3 with fail
  refine wp_region_late (S := fun W => W.cell? ⟨p, 18, none⟩ = some (.int .u64 base) ∧ W.cell? ⟨p, 19, none⟩ = some (.slice A n c)) #[false, false, false, false, false, false, false, false, false, false, false] (by kernel_rfl) ⟨hb, hs⟩ (fun hHeld => ?_)
  refine wpAnyL_take (i := 0) (v := ?_) rfl (by kernel_rfl) (by kernel_rfl) (by kernel_rfl) (by kernel_rfl) (fun _ _ _ h => h) (Or.inl ⟨by rfl, ?_⟩) (by assumption) ?_
  rotate_left
  · intro w hSw; (try dsimp only at hSw); go_simp; try with_reducible rfl
  simp only [Act.put, List.getElem_toArray, List.getElem_cons_zero, List.getElem_cons_succ, List.setIfInBounds_toArray, List.set_cons_zero, List.set_cons_succ]
  refine wpAnyL_take (i := 1) (v := ?_) rfl (by kernel_rfl) (by kernel_rfl) (by kernel_rfl) (by kernel_rfl) (fun _ _ _ h => h) (Or.inl ⟨by rfl, ?_⟩) (by assumption) ?_
  rotate_left
  · intro w hSw; (try dsimp only at hSw); go_simp; try with_reducible rfl
  simp only [Act.put, List.getElem_toArray, List.getElem_cons_zero, List.getElem_cons_succ, List.setIfInBounds_toArray, List.set_cons_zero, List.set_cons_succ]
  refine wpAnyL_take (i := 2) (v := ?_) rfl (by kernel_rfl) (by kernel_rfl) (by kernel_rfl) (by kernel_rfl) (fun _ _ _ h => h) (Or.inl ⟨by rfl, ?_⟩) (by assumption) ?_
  rotate_left
  · intro w hSw; (try dsimp only at hSw); go_simp; try with_reducible rfl
  simp only [Act.put, List.getElem_toArray, List.getElem_cons_zero, List.getElem_cons_succ, List.setIfInBounds_toArray, List.set_cons_zero, List.set_cons_succ]
  refine wpAnyL_take (i := 3) (v := ?_) rfl (by kernel_rfl) (by kernel_rfl) (by kernel_rfl) (by kernel_rfl) (fun _ _ _ h => h) (Or.inl ⟨by rfl, ?_⟩) (by assumption) ?_
  rotate_left
  · intro w hSw; (try dsimp only at hSw); go_simp; try with_reducible rfl
  simp only [Act.put, List.getElem_toArray, List.getElem_cons_zero, List.getElem_cons_succ, List.setIfInBounds_toArray, List.set_cons_zero, List.set_cons_succ]
  refine wpAnyL_take (i := 4) (v := ?_) rfl (by kernel_rfl) (by kernel_rfl) (by kernel_rfl) (by kernel_rfl) (fun _ _ _ h => h) (Or.inl ⟨by rfl, ?_⟩) (by assumption) ?_
  rotate_left
  · intro w hSw; (try dsimp only at hSw); go_simp; try with_reducible rfl
  simp only [Act.put, List.getElem_toArray, List.getElem_cons_zero, List.getElem_cons_succ, List.setIfInBounds_toArray, List.set_cons_zero, List.set_cons_succ]
  refine wpAnyL_take (i := 5) (v := ?_) rfl (by kernel_rfl) (by kernel_rfl) (by kernel_rfl) (by kernel_rfl) (fun _ _ _ h => h) (Or.inl ⟨by rfl, ?_⟩) (by assumption) ?_
  rotate_left
  · intro w hSw; (try dsimp only at hSw); go_simp; try with_reducible rfl
  simp only [Act.put, List.getElem_toArray, List.getElem_cons_zero, List.getElem_cons_succ, List.setIfInBounds_toArray, List.set_cons_zero, List.set_cons_succ]
  refine wpAnyL_take (i := 6) (v := ?_) rfl (by kernel_rfl) (by kernel_rfl) (by kernel_rfl) (by kernel_rfl) (fun _ _ _ h => h) (Or.inl ⟨by rfl, ?_⟩) (by assumption) ?_
  rotate_left
  · intro w hSw; (try dsimp only at hSw); go_simp; try with_reducible rfl
  simp only [Act.put, List.getElem_toArray, List.getElem_cons_zero, List.getElem_cons_succ, List.setIfInBounds_toArray, List.set_cons_zero, List.set_cons_succ]
  refine wpAnyL_take (i := 7) (v := ?_) rfl (by kernel_rfl) (by kernel_rfl) (by kernel_rfl) (by kernel_rfl) (fun _ _ _ h => h) (Or.inl ⟨by rfl, ?_⟩) (by assumption) ?_
  rotate_left
  · intro w hSw; (try dsimp only at hSw); go_simp; try with_reducible rfl
  simp only [Act.put, List.getElem_toArray, List.getElem_cons_zero, List.getElem_cons_succ, List.setIfInBounds_toArray, List.set_cons_zero, List.set_cons_succ]
  refine wpAnyL_ready (rs := [8]) (by kernel_rfl) (by simp) ?_
  refine AllReadyL.cons rfl (fun K hK => ?_) AllReadyL.nil
  go_simp
  refine (clone_any A n c (flat ws) w.drew w.heap.size Hr.out (by omega) (Nat.le_refl _) hA).mono ?_
  rintro e w2 ⟨tv, rfl, hown2, hb2⟩
  have hb2' : Below w.heap.size w w2 := ⟨hb2.os, hb2.tape, hb2.output, hb2.size, hb2.block⟩
  have hlt := H.out.lt
  refine hK.out _ _ ⟨(hb2'.cell hlt).trans hb, (hb2'.cell hlt).trans hs⟩ (fun hHeld2 => ?_)
  have Hown2 := Lib.hid hown2
  have Hb2' := Lib.hid hb2'
  clear hb2' hown2
  clear hK K hHeld hb2
  try simp only [Act.put, List.getElem_toArray, List.getElem_cons_zero, List.getElem_cons_succ, List.setIfInBounds_toArray, List.set_cons_zero, List.set_cons_succ]
  refine wpAnyL_take (i := 9) (v := ?_) rfl (by kernel_rfl) (by kernel_rfl) (by kernel_rfl) (by kernel_rfl) (fun _ _ _ h => h) (Or.inl ⟨by rfl, ?_⟩) (by assumption) ?_
  rotate_left
  · intro w hSw; (try dsimp only at hSw); go_simp; try with_reducible rfl
  simp only [Act.put, List.getElem_toArray, List.getElem_cons_zero, List.getElem_cons_succ, List.setIfInBounds_toArray, List.set_cons_zero, List.set_cons_succ]
  refine wpAnyL_take (i := 10) (v := ?_) rfl (by kernel_rfl) (by kernel_rfl) (by kernel_rfl) (by kernel_rfl) (fun _ _ _ h => h) (Or.inl ⟨by rfl, ?_⟩) (by assumption) ?_
  rotate_left
  · intro w hSw; (try dsimp only at hSw); go_simp; try with_reducible rfl
  simp only [Act.put, List.getElem_toArray, List.getElem_cons_zero, List.getElem_cons_succ, List.setIfInBounds_toArray, List.set_cons_zero, List.set_cons_succ]
  refine wpAnyL_done (by kernel_rfl) ?_ _
  go_wp2_with fail
  go_ret2
  exact ⟨_, rfl, Hown2.out, Hb2'.out⟩
set_option maxRecDepth 100000 in
set_option maxHeartbeats 400000 in
theorem stack_nil (w : World) :
    Calls Try.prog 11 #[.pointer none] w fun e w' => e = .returned (.tuple #[.int .u64 0, .slice none 0 0]) ∧ w = w' := by
  go_enter Try.func11, Try.ntmps11
  go_wp2_with fail
  go_ret2
  exact ⟨rfl, rfl⟩
/-- may there be such a stack? -/
def MayP (base size : Int) : Prop := 8 ≤ base ∧ base ≤ 281474976710656 ∧ base % 8 = 0 ∧ 0 ≤ size ∧ size ≤ 65536 ∧ size % 8 = 0
set_option maxRecDepth 100000 in
set_option maxHeartbeats 400000 in
theorem may_yes (w : World) (base size : Int) (h : MayP base size) :
    Calls Try.prog 22 #[.int .u64 base, .int .i64 size] w fun e w' => e = .returned (.bool true) ∧ w = w' := by
  obtain ⟨h1, h2, h3, h4, h5, h6⟩ := h
  obtain ⟨r, hr⟩ : ∃ r, base.tmod 8 = r := ⟨_, rfl⟩
  obtain ⟨s, hs⟩ : ∃ s, size.tmod 8 = s := ⟨_, rfl⟩
  have d1 : decide ((8 : Int) ≤ base) = true := by simpa using h1
  have d2 : decide (base ≤ 281474976710656) = true := by simpa using h2
  have d3 : (r == 0) = true := by rw [← hr, Int.tmod_eq_emod_of_nonneg (by omega)]; simpa using h3
  have d4 : decide (0 ≤ size) = true := by simpa using h4
  have d5 : decide (size ≤ 65536) = true := by simpa using h5
  have d6 : (s == 0) = true := by rw [← hs, Int.tmod_eq_emod_of_nonneg (by omega)]; simpa using h6
  clear h3 h6
  go_enter Try.func22, Try.ntmps22
  go_wp2_with fail
  go_ret
  exact ⟨rfl, rfl⟩
set_option maxRecDepth 100000 in
set_option maxHeartbeats 1000000 in
theorem may_no (w : World) (base size : Int) (hb : 0 ≤ base) (h : ¬ MayP base size) :
    Calls Try.prog 22 #[.int .u64 base, .int .i64 size] w fun e w' => e = .returned (.bool false) ∧ w = w' := by
  obtain ⟨r, hr⟩ : ∃ r, base.tmod 8 = r := ⟨_, rfl⟩
  obtain ⟨s, hs⟩ : ∃ s, size.tmod 8 = s := ⟨_, rfl⟩
  have hr' : r = base % 8 := by rw [← hr, Int.tmod_eq_emod_of_nonneg hb]
  have hs' : 0 ≤ size → s = size % 8 := fun h0 => by rw [← hs, Int.tmod_eq_emod_of_nonneg h0]
  have hcase : base < 8 ∨ (8 ≤ base ∧ 281474976710656 < base) ∨ (8 ≤ base ∧ base ≤ 281474976710656 ∧ r ≠ 0) ∨ (8 ≤ base ∧ base ≤ 281474976710656 ∧ r = 0 ∧ size < 0) ∨ (8 ≤ base ∧ base ≤ 281474976710656 ∧ r = 0 ∧ 0 ≤ size ∧ 65536 < size) ∨ (8 ≤ base ∧ base ≤ 281474976710656 ∧ r = 0 ∧ 0 ≤ size ∧ size ≤ 65536 ∧ s ≠ 0) := by
    unfold MayP at h
    by_cases h0 : 0 ≤ size
    · have := hs' h0; omega
    · omega
  clear h hr' hs'
  rcases hcase with h1 | ⟨h1, h2⟩ | ⟨h1, h2, h3⟩ | ⟨h1, h2, h3, h4⟩ | ⟨h1, h2, h3, h4, h5⟩ | ⟨h1, h2, h3, h4, h5, h6⟩
  · have hd : decide ((8 : Int) ≤ base) = false := by simp only [decide_eq_true_eq, decide_eq_false_iff_not, beq_iff_eq, beq_eq_false_iff_ne, ne_eq]; omega
    go_enter Try.func22, Try.ntmps22
    go_wp2_with fail
    go_ret
    exact ⟨rfl, rfl⟩
  · have hd : decide ((8 : Int) ≤ base) = true ∧ decide (base ≤ 281474976710656) = false := by simp only [decide_eq_true_eq, decide_eq_false_iff_not, beq_iff_eq, beq_eq_false_iff_ne, ne_eq]; omega
    go_enter Try.func22, Try.ntmps22
    go_wp2_with fail
    go_ret
    exact ⟨rfl, rfl⟩
  · have hd : decide ((8 : Int) ≤ base) = true ∧ decide (base ≤ 281474976710656) = true ∧ (r == 0) = false := by simp only [decide_eq_true_eq, decide_eq_false_iff_not, beq_iff_eq, beq_eq_false_iff_ne, ne_eq]; omega
    go_enter Try.func22, Try.ntmps22
    go_wp2_with fail
    go_ret
    exact ⟨rfl, rfl⟩
  · have hd : decide ((8 : Int) ≤ base) = true ∧ decide (base ≤ 281474976710656) = true ∧ (r == 0) = true ∧ decide (0 ≤ size) = false := by simp only [decide_eq_true_eq, decide_eq_false_iff_not, beq_iff_eq, beq_eq_false_iff_ne, ne_eq]; omega
    go_enter Try.func22, Try.ntmps22
    go_wp2_with fail
    go_ret
    exact ⟨rfl, rfl⟩
  · have hd : decide ((8 : Int) ≤ base) = true ∧ decide (base ≤ 281474976710656) = true ∧ (r == 0) = true ∧ decide (0 ≤ size) = true ∧ decide (size ≤ 65536) = false := by simp only [decide_eq_true_eq, decide_eq_false_iff_not, beq_iff_eq, beq_eq_false_iff_ne, ne_eq]; omega
    go_enter Try.func22, Try.ntmps22
    go_wp2_with fail
    go_ret
    exact ⟨rfl, rfl⟩
  · have hd : decide ((8 : Int) ≤ base) = true ∧ decide (base ≤ 281474976710656) = true ∧ (r == 0) = true ∧ decide (0 ≤ size) = true ∧ decide (size ≤ 65536) = true ∧ (s == 0) = false := by simp only [decide_eq_true_eq, decide_eq_false_iff_not, beq_iff_eq, beq_eq_false_iff_ne, ne_eq]; omega
    go_enter Try.func22, Try.ntmps22
    go_wp2_with fail
    go_ret
    exact ⟨rfl, rfl⟩
end Go.Proofs.Ytndmhnmclogpcaa
