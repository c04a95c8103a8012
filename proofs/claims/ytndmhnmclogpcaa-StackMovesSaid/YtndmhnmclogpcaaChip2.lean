/- Walks of the machine's memory: Load, Store, Stack, Restack; a new machine without code. Conditions: the machine lies in memory. -/
import Derived.Test.YtndmhnmclogpcaaChip1
import Derived.Test.YtndmhnmclogpcaaLate
set_option linter.unusedVariables false
set_option linter.unusedSimpArgs false
namespace Go.Proofs.Ytndmhnmclogpcaa
open Go.RowKit

theorem flat_byte (ws : List Int) : ∀ x ∈ flat ws, 0 ≤ x ∧ x < 256 := by
  intro x hx
  unfold flat at hx
  rw [List.mem_flatMap] at hx
  obtain ⟨v, _, hv⟩ := hx
  exact bytesLE_bd 8 v x hv
set_option maxRecDepth 100000 in
set_option maxHeartbeats 1000000 in
theorem load_in {w : World} {lo p : Nat} {cv sv : Value} {regs : List Int} {pc base : Int} {ws : List Int} (h : ChipAt w lo p cv sv regs pc base ws) (k : Nat) (v : Int) (hk : ws[k]? = some v) (a : Int) (ha : a = base + 8 * k) :
    Calls Try.prog 14 #[.pointer (some ⟨p, 0, none⟩), .int .u64 a] w fun e w' => e = .returned (.tuple #[.int .u64 v, .bool true]) ∧ ∃ q, w' = w.drewN q := by
  have hkl : k < ws.length := (List.getElem?_eq_some_iff.1 hk).1
  have hs := h.stack_
  obtain ⟨A, c, rfl, hc1, hc2, hr⟩ := own_any h.row
  have hf := h.fit.2.2.2
  have hw := flat_word ws k v hk (h.wok v (List.mem_of_getElem? hk))
  obtain ⟨n, hn⟩ : ∃ n, n = 8 * ws.length := ⟨_, rfl⟩
  rw [← hn] at hs hc1 hf hr
  have hkn : 8 * k + 8 ≤ n := by omega
  have H := Lib.hid h
  have Hk := Lib.hid hk
  have Hr := Lib.hid hr
  have Hw := Lib.hid hw
  have Hn := Lib.hid hn
  have Ha := Lib.hid ha
  clear ha hn hw hr hk h
  go_enter Try.func14, Try.ntmps14
  go_wp2_with fail
  refine (at_in H.out k hkl a Ha.out).mono ?_
  rintro e w1 ⟨rfl, q, rfl⟩
  have hs1 : (w.drewN q).cell? ⟨p, 19, none⟩ = some (.slice A n c) := hs
  go_wp2_with fail
  refine (take_as A n c (8 * k) _ v (flat ws) (w.drewN q) w.heap.size (Hr.out.drewN q) (flat_byte ws) (by omega) hkn hc1 hc2 Hw.out).mono ?_
  rintro e w2 ⟨rfl, rfl⟩
  go_wp2_with fail
  go_ret2
  exact ⟨rfl, q, rfl⟩
set_option maxRecDepth 100000 in
set_option maxHeartbeats 1000000 in
theorem load_out {w : World} {lo p : Nat} {cv sv : Value} {regs : List Int} {pc base : Int} {ws : List Int} (h : ChipAt w lo p cv sv regs pc base ws) (a : Int) (ha : U64 a) (hn : ∀ k : Nat, k < ws.length → a ≠ base + 8 * k) :
    Calls Try.prog 14 #[.pointer (some ⟨p, 0, none⟩), .int .u64 a] w fun e w' => e = .returned (.tuple #[.int .u64 0, .bool false]) ∧ ∃ q, w' = w.drewN q := by
  have H := Lib.hid h
  have Ha := Lib.hid ha
  have Hn := Lib.hid hn
  clear hn ha h
  go_enter Try.func14, Try.ntmps14
  go_wp2_with fail
  refine (at_out H.out a Ha.out Hn.out).mono ?_
  rintro e w1 ⟨rfl, q, rfl⟩
  go_wp2_with fail
  go_ret2
  exact ⟨rfl, q, rfl⟩
theorem splice_flat (ws : List Int) (k : Nat) (v : Int) (hk : k < ws.length) : splice (byteVals (flat ws)) (8 * k) (byteVals (bytesLE 8 v)) = byteVals (flat (ws.set k v)) := by
  have e : ws = ws.take k ++ ws[k] :: ws.drop (k + 1) := by simp
  have hl : (flat (ws.take k)).length = 8 * k := by rw [flat_length, List.length_take]; omega
  have e1 : flat ws = flat (ws.take k) ++ (bytesLE 8 ws[k] ++ flat (ws.drop (k + 1))) := by
    refine (congrArg flat e).trans ?_
    unfold flat
    rw [List.flatMap_append, List.flatMap_cons]
  have e2 : flat (ws.set k v) = flat (ws.take k) ++ (bytesLE 8 v ++ flat (ws.drop (k + 1))) := by
    rw [List.set_eq_take_append_cons_drop, if_pos hk]
    simp [flat]
  unfold splice
  have hb : (byteVals (bytesLE 8 v)).length = 8 := by simp [byteVals, bytesLE_length]
  rw [hb, e2, e1]
  simp only [byteVals, List.map_append]
  have h8 : (List.map (Value.int .u8) (flat (ws.take k))).length = 8 * k := by rw [List.length_map, hl]
  have h9 : (List.map (Value.int .u8) (bytesLE 8 ws[k])).length = 8 := by rw [List.length_map, bytesLE_length]
  rw [List.take_append_of_le_length (by omega), List.take_of_length_le (by omega), List.drop_append, List.drop_of_length_le (by omega), h8, Nat.add_sub_cancel_left, List.nil_append, List.drop_append, List.drop_of_length_le (by omega), h9]
  simp
set_option maxRecDepth 100000 in
set_option maxHeartbeats 1000000 in
theorem store_in {w : World} {lo p : Nat} {cv sv : Value} {regs : List Int} {pc base : Int} {ws : List Int} (h : ChipAt w lo p cv sv regs pc base ws) (k : Nat) (v : Int) (hk : k < ws.length) (hv : U64 v) (a : Int) (ha : a = base + 8 * k) :
    Calls Try.prog 10 #[.pointer (some ⟨p, 0, none⟩), .int .u64 a, .int .u64 v] w fun e w' => e = .returned (.bool true) ∧ ChipAt w' lo p cv sv regs pc base (ws.set k v) ∧ Keeps (fun i => sv.ownBlock = some i) w w' := by
  have hs := h.stack_
  have hf := h.fit.2.2.2
  obtain ⟨n, hn⟩ : ∃ n, n = 8 * ws.length := ⟨_, rfl⟩
  have hro := h.row
  rw [← hn] at hro hf
  obtain ⟨g, c, rfl, hg1, hg2, hc1, hc2⟩ := own_form hro (by omega)
  unfold maxLen at hc2
  have hkn : 8 * k + 8 ≤ n := by omega
  have hgt := h.low
  have H := Lib.hid h
  have Hn := Lib.hid hn
  have Ha := Lib.hid ha
  have Hro := Lib.hid hro
  have Hv := Lib.hid hv
  clear hv hro ha hn h
  go_enter Try.func10, Try.ntmps10
  go_wp2_with fail
  refine (at_in H.out k hk a Ha.out).mono ?_
  rintro e w1 ⟨rfl, q, rfl⟩
  have hs1 : (w.drewN q).cell? ⟨p, 19, none⟩ = some (.slice (some ⟨g, 0, none⟩) n c) := hs
  clear hs
  obtain ⟨off, ho⟩ : ∃ off : Nat, (8 : Int) * k = off := ⟨8 * k, by simp⟩
  rw [ho]
  have ho' : off = 8 * k := by omega
  have hon : (off : Int) ≤ n := by omega
  have hcn : ¬ c = off := by omega
  have hon2 : off + 8 ≤ n := by omega
  have Ho := Lib.hid ho
  have HO2 := Lib.hid ho'
  clear ho' ho
  go_upto_region 4 with fail
  refine wp_region_late (S := fun W => W.cell? ⟨p, 19, none⟩ = some (.slice (some ⟨g, 0, none⟩) n c)) #[false, false, false, false, false, false, false, false, true] (by kernel_rfl) hs1 (fun hHeld => ?_)
  refine wpAnyL_take (i := 0) (v := ?_) rfl (by kernel_rfl) (by kernel_rfl) (by kernel_rfl) (by kernel_rfl) (fun _ _ _ h => h) (Or.inl ⟨by rfl, ?_⟩) (by assumption) ?_
  rotate_left
  · intro w hSw; (try dsimp only at hSw); go_simp; try with_reducible rfl
  simp only [Act.put, List.getElem_toArray, List.getElem_cons_zero, List.getElem_cons_succ, List.setIfInBounds_toArray, List.set_cons_zero, List.set_cons_succ]
  refine wpAnyL_take (i := 1) (v := ?_) rfl (by kernel_rfl) (by kernel_rfl) (by kernel_rfl) (by kernel_rfl) (fun _ _ _ h => h) (Or.inl ⟨by rfl, ?_⟩) (by assumption) ?_
  rotate_left
  · intro w hSw; (try dsimp only at hSw); go_simp; try with_reducible rfl
  simp only [Act.put, List.getElem_toArray, List.getElem_cons_zero, List.getElem_cons_succ, List.setIfInBounds_toArray, List.set_cons_zero, List.set_cons_succ]
  refine wpAnyL_take (i := 2) (v := ?_) rfl (by kernel_rfl) (by kernel_rfl) (by kernel_rfl) (by kernel_rfl) (fun _ _ _ h => h) (Or.inl ⟨by rfl, ?_⟩) (by assumption) ?_
  rotate_left
  · intro w hSw; (try dsimp only at hSw); go_simp; try with_reducible rfl
  simp only [Act.put, List.getElem_toArray, List.getElem_cons_zero, List.getElem_cons_succ, List.setIfInBounds_toArray, List.set_cons_zero, List.set_cons_succ]
  refine wpAnyL_take (i := 3) (v := ?_) rfl (by kernel_rfl) (by kernel_rfl) (by kernel_rfl) (by kernel_rfl) (fun _ _ _ h => h) (Or.inl ⟨by rfl, ?_⟩) (by assumption) ?_
  rotate_left
  · intro w hSw; (try dsimp only at hSw); go_simp; try with_reducible rfl
  simp only [Act.put, List.getElem_toArray, List.getElem_cons_zero, List.getElem_cons_succ, List.setIfInBounds_toArray, List.set_cons_zero, List.set_cons_succ]
  refine wpAnyL_take (i := 4) (v := ?_) rfl (by kernel_rfl) (by kernel_rfl) (by kernel_rfl) (by kernel_rfl) (fun _ _ _ h => h) (Or.inl ⟨by rfl, ?_⟩) (by assumption) ?_
  rotate_left
  · intro w hSw; (try dsimp only at hSw); go_simp; try with_reducible rfl
  simp only [Act.put, List.getElem_toArray, List.getElem_cons_zero, List.getElem_cons_succ, List.setIfInBounds_toArray, List.set_cons_zero, List.set_cons_succ]
  refine wpAnyL_take (i := 5) (v := ?_) rfl (by kernel_rfl) (by kernel_rfl) (by kernel_rfl) (by kernel_rfl) (fun _ _ _ h => h) (Or.inl ⟨by rfl, ?_⟩) (by assumption) ?_
  rotate_left
  · intro w hSw; (try dsimp only at hSw); go_simp; try with_reducible rfl
  simp only [Act.put, List.getElem_toArray, List.getElem_cons_zero, List.getElem_cons_succ, List.setIfInBounds_toArray, List.set_cons_zero, List.set_cons_succ]
  refine wpAnyL_take (i := 6) (v := ?_) rfl (by kernel_rfl) (by kernel_rfl) (by kernel_rfl) (by kernel_rfl) (fun _ _ _ h => h) (Or.inl ⟨by rfl, ?_⟩) (by assumption) ?_
  rotate_left
  · intro w hSw; (try dsimp only at hSw); go_simp; try with_reducible rfl
  simp only [Act.put, List.getElem_toArray, List.getElem_cons_zero, List.getElem_cons_succ, List.setIfInBounds_toArray, List.set_cons_zero, List.set_cons_succ]
  refine wpAnyL_ready (rs := [7]) (by kernel_rfl) (by simp) ?_
  refine AllReadyL.cons rfl (fun K hK => ?_) AllReadyL.nil
  go_simp
  refine (put_any none 0 0 [] v ((w.drewN q).drew) 0 Reads.none_ (by intro u hu; cases hu) (by omega) (Nat.zero_le _) Hv.out).mono ?_
  rintro e w2 ⟨pv, rfl, hown2, hb2⟩
  have hb2' : Below w.heap.size w w2 := ⟨hb2.os, hb2.tape, hb2.output, hb2.size, hb2.block⟩
  have h2 := H.out.below hb2'
  obtain ⟨A2, c2, rfl, _, _, hr2⟩ := own_any hown2
  obtain ⟨ad, hA, _, hcell⟩ := hr2.2 (by omega)
  subst hA
  refine hK.out _ _ h2.stack_ (fun hHeld2 => ?_)
  have hro2 : w2.ownsRow lo 5 1 (.slice (some ⟨g, 0, none⟩) n c) n (byteVals (flat ws)) := by have h := h2.row; rw [← Hn.out] at h; exact h
  have hs2 := hb2'.size
  have hne := h2.ne
  have H2 := Lib.hid h2
  have Hb2' := Lib.hid hb2'
  have Hro2 := Lib.hid hro2
  clear hro2 hb2' h2
  clear hK K hHeld hown2 hr2 hb2
  try simp only [Act.put, List.getElem_toArray, List.getElem_cons_zero, List.getElem_cons_succ, List.setIfInBounds_toArray, List.set_cons_zero, List.set_cons_succ]
  refine wpAnyL_ready (rs := [8]) (by kernel_rfl) (by simp) ?_
  refine AllReadyL.last rfl (by kernel_rfl) (fun K hK => ?_) AllReadyL.nil
  refine step_copy_into rfl (.tmp 18) (.tmp 20) _ _ rfl 5 Try.underlying33 (by kernel_rfl) Hro2.out ad rfl rfl (by simp [byteVals, bytesLE_length]) hcell (byteVals_one _) hon2 (by omega) ?_
  intro w3 hown3 hg3
  refine hK.out _ _ ?_
  clear hK K hHeld2
  refine wpAnyL_done (by kernel_rfl) ?_ _
  have hown3' : w3.ownsRow lo 5 1 (.slice (some ⟨g, 0, none⟩) n c) (8 * ws.length) (byteVals (flat (ws.set k v))) := by
    rw [← splice_flat ws k v hk, ← HO2.out, ← Hn.out]
    simpa using hown3
  have h3 := H2.out.setRow hg3 hown3' (List.length_set ..) (fun x hx => by
    rcases List.mem_or_eq_of_mem_set hx with h1 | h1
    · exact H2.out.wok x h1
    · rw [h1]; exact Hv.out)
  have hk3 : Keeps (fun i => (Value.slice (some ⟨g, 0, none⟩) n c).ownBlock = some i) w w3 := (Keeps.of_below Hb2'.out (Nat.le_refl _)).grown hg3 fun i e => .inl e
  have H3 := Lib.hid h3
  have Hk3 := Lib.hid hk3
  clear hk3 h3
  clear hown3 hown3' hg3
  go_wp2_with fail
  go_ret
  exact ⟨rfl, H3.out, Hk3.out⟩
set_option maxRecDepth 100000 in
set_option maxHeartbeats 1000000 in
theorem store_out {w : World} {lo p : Nat} {cv sv : Value} {regs : List Int} {pc base : Int} {ws : List Int} (h : ChipAt w lo p cv sv regs pc base ws) (a v : Int) (ha : U64 a) (hn : ∀ k : Nat, k < ws.length → a ≠ base + 8 * k) :
    Calls Try.prog 10 #[.pointer (some ⟨p, 0, none⟩), .int .u64 a, .int .u64 v] w fun e w' => e = .returned (.bool false) ∧ ∃ q, w' = w.drewN q := by
  have H := Lib.hid h
  have Ha := Lib.hid ha
  have Hn := Lib.hid hn
  clear hn ha h
  go_enter Try.func10, Try.ntmps10
  go_wp2_with fail
  refine (at_out H.out a Ha.out Hn.out).mono ?_
  rintro e w1 ⟨rfl, q, rfl⟩
  go_wp2_with fail
  go_ret
  exact ⟨rfl, q, rfl⟩
end Go.Proofs.Ytndmhnmclogpcaa
