/- The document's May, New. Conditions: the code lies in memory. -/
import Derived.Test.YtndmhnmclogpcaaSRefA
import Derived.Test.YtndmhnmclogpcaaSRefB
set_option linter.unusedVariables false
set_option linter.unusedSimpArgs false
namespace Go.Proofs.Ytndmhnmclogpcaa
open Go.RowKit

set_option maxRecDepth 100000 in
set_option maxHeartbeats 400000 in
theorem rmay_yes (w : World) (base size : Int) (h : MayP base size) :
    Calls Try.prog 16 #[.int .u64 base, .int .i64 size] w fun e w' => e = .returned (.bool true) ∧ w = w' := by
  obtain ⟨h1, h2, h3, h4, h5, h6⟩ := h
  obtain ⟨r, hr⟩ : ∃ r, base.tmod 8 = r := ⟨_, rfl⟩
  obtain ⟨s, hs⟩ : ∃ s, size.tmod 8 = s := ⟨_, rfl⟩
  have d1 : decide ((8 : Int) ≤ base) = true := by simpa using h1
  have d2 : decide (base ≤ 281474976710656) = true := by simpa using h2
  have d3 : (r == 0) = true := by rw [← hr, Int.tmod_eq_emod_of_nonneg (by omega)]; simpa using h3
  have d4 : decide (0 ≤ size) = true := by simpa using h4
  have d5 : decide (size ≤ 65536) = true := by simpa using h5
  have d6 : (s == 0) = true := by rw [← hs, Int.tmod_eq_emod_of_nonneg (by omega)]; simpa using h6
  clear h3 h6
  go_enter Try.func16, Try.ntmps16
  go_wp2_with fail
  go_ret
  exact ⟨rfl, rfl⟩
set_option maxRecDepth 100000 in
set_option maxHeartbeats 1000000 in
theorem rmay_no (w : World) (base size : Int) (hb : 0 ≤ base) (h : ¬ MayP base size) :
    Calls Try.prog 16 #[.int .u64 base, .int .i64 size] w fun e w' => e = .returned (.bool false) ∧ w = w' := by
  obtain ⟨r, hr⟩ : ∃ r, base.tmod 8 = r := ⟨_, rfl⟩
  obtain ⟨s, hs⟩ : ∃ s, size.tmod 8 = s := ⟨_, rfl⟩
  have hr' : r = base % 8 := by rw [← hr, Int.tmod_eq_emod_of_nonneg hb]
  have hs' : 0 ≤ size → s = size % 8 := fun h0 => by rw [← hs, Int.tmod_eq_emod_of_nonneg h0]
  have hcase : r ≠ 0 ∨ (r = 0 ∧ base < 8) ∨ (r = 0 ∧ 8 ≤ base ∧ 281474976710656 < base) ∨ (r = 0 ∧ 8 ≤ base ∧ base ≤ 281474976710656 ∧ size < 0) ∨ (r = 0 ∧ 8 ≤ base ∧ base ≤ 281474976710656 ∧ 0 ≤ size ∧ 65536 < size) ∨ (r = 0 ∧ 8 ≤ base ∧ base ≤ 281474976710656 ∧ 0 ≤ size ∧ size ≤ 65536 ∧ s ≠ 0) := by
    unfold MayP at h
    by_cases h0 : 0 ≤ size
    · have := hs' h0; omega
    · omega
  clear h hr' hs'
  rcases hcase with h1 | ⟨h1, h2⟩ | ⟨h1, h2, h3⟩ | ⟨h1, h2, h3, h4⟩ | ⟨h1, h2, h3, h4, h5⟩ | ⟨h1, h2, h3, h4, h5, h6⟩
  · have hd : (r == 0) = false := by simp only [decide_eq_true_eq, decide_eq_false_iff_not, beq_iff_eq, beq_eq_false_iff_ne, ne_eq]; omega
    go_enter Try.func16, Try.ntmps16
    go_wp2_with fail
    go_ret
    exact ⟨rfl, rfl⟩
  · have hd : (r == 0) = true ∧ decide ((8 : Int) ≤ base) = false := by simp only [decide_eq_true_eq, decide_eq_false_iff_not, beq_iff_eq, beq_eq_false_iff_ne, ne_eq]; omega
    go_enter Try.func16, Try.ntmps16
    go_wp2_with fail
    go_ret
    exact ⟨rfl, rfl⟩
  · have hd : (r == 0) = true ∧ decide ((8 : Int) ≤ base) = true ∧ decide (base ≤ 281474976710656) = false := by simp only [decide_eq_true_eq, decide_eq_false_iff_not, beq_iff_eq, beq_eq_false_iff_ne, ne_eq]; omega
    go_enter Try.func16, Try.ntmps16
    go_wp2_with fail
    go_ret
    exact ⟨rfl, rfl⟩
  · have hd : (r == 0) = true ∧ decide ((8 : Int) ≤ base) = true ∧ decide (base ≤ 281474976710656) = true ∧ decide (0 ≤ size) = false := by simp only [decide_eq_true_eq, decide_eq_false_iff_not, beq_iff_eq, beq_eq_false_iff_ne, ne_eq]; omega
    go_enter Try.func16, Try.ntmps16
    go_wp2_with fail
    go_ret
    exact ⟨rfl, rfl⟩
  · have hd : (r == 0) = true ∧ decide ((8 : Int) ≤ base) = true ∧ decide (base ≤ 281474976710656) = true ∧ decide (0 ≤ size) = true ∧ decide (size ≤ 65536) = false := by simp only [decide_eq_true_eq, decide_eq_false_iff_not, beq_iff_eq, beq_eq_false_iff_ne, ne_eq]; omega
    go_enter Try.func16, Try.ntmps16
    go_wp2_with fail
    go_ret
    exact ⟨rfl, rfl⟩
  · have hd : (r == 0) = true ∧ decide ((8 : Int) ≤ base) = true ∧ decide (base ≤ 281474976710656) = true ∧ decide (0 ≤ size) = true ∧ decide (size ≤ 65536) = true ∧ (s == 0) = false := by simp only [decide_eq_true_eq, decide_eq_false_iff_not, beq_iff_eq, beq_eq_false_iff_ne, ne_eq]; omega
    go_enter Try.func16, Try.ntmps16
    go_wp2_with fail
    go_ret
    exact ⟨rfl, rfl⟩
theorem made_u64 (n : Nat) : (madeCells #[Value.int .u64 0] n) = ((List.replicate n (0 : Int)).map (Value.int .u64)).toArray := by
  apply Array.toList_inj.1
  rw [toList_madeCells_one]
  simp
theorem infoU64r : (Try.prog.info? 29).map (fun i => (i.zero, i.size, i.bytes)) = some (some (.int .u64 0), 1, 8) := by kernel_rfl
set_option maxRecDepth 100000 in
set_option maxHeartbeats 4000000 in
theorem rnew_any (w : World) (A : Option Addr) (n c : Nat) (base size : Int) (hm : MayP base size) :
    Calls Try.prog 17 #[.slice A n c, .int .u64 base, .int .i64 size] w fun e w' => ∃ q rg wg, e = .returned (.pointer (some ⟨q, 0, none⟩)) ∧ RefAt w' w.heap.size q rg wg (.slice A n c) (regs0 (base + size)) 0 base (List.replicate (size / 8).toNat 0) ∧ Below w.heap.size w w' := by
  obtain ⟨i0, hi0, hz0, hz1, hz2⟩ := info_parts infoU64r
  obtain ⟨h1, h2, h3, h4, h5, h6⟩ := id hm
  obtain ⟨s, rfl⟩ := Int.eq_ofNat_of_zero_le h4
  obtain ⟨k, hk⟩ : ∃ k : Nat, s = 8 * k := ⟨s / 8, by omega⟩
  have e : ((s : Int) / 8).toNat = k := by omega
  rw [e]
  have hq : (s : Int).tdiv 8 = k := by rw [Int.tdiv_eq_ediv_of_nonneg (by omega)]; omega
  have hmk : ∀ (n : Nat) (W : World), n ≤ 100000 → (Instr.makeSlice 32 (.int .i64 (n : Int)) (.int .i64 (n : Int))).run Try.prog W = .ok (.slice (some ⟨W.heap.size, 0, none⟩) n n) (W.alloc (.cells (madeCells #[.int .u64 0] n) 29)) := fun n W hn => by
    have h := run_make_rowN (P := Try.prog) 32 29 i0 _ Try.underlying32 hi0 hz0 .i64 .i64 n n (Nat.le_refl _) (by rw [hz2]; omega) (by omega) W
    rw [hz1, Nat.mul_one] at h
    exact h
  have hmk1 := fun W => hmk k W (by omega)
  have hmk2 : ∀ W : World, (Instr.makeSlice 32 (.int .i64 16) (.int .i64 16)).run Try.prog W = .ok (.slice (some ⟨W.heap.size, 0, none⟩) 16 16) (W.alloc (.cells (madeCells #[.int .u64 0] 16) 29)) := fun W => hmk 16 W (by omega)
  have hkw : IntKind.i64.wrap (k : Int) = k := by rw [IntKind.wrap_i64]; omega
  have hkw2 : wrap64 (k : Int) = k := by unfold wrap64; omega
  clear hmk
  have Hm := Lib.hid hm
  have H6 := Lib.hid h6
  have H3 := Lib.hid h3
  have Hk := Lib.hid hk
  have He := Lib.hid e
  clear e hk h3 h6 hm
  go_enter Try.func17, Try.ntmps17
  go_upto_region 1 with fail
  go_region
  · obtain ⟨q, hq0⟩ : ∃ q, q = w.heap.size + 1 + 1 := ⟨_, rfl⟩
    obtain ⟨wg, hlet⟩ : ∃ wg, wg = w.heap.size + 1 := ⟨_, rfl⟩
    have hb1 := Blk.new w 29 (madeCells #[.int .u64 0] 16)
    have hb2 := Blk.new (w.alloc (.cells (madeCells #[.int .u64 0] 16) 29)) 29 (madeCells #[.int .u64 0] k)
    have hb3 := Blk.new ((w.alloc (.cells (madeCells #[.int .u64 0] 16) 29)).alloc (.cells (madeCells #[.int .u64 0] k) 29)) 54 #[.slice A n c, .slice (some ⟨w.heap.size, 0, none⟩) 16 16, .int .i64 0, .int .u64 base, .slice (some ⟨w.heap.size + 1, 0, none⟩) k k]
    rw [World.size_alloc] at hb2
    rw [World.size_alloc, World.size_alloc] at hb3
    have hbw := (((Below.refl w.heap.size w).alloc (Nat.le_refl _) (.cells (madeCells #[.int .u64 0] 16) 29)).alloc (by simp) (.cells (madeCells #[.int .u64 0] k) 29)).alloc (by simp; omega) (.cells #[.slice A n c, .slice (some ⟨w.heap.size, 0, none⟩) 16 16, .int .i64 0, .int .u64 base, .slice (some ⟨w.heap.size + 1, 0, none⟩) k k] 54)
    have hc1 := (hb1.alloc (.cells (madeCells #[.int .u64 0] k) 29)).alloc (.cells #[.slice A n c, .slice (some ⟨w.heap.size, 0, none⟩) 16 16, .int .i64 0, .int .u64 base, .slice (some ⟨w.heap.size + 1, 0, none⟩) k k] 54)
    have hc2 := hb2.alloc (.cells #[.slice A n c, .slice (some ⟨w.heap.size, 0, none⟩) 16 16, .int .i64 0, .int .u64 base, .slice (some ⟨w.heap.size + 1, 0, none⟩) k k] 54)
    have hne : q ≠ w.heap.size ∧ q ≠ wg ∧ w.heap.size ≠ wg := by omega
    have hlo : w.heap.size ≤ q ∧ w.heap.size ≤ w.heap.size ∧ w.heap.size ≤ wg := by omega
    rw [← hq0] at hb3 ⊢
    rw [← hlet] at hb3 hc1 hc2 hbw ⊢
    obtain ⟨V, hV⟩ : ∃ V, V = (((w.alloc (.cells (madeCells #[.int .u64 0] 16) 29)).alloc (.cells (madeCells #[.int .u64 0] k) 29)).alloc (.cells #[.slice A n c, .slice (some ⟨w.heap.size, 0, none⟩) 16 16, .int .i64 0, .int .u64 base, .slice (some ⟨wg, 0, none⟩) k k] 54)).drew := ⟨_, rfl⟩
    have hR0 : RefAt V w.heap.size q (w.heap.size) wg (.slice A n c) (List.replicate 16 0) 0 base (List.replicate k 0) := by
      rw [hV]
      refine ⟨by rw [List.length_replicate]; exact hb3.drew, ?_, ?_, hlo, hne, by simp, fun r hr => by rw [List.eq_of_mem_replicate hr]; unfold U64; omega, by omega, fun r hr => by rw [List.eq_of_mem_replicate hr]; unfold U64; omega, ⟨h1, h2, H3.out, by rw [List.length_replicate]; have := Hk.out; omega⟩⟩
      · rw [← made_u64]; exact hc1.drew
      · rw [← made_u64]; exact hc2.drew
    have hbV : Below w.heap.size w V := by rw [hV]; exact hbw.drew
    have hset := hR0.setReg (r := 14) (v := base + s) (by unfold U64; omega)
    have hbE := hbV.setCell (p := ⟨w.heap.size, 14, none⟩) hlo.2.1 (.int .u64 (base + s))
    have kr := hR0.regs_
    have k14 : V.cell? ⟨w.heap.size, 14, none⟩ = some (.int .u64 0) := hR0.reg rfl
    have f14 := hR0.rblk.frozen 14
    rw [← hV]
    have HV := Lib.hid hV
    have HR0 := Lib.hid hR0
    have HbV := Lib.hid hbV
    have Hset := Lib.hid hset
    have HbE := Lib.hid hbE
    have Hne := Lib.hid hne
    have Hlo := Lib.hid hlo
    have Hlet := Lib.hid hlet
    have Hq0 := Lib.hid hq0
    clear hq0 hlet hlo hne hbE hset hbV hR0 hV
    clear hb1 hb2 hb3 hc1 hc2 hbw
    go_wp2_with fail
    go_ret
    exact ⟨q, _, _, rfl, Hset.out, HbE.out⟩
  · obtain ⟨q, hq0⟩ : ∃ q, q = w.heap.size + 1 + 1 := ⟨_, rfl⟩
    obtain ⟨rg, hlet⟩ : ∃ rg, rg = w.heap.size + 1 := ⟨_, rfl⟩
    have hb1 := Blk.new w 29 (madeCells #[.int .u64 0] k)
    have hb2 := Blk.new (w.alloc (.cells (madeCells #[.int .u64 0] k) 29)) 29 (madeCells #[.int .u64 0] 16)
    have hb3 := Blk.new ((w.alloc (.cells (madeCells #[.int .u64 0] k) 29)).alloc (.cells (madeCells #[.int .u64 0] 16) 29)) 54 #[.slice A n c, .slice (some ⟨w.heap.size + 1, 0, none⟩) 16 16, .int .i64 0, .int .u64 base, .slice (some ⟨w.heap.size, 0, none⟩) k k]
    rw [World.size_alloc] at hb2
    rw [World.size_alloc, World.size_alloc] at hb3
    have hbw := (((Below.refl w.heap.size w).alloc (Nat.le_refl _) (.cells (madeCells #[.int .u64 0] k) 29)).alloc (by simp) (.cells (madeCells #[.int .u64 0] 16) 29)).alloc (by simp; omega) (.cells #[.slice A n c, .slice (some ⟨w.heap.size + 1, 0, none⟩) 16 16, .int .i64 0, .int .u64 base, .slice (some ⟨w.heap.size, 0, none⟩) k k] 54)
    have hc1 := (hb1.alloc (.cells (madeCells #[.int .u64 0] 16) 29)).alloc (.cells #[.slice A n c, .slice (some ⟨w.heap.size + 1, 0, none⟩) 16 16, .int .i64 0, .int .u64 base, .slice (some ⟨w.heap.size, 0, none⟩) k k] 54)
    have hc2 := hb2.alloc (.cells #[.slice A n c, .slice (some ⟨w.heap.size + 1, 0, none⟩) 16 16, .int .i64 0, .int .u64 base, .slice (some ⟨w.heap.size, 0, none⟩) k k] 54)
    have hne : q ≠ rg ∧ q ≠ w.heap.size ∧ rg ≠ w.heap.size := by omega
    have hlo : w.heap.size ≤ q ∧ w.heap.size ≤ rg ∧ w.heap.size ≤ w.heap.size := by omega
    rw [← hq0] at hb3 ⊢
    rw [← hlet] at hb3 hc1 hc2 hbw ⊢
    obtain ⟨V, hV⟩ : ∃ V, V = (((w.alloc (.cells (madeCells #[.int .u64 0] k) 29)).alloc (.cells (madeCells #[.int .u64 0] 16) 29)).alloc (.cells #[.slice A n c, .slice (some ⟨rg, 0, none⟩) 16 16, .int .i64 0, .int .u64 base, .slice (some ⟨w.heap.size, 0, none⟩) k k] 54)).drew := ⟨_, rfl⟩
    have hR0 : RefAt V w.heap.size q rg (w.heap.size) (.slice A n c) (List.replicate 16 0) 0 base (List.replicate k 0) := by
      rw [hV]
      refine ⟨by rw [List.length_replicate]; exact hb3.drew, ?_, ?_, hlo, hne, by simp, fun r hr => by rw [List.eq_of_mem_replicate hr]; unfold U64; omega, by omega, fun r hr => by rw [List.eq_of_mem_replicate hr]; unfold U64; omega, ⟨h1, h2, H3.out, by rw [List.length_replicate]; have := Hk.out; omega⟩⟩
      · rw [← made_u64]; exact hc2.drew
      · rw [← made_u64]; exact hc1.drew
    have hbV : Below w.heap.size w V := by rw [hV]; exact hbw.drew
    have hset := hR0.setReg (r := 14) (v := base + s) (by unfold U64; omega)
    have hbE := hbV.setCell (p := ⟨rg, 14, none⟩) hlo.2.1 (.int .u64 (base + s))
    have kr := hR0.regs_
    have k14 : V.cell? ⟨rg, 14, none⟩ = some (.int .u64 0) := hR0.reg rfl
    have f14 := hR0.rblk.frozen 14
    rw [← hV]
    have HV := Lib.hid hV
    have HR0 := Lib.hid hR0
    have HbV := Lib.hid hbV
    have Hset := Lib.hid hset
    have HbE := Lib.hid hbE
    have Hne := Lib.hid hne
    have Hlo := Lib.hid hlo
    have Hlet := Lib.hid hlet
    have Hq0 := Lib.hid hq0
    clear hq0 hlet hlo hne hbE hset hbV hR0 hV
    clear hb1 hb2 hb3 hc1 hc2 hbw
    go_wp2_with fail
    go_ret
    exact ⟨q, _, _, rfl, Hset.out, HbE.out⟩
set_option maxRecDepth 100000 in
set_option maxHeartbeats 4000000 in
theorem rflat_any {w : World} {lo q rg wg : Nat} {cv : Value} {regs : List Int} {pc base : Int} {ws : List Int} (h : RefAt w lo q rg wg cv regs pc base ws) :
    Calls Try.prog 19 #[.pointer (some ⟨q, 0, none⟩)] w fun e w' => ∃ sv, e = .returned sv ∧ w'.ownsRow w.heap.size 5 1 sv (8 * ws.length) (byteVals (flat ws)) ∧ Below w.heap.size w w' := by
  obtain ⟨iu, hu0, hu1, hu2, hu3⟩ := info_parts infoU8
  obtain ⟨n, hn⟩ : ∃ n, ws.length = n := ⟨_, rfl⟩
  have hf4 := h.fit.2.2.2
  have kw := h.words_
  rw [hn] at hf4 kw ⊢
  have H := Lib.hid h
  have Hn := Lib.hid hn
  clear hn h
  go_enter Try.func19, Try.ntmps19
  go_wp2_with fail
  go_loopw [3, 11] (fun s i wq => ∃ k : Nat, k ≤ n ∧ i = .int .i64 k ∧ wq.ownsRow w.heap.size 5 1 s (8 * k) (byteVals (flat (ws.take k))) ∧ Below w.heap.size w wq) (fun _ i _ => n - (intOf i).toNat)
  case atStart => exact ⟨0, by omega, rfl, by simpa [byteVals, flat] using World.ownsRow_nil _ _ _ _, Below.refl _ _⟩
  case round =>
    obtain ⟨k, hk, rfl, hown, hbw⟩ := hrel
    by_cases hlt : k < n
    · obtain ⟨x, hx⟩ : ∃ x, ws[k]? = some x := ⟨_, List.getElem?_eq_getElem (by have := Hn.out; omega)⟩
      have hC := H.out.below hbw
      have kx := hC.word hx
      have hu := H.out.wok x (List.mem_of_getElem? hx)
      have hflat : byteVals (flat (ws.take (k + 1))) = byteVals (flat (ws.take k)) ++ byteVals (bytesLE 8 x) := by
        rw [List.take_add_one, hx]
        simp [flat, byteVals]
      have Hown := Lib.hid hown
      have Hbw := Lib.hid hbw
      have Hx := Lib.hid hx
      have HC := Lib.hid hC
      have Hu := Lib.hid hu
      have Hflat := Lib.hid hflat
      clear hflat hu hC hx hbw hown
      go_wp2_with fail
      refine (refBytes_any x _ Hu.out).mono ?_
      rintro e w5 ⟨s8, rfl, hown8, hb5⟩
      obtain ⟨A8, c8, rfl, hn8, hc8, hr8⟩ := own_any hown8
      have hO5 := own_kept' Hown.out (only_of_below hb5 none) nofun
      have hbox5 := Hbw.out.trans (hb5.mono Hbw.out.size)
      have hs5 := hbox5.size
      have HO5 := Lib.hid hO5
      have Hbox5 := Lib.hid hbox5
      have Hr8 := Lib.hid hr8
      clear hr8 hbox5 hO5
      clear hown8 hb5 kx
      go_wp2_with (first
        | (at_builtin
           refine wpList_append_any _ rfl (.tmp 15) (.tmp 17) _ rfl w.heap.size 5 iu _ 1 1 Try.underlying33 hu0 hu1 hu2 hu3 rfl (by omega) _ (8 * k) _ rfl HO5.out w5.heap.size A8 8 c8 (byteVals (bytesLE 8 x)) rfl Hr8.out ?c1 ?c2 ?c3 ?c4 ?_
           case c1 => intro u hu; simp only [byteVals, List.mem_map] at hu; obtain ⟨y, _, rfl⟩ := hu; rfl
           case c2 => simp only [maxLen]; omega
           case c3 => omega
           case c4 => exact hs5
           intro v9 w9 hown9 hg9 hat9))
      have hb9 := Hbox5.out.grown hg9 hs5 (fun g e => (HO5.out.lt g e).1)
      refine ⟨⟨k + 1, by omega, by go_num, ?_, hb9⟩, by simp [intOf]; omega⟩
      rw [Hflat.out]
      exact hown9
    · have hkn : k = n := by omega
      have htk : ws.take k = ws := List.take_of_length_le (by have := Hn.out; omega)
      rw [htk, hkn] at hown
      have Hown := Lib.hid hown
      have Hbw := Lib.hid hbw
      clear hbw hown
      go_wp2_with fail
      go_ret
      exact ⟨_, rfl, Hown.out, Hbw.out⟩
end Go.Proofs.Ytndmhnmclogpcaa
