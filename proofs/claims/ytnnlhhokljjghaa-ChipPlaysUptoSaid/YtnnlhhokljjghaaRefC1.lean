/- The document's machine as it lies in memory; walks of its Where, Push, Enter. Conditions: the machine lies in memory. -/
import Derived.Test.YtnnlhhokljjghaaEnter
import Derived.Test.YtnnlhhokljjghaaFirstM
set_option linter.unusedVariables false
set_option linter.unusedSimpArgs false
namespace Go.Proofs.Ytnnlhhokljjghaa
open Go.RowKit

/-- the document's machine -/
structure RefAt (w : World) (lo q rg wg : Nat) (cv : Value) (regs : List Int) (pc base : Int) (ws : List Int) : Prop where
  blk : Blk w q 88 #[cv, .slice (some ⟨rg, 0, none⟩) 16 16, .int .i64 pc, .int .u64 base, .slice (some ⟨wg, 0, none⟩) ws.length ws.length]
  rblk : Blk w rg 39 (regs.map (Value.int .u64)).toArray
  wblk : Blk w wg 39 (ws.map (Value.int .u64)).toArray
  low : lo ≤ q ∧ lo ≤ rg ∧ lo ≤ wg
  ne : q ≠ rg ∧ q ≠ wg ∧ rg ≠ wg
  len : regs.length = 16
  u64 : ∀ r ∈ regs, U64 r
  pcI : -9223372036854775808 ≤ pc ∧ pc ≤ 9223372036854775807
  wok : ∀ x ∈ ws, U64 x
  fit : 8 ≤ base ∧ base ≤ 281474976710656 ∧ base % 8 = 0 ∧ 8 * ws.length ≤ 65536
section
variable {w : World} {lo q rg wg : Nat} {cv : Value} {regs : List Int} {pc base : Int} {ws : List Int}
theorem RefAt.code (h : RefAt w lo q rg wg cv regs pc base ws) : w.cell? ⟨q, 0, none⟩ = some cv := by rw [h.blk.cell 0]; rfl
theorem RefAt.regs_ (h : RefAt w lo q rg wg cv regs pc base ws) : w.cell? ⟨q, 1, none⟩ = some (.slice (some ⟨rg, 0, none⟩) 16 16) := by rw [h.blk.cell 1]; rfl
theorem RefAt.pc_ (h : RefAt w lo q rg wg cv regs pc base ws) : w.cell? ⟨q, 2, none⟩ = some (.int .i64 pc) := by rw [h.blk.cell 2]; rfl
theorem RefAt.base_ (h : RefAt w lo q rg wg cv regs pc base ws) : w.cell? ⟨q, 3, none⟩ = some (.int .u64 base) := by rw [h.blk.cell 3]; rfl
theorem RefAt.words_ (h : RefAt w lo q rg wg cv regs pc base ws) : w.cell? ⟨q, 4, none⟩ = some (.slice (some ⟨wg, 0, none⟩) ws.length ws.length) := by rw [h.blk.cell 4]; rfl
theorem RefAt.reg (h : RefAt w lo q rg wg cv regs pc base ws) {i : Nat} {r : Int} (hr : regs[i]? = some r) : w.cell? ⟨rg, i, none⟩ = some (.int .u64 r) := by rw [h.rblk.cell i, List.getElem?_toArray, List.getElem?_map, hr]; rfl
theorem RefAt.word (h : RefAt w lo q rg wg cv regs pc base ws) {i : Nat} {r : Int} (hr : ws[i]? = some r) : w.cell? ⟨wg, i, none⟩ = some (.int .u64 r) := by rw [h.wblk.cell i, List.getElem?_toArray, List.getElem?_map, hr]; rfl
theorem RefAt.keep {S : Nat → Prop} {w' : World} (h : RefAt w lo q rg wg cv regs pc base ws) (hk : Keeps S w w') (h1 : ¬ S q) (h2 : ¬ S rg) (h3 : ¬ S wg) : RefAt w' lo q rg wg cv regs pc base ws :=
  ⟨hk.blk h.blk h1, hk.blk h.rblk h2, hk.blk h.wblk h3, h.low, h.ne, h.len, h.u64, h.pcI, h.wok, h.fit⟩
theorem RefAt.below {w' : World} (h : RefAt w lo q rg wg cv regs pc base ws) (hb : Below w.heap.size w w') : RefAt w' lo q rg wg cv regs pc base ws :=
  h.keep (S := fun _ => False) (Keeps.of_below hb (Nat.le_refl _)) id id id
theorem RefAt.drewN (h : RefAt w lo q rg wg cv regs pc base ws) (k : Nat) : RefAt (w.drewN k) lo q rg wg cv regs pc base ws := ⟨h.blk, h.rblk, h.wblk, h.low, h.ne, h.len, h.u64, h.pcI, h.wok, h.fit⟩
theorem RefAt.alloc (h : RefAt w lo q rg wg cv regs pc base ws) (o : Obj) : RefAt (w.alloc o) lo q rg wg cv regs pc base ws := h.below ((Below.refl w.heap.size w).alloc (Nat.le_refl _) o)
theorem RefAt.loLt (h : RefAt w lo q rg wg cv regs pc base ws) : lo ≤ w.heap.size := by have := h.low; have := h.blk.lt; omega
theorem RefAt.setReg (h : RefAt w lo q rg wg cv regs pc base ws) {r : Nat} {v : Int} (hv : U64 v) : RefAt (w.setCell ⟨rg, r, none⟩ (.int .u64 v)) lo q rg wg cv (regs.set r v) pc base ws := by
  obtain ⟨n1, n2, n3⟩ := h.ne
  refine ⟨h.blk.far (p := ⟨rg, r, none⟩) n1 _, ?_, h.wblk.far (p := ⟨rg, r, none⟩) (Ne.symm n3) _, h.low, h.ne, by rw [List.length_set]; exact h.len, fun x hx => ?_, h.pcI, h.wok, h.fit⟩
  · have := h.rblk.set_ r (.int .u64 v)
    rwa [show (regs.map (Value.int .u64)).toArray.setIfInBounds r (.int .u64 v) = ((regs.set r v).map (Value.int .u64)).toArray by simp [List.map_set]] at this
  · rcases List.mem_or_eq_of_mem_set hx with h1 | h1
    · exact h.u64 x h1
    · rw [h1]; exact hv
theorem RefAt.setWord (h : RefAt w lo q rg wg cv regs pc base ws) {r : Nat} {v : Int} (hv : U64 v) : RefAt (w.setCell ⟨wg, r, none⟩ (.int .u64 v)) lo q rg wg cv regs pc base (ws.set r v) := by
  obtain ⟨n1, n2, n3⟩ := h.ne
  refine ⟨by rw [List.length_set]; exact h.blk.far (p := ⟨wg, r, none⟩) n2 _, h.rblk.far (p := ⟨wg, r, none⟩) n3 _, ?_, h.low, h.ne, h.len, h.u64, h.pcI, fun x hx => ?_, by rw [List.length_set]; exact h.fit⟩
  · have := h.wblk.set_ r (.int .u64 v)
    rwa [show (ws.map (Value.int .u64)).toArray.setIfInBounds r (.int .u64 v) = ((ws.set r v).map (Value.int .u64)).toArray by simp [List.map_set]] at this
  · rcases List.mem_or_eq_of_mem_set hx with h1 | h1
    · exact h.wok x h1
    · rw [h1]; exact hv
theorem RefAt.setPc (h : RefAt w lo q rg wg cv regs pc base ws) {v : Int} (hv : -9223372036854775808 ≤ v ∧ v ≤ 9223372036854775807) : RefAt (w.setCell ⟨q, 2, none⟩ (.int .i64 v)) lo q rg wg cv regs v base ws := by
  obtain ⟨n1, n2, n3⟩ := h.ne
  refine ⟨?_, h.rblk.far (p := ⟨q, 2, none⟩) (Ne.symm n1) _, h.wblk.far (p := ⟨q, 2, none⟩) (Ne.symm n2) _, h.low, h.ne, h.len, h.u64, hv, h.wok, h.fit⟩
  have := h.blk.set_ 2 (.int .i64 v)
  simpa using this
/-- what a call of the document's machine may change -/
def RefS (q rg wg : Nat) : Nat → Prop := fun i => i = q ∨ i = rg ∨ i = wg
theorem RefAt.keepR {w' : World} (h : RefAt w lo q rg wg cv regs pc base ws) (hk : Keeps (RefS q rg wg) w w') : Below lo w w' := hk.toBelow h.loLt fun i e => by
  have := h.low
  rcases e with e | e | e <;> omega
end
set_option maxRecDepth 100000 in
set_option maxHeartbeats 4000000 in
theorem where_in {w : World} {lo q rg wg : Nat} {cv : Value} {regs : List Int} {pc base : Int} {ws : List Int} (h : RefAt w lo q rg wg cv regs pc base ws) (a : Int) (k : Nat) (hk : k < ws.length) (ha : a = base + 8 * k) :
    Calls Try.prog 39 #[.pointer (some ⟨q, 0, none⟩), .int .u64 a] w fun e w' => e = .returned (.int .i64 k) ∧ ∃ d, w' = w.drewN d := by
  obtain ⟨f1, f2, f3, f4⟩ := h.fit
  have kb := h.base_
  have kw := h.words_
  obtain ⟨n, hn⟩ : ∃ n, ws.length = n := ⟨_, rfl⟩
  rw [hn] at f4 kw
  have hkn : k < n := by omega
  obtain ⟨r, hr⟩ : ∃ r, a.tmod 8 = r := ⟨_, rfl⟩
  have d1 : (r != 0) = false := by rw [← hr, Int.tmod_eq_emod_of_nonneg (by omega)]; simp; omega
  have d2 : decide (a < base) = false := by simp; omega
  have d3 : decide (base + 8 * (n : Int) ≤ a) = false := by simp; omega
  have d4 : a - base = 8 * k := by omega
  have d5 : (8 * (k : Int)).tdiv 8 = k := by rw [Int.mul_comm]; exact Int.mul_tdiv_cancel _ (by omega)
  have a0 : 0 ≤ a := by omega
  have a1 : a ≤ 300000000000000 := by omega
  clear h hn hk ha f3
  go_enter Try.func39, Try.ntmps39
  go_upto_region 1 with fail
  go_quiet (fail)
  go_wp2_with fail
  go_ret
  exact ⟨rfl, _, rfl⟩
set_option maxRecDepth 100000 in
set_option maxHeartbeats 4000000 in
theorem where_out {w : World} {lo q rg wg : Nat} {cv : Value} {regs : List Int} {pc base : Int} {ws : List Int} (h : RefAt w lo q rg wg cv regs pc base ws) (a : Int) (ha : U64 a) (hno : ∀ k : Nat, k < ws.length → a ≠ base + 8 * k) :
    Calls Try.prog 39 #[.pointer (some ⟨q, 0, none⟩), .int .u64 a] w fun e w' => e = .returned (.int .i64 (-1)) ∧ ∃ d, w' = w.drewN d := by
  obtain ⟨f1, f2, f3, f4⟩ := h.fit
  have kb := h.base_
  have kw := h.words_
  obtain ⟨n, hn⟩ : ∃ n, ws.length = n := ⟨_, rfl⟩
  rw [hn] at f4 kw
  unfold U64 at ha
  obtain ⟨a0, a1⟩ := ha
  obtain ⟨r, hr⟩ : ∃ r, a.tmod 8 = r := ⟨_, rfl⟩
  have hr8 : r = a % 8 := by rw [← hr, Int.tmod_eq_emod_of_nonneg a0]
  have hcase : (r != 0) = true ∨ ((r != 0) = false ∧ decide (a < base) = true) ∨ ((r != 0) = false ∧ decide (a < base) = false ∧ decide (base + 8 * (n : Int) ≤ a) = true) := by
    by_cases h1 : r = 0
    · by_cases h2 : a < base
      · exact .inr (.inl ⟨by simpa using h1, by simpa using h2⟩)
      · refine .inr (.inr ⟨by simpa using h1, by simpa using h2, ?_⟩)
        have := hno ((a - base) / 8).toNat
        simp only [decide_eq_true_eq]
        omega
    · exact .inl (by simpa using h1)
  clear h hn hno f3 hr8
  rcases hcase with h1 | ⟨h1, h2⟩ | ⟨h1, h2, h3⟩
  all_goals
    go_enter Try.func39, Try.ntmps39
    go_upto_region 1 with fail
    go_quiet (fail)
    go_wp2_with fail
    go_ret
    exact ⟨rfl, _, rfl⟩
set_option maxRecDepth 100000 in
set_option maxHeartbeats 4000000 in
theorem rpush_out {w : World} {lo q rg wg : Nat} {cv : Value} {regs : List Int} {pc base : Int} {ws : List Int} (h : RefAt w lo q rg wg cv regs pc base ws) (v : Int) (hn : ∀ k : Nat, k < ws.length → (regs.getD 14 0 - 8) % 18446744073709551616 ≠ base + 8 * k) :
    Calls Try.prog 41 #[.pointer (some ⟨q, 0, none⟩), .int .u64 v] w fun e w' => e = .returned (.bool false) ∧ ∃ d, w' = w.drewN d := by
  obtain ⟨sp, hsp⟩ : ∃ sp, regs[14]? = some sp := ⟨_, List.getElem?_eq_getElem (by rw [h.len]; omega)⟩
  have hgs : regs.getD 14 0 = sp := by rw [List.getD_eq_getElem?_getD, hsp, Option.getD_some]
  have usp := h.u64 _ (List.mem_of_getElem? hsp)
  have k14 : w.cell? ⟨rg, 14, none⟩ = some (.int .u64 sp) := h.reg hsp
  have kr := h.regs_
  rw [hgs] at hn
  obtain ⟨a, ha⟩ : ∃ a, IntKind.u64.wrap (sp - 8) = a := ⟨_, rfl⟩
  have ha2 : (sp - 8) % 18446744073709551616 = a := by rw [← ha, IntKind.wrap_u64]
  rw [ha2] at hn
  have hau : U64 a := by rw [← ha2]; unfold U64; omega
  have H := Lib.hid h
  have Hn := Lib.hid hn
  have Hau := Lib.hid hau
  have Ha2 := Lib.hid ha2
  have Hsp := Lib.hid hsp
  have Hgs := Lib.hid hgs
  clear hgs hsp ha2 hau hn h
  go_enter Try.func41, Try.ntmps41
  go_wp2_with fail
  refine (where_out H.out a Hau.out Hn.out).mono ?_
  rintro e w1 ⟨rfl, d, rfl⟩
  go_wp2_with fail
  go_ret
  exact ⟨rfl, d, rfl⟩
set_option maxRecDepth 100000 in
set_option maxHeartbeats 4000000 in
theorem rpush_in {w : World} {lo q rg wg : Nat} {cv : Value} {regs : List Int} {pc base : Int} {ws : List Int} (h : RefAt w lo q rg wg cv regs pc base ws) (k : Nat) (v : Int) (hk : k < ws.length) (hv : U64 v) (hn : (regs.getD 14 0 - 8) % 18446744073709551616 = base + 8 * k) :
    Calls Try.prog 41 #[.pointer (some ⟨q, 0, none⟩), .int .u64 v] w fun e w' => e = .returned (.bool true) ∧ RefAt w' lo q rg wg cv (regs.set 14 (base + 8 * k)) pc base (ws.set k v) ∧ Keeps (RefS q rg wg) w w' := by
  obtain ⟨sp, hsp⟩ : ∃ sp, regs[14]? = some sp := ⟨_, List.getElem?_eq_getElem (by rw [h.len]; omega)⟩
  have hgs : regs.getD 14 0 = sp := by rw [List.getD_eq_getElem?_getD, hsp, Option.getD_some]
  have usp := h.u64 _ (List.mem_of_getElem? hsp)
  have k14 : w.cell? ⟨rg, 14, none⟩ = some (.int .u64 sp) := h.reg hsp
  have kr := h.regs_
  rw [hgs] at hn
  obtain ⟨a, ha⟩ : ∃ a, IntKind.u64.wrap (sp - 8) = a := ⟨_, rfl⟩
  have ha2 : (sp - 8) % 18446744073709551616 = a := by rw [← ha, IntKind.wrap_u64]
  have hab : a = base + 8 * k := by rw [← ha2, hn]
  have hau : U64 a := by rw [← ha2]; unfold U64; omega
  rw [← hab]
  obtain ⟨n, hnn⟩ : ∃ n, ws.length = n := ⟨_, rfl⟩
  have hkn : k < n := by omega
  obtain ⟨y, hy⟩ : ∃ y, ws[k]? = some y := ⟨_, List.getElem?_eq_getElem hk⟩
  have hf4 := h.fit.2.2.2
  rw [hnn] at hf4
  have H := Lib.hid h
  have Hn := Lib.hid hn
  have Hau := Lib.hid hau
  have Ha2 := Lib.hid ha2
  have Hab := Lib.hid hab
  have Hgs := Lib.hid hgs
  have Hsp := Lib.hid hsp
  have Hy := Lib.hid hy
  have Hk := Lib.hid hk
  have Hv := Lib.hid hv
  clear hv hk hy hsp hgs hab ha2 hau hn h
  go_enter Try.func41, Try.ntmps41
  go_wp2_with fail
  refine (where_in H.out a k Hk.out Hab.out).mono ?_
  rintro e w1 ⟨rfl, d, rfl⟩
  have hC := H.out.drewN d
  have kw := hC.words_
  have ky := hC.word Hy.out
  have fy := hC.wblk.frozen k
  have kr2 := hC.regs_
  have k142 : (w.drewN d).cell? ⟨rg, 14, none⟩ = some (.int .u64 sp) := hC.reg Hsp.out
  have f14 := hC.rblk.frozen 14
  have nwr : wg ≠ rg := Ne.symm hC.ne.2.2
  have nwq : wg ≠ q := Ne.symm hC.ne.2.1
  rw [hnn] at kw
  have hset := (hC.setWord (r := k) Hv.out).setReg (r := 14) Hau.out
  have hK := ((Keeps.of_below (S := RefS q rg wg) (below_drewN (Below.refl w.heap.size w) d) (Nat.le_refl _)).setCell (p := ⟨wg, k, none⟩) (Or.inl (Or.inr (Or.inr rfl))) (.int .u64 v)).setCell (p := ⟨rg, 14, none⟩) (Or.inl (Or.inr (Or.inl rfl))) (.int .u64 a)
  have hC1 := hC.setWord (r := k) Hv.out
  have kr3 := hC1.regs_
  have k143 : ((w.drewN d).setCell ⟨wg, k, none⟩ (.int .u64 v)).cell? ⟨rg, 14, none⟩ = some (.int .u64 sp) := hC1.reg Hsp.out
  have f143 := hC1.rblk.frozen 14
  have Hset := Lib.hid hset
  have HK := Lib.hid hK
  have HC := Lib.hid hC
  have HC1 := Lib.hid hC1
  clear hC1 hC hK hset
  go_wp2_with fail
  go_ret
  exact ⟨rfl, Hset.out, HK.out⟩
end Go.Proofs.Ytnnlhhokljjghaa
