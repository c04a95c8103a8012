/- The document's machine as it lies in memory. Conditions: the machine lies in memory. -/
import Derived.Test.YtndmhnmclogpcaaChip4
set_option linter.unusedVariables false
set_option linter.unusedSimpArgs false
namespace Go.Proofs.Ytndmhnmclogpcaa
open Go.RowKit

/-- the document's machine -/
structure RefAt (w : World) (lo q rg wg : Nat) (cv : Value) (regs : List Int) (pc base : Int) (ws : List Int) : Prop where
  blk : Blk w q 54 #[cv, .slice (some ⟨rg, 0, none⟩) 16 16, .int .i64 pc, .int .u64 base, .slice (some ⟨wg, 0, none⟩) ws.length ws.length]
  rblk : Blk w rg 29 (regs.map (Value.int .u64)).toArray
  wblk : Blk w wg 29 (ws.map (Value.int .u64)).toArray
  low : lo ≤ q ∧ lo ≤ rg ∧ lo ≤ wg
  ne : q ≠ rg ∧ q ≠ wg ∧ rg ≠ wg
  len : regs.length = 16
  u64 : ∀ r ∈ regs, U64 r
  pcI : -9223372036854775808 ≤ pc ∧ pc ≤ 9223372036854775807
  wok : ∀ x ∈ ws, U64 x
  fit : 8 ≤ base ∧ base ≤ 281474976710656 ∧ base % 8 = 0 ∧ 8 * ws.length ≤ 65536
section
variable {w : World} {lo q rg wg : Nat} {cv : Value} {regs : List Int} {pc base : Int} {ws : List Int}
theorem RefAt.code (h : RefAt w lo q rg wg cv regs pc base ws) : w.cell? ⟨q, 0, none⟩ = some cv := by rw [h.blk.cell 0]; rfl
theorem RefAt.regs_ (h : RefAt w lo q rg wg cv regs pc base ws) : w.cell? ⟨q, 1, none⟩ = some (.slice (some ⟨rg, 0, none⟩) 16 16) := by rw [h.blk.cell 1]; rfl
theorem RefAt.pc_ (h : RefAt w lo q rg wg cv regs pc base ws) : w.cell? ⟨q, 2, none⟩ = some (.int .i64 pc) := by rw [h.blk.cell 2]; rfl
theorem RefAt.base_ (h : RefAt w lo q rg wg cv regs pc base ws) : w.cell? ⟨q, 3, none⟩ = some (.int .u64 base) := by rw [h.blk.cell 3]; rfl
theorem RefAt.words_ (h : RefAt w lo q rg wg cv regs pc base ws) : w.cell? ⟨q, 4, none⟩ = some (.slice (some ⟨wg, 0, none⟩) ws.length ws.length) := by rw [h.blk.cell 4]; rfl
theorem RefAt.reg (h : RefAt w lo q rg wg cv regs pc base ws) {i : Nat} {r : Int} (hr : regs[i]? = some r) : w.cell? ⟨rg, i, none⟩ = some (.int .u64 r) := by rw [h.rblk.cell i, List.getElem?_toArray, List.getElem?_map, hr]; rfl
theorem RefAt.word (h : RefAt w lo q rg wg cv regs pc base ws) {i : Nat} {r : Int} (hr : ws[i]? = some r) : w.cell? ⟨wg, i, none⟩ = some (.int .u64 r) := by rw [h.wblk.cell i, List.getElem?_toArray, List.getElem?_map, hr]; rfl
theorem RefAt.keep {S : Nat → Prop} {w' : World} (h : RefAt w lo q rg wg cv regs pc base ws) (hk : Keeps S w w') (h1 : ¬ S q) (h2 : ¬ S rg) (h3 : ¬ S wg) : RefAt w' lo q rg wg cv regs pc base ws :=
  ⟨hk.blk h.blk h1, hk.blk h.rblk h2, hk.blk h.wblk h3, h.low, h.ne, h.len, h.u64, h.pcI, h.wok, h.fit⟩
theorem RefAt.below {w' : World} (h : RefAt w lo q rg wg cv regs pc base ws) (hb : Below w.heap.size w w') : RefAt w' lo q rg wg cv regs pc base ws :=
  h.keep (S := fun _ => False) (Keeps.of_below hb (Nat.le_refl _)) id id id
theorem RefAt.drewN (h : RefAt w lo q rg wg cv regs pc base ws) (k : Nat) : RefAt (w.drewN k) lo q rg wg cv regs pc base ws := ⟨h.blk, h.rblk, h.wblk, h.low, h.ne, h.len, h.u64, h.pcI, h.wok, h.fit⟩
theorem RefAt.alloc (h : RefAt w lo q rg wg cv regs pc base ws) (o : Obj) : RefAt (w.alloc o) lo q rg wg cv regs pc base ws := h.below ((Below.refl w.heap.size w).alloc (Nat.le_refl _) o)
theorem RefAt.loLt (h : RefAt w lo q rg wg cv regs pc base ws) : lo ≤ w.heap.size := by have := h.low; have := h.blk.lt; omega
theorem RefAt.setReg (h : RefAt w lo q rg wg cv regs pc base ws) {r : Nat} {v : Int} (hv : U64 v) : RefAt (w.setCell ⟨rg, r, none⟩ (.int .u64 v)) lo q rg wg cv (regs.set r v) pc base ws := by
  obtain ⟨n1, n2, n3⟩ := h.ne
  refine ⟨h.blk.far (p := ⟨rg, r, none⟩) n1 _, ?_, h.wblk.far (p := ⟨rg, r, none⟩) (Ne.symm n3) _, h.low, h.ne, by rw [List.length_set]; exact h.len, fun x hx => ?_, h.pcI, h.wok, h.fit⟩
  · have := h.rblk.set_ r (.int .u64 v)
    rwa [show (regs.map (Value.int .u64)).toArray.setIfInBounds r (.int .u64 v) = ((regs.set r v).map (Value.int .u64)).toArray by simp [List.map_set]] at this
  · rcases List.mem_or_eq_of_mem_set hx with h1 | h1
    · exact h.u64 x h1
    · rw [h1]; exact hv
theorem RefAt.setWord (h : RefAt w lo q rg wg cv regs pc base ws) {r : Nat} {v : Int} (hv : U64 v) : RefAt (w.setCell ⟨wg, r, none⟩ (.int .u64 v)) lo q rg wg cv regs pc base (ws.set r v) := by
  obtain ⟨n1, n2, n3⟩ := h.ne
  refine ⟨by rw [List.length_set]; exact h.blk.far (p := ⟨wg, r, none⟩) n2 _, h.rblk.far (p := ⟨wg, r, none⟩) n3 _, ?_, h.low, h.ne, h.len, h.u64, h.pcI, fun x hx => ?_, by rw [List.length_set]; exact h.fit⟩
  · have := h.wblk.set_ r (.int .u64 v)
    rwa [show (ws.map (Value.int .u64)).toArray.setIfInBounds r (.int .u64 v) = ((ws.set r v).map (Value.int .u64)).toArray by simp [List.map_set]] at this
  · rcases List.mem_or_eq_of_mem_set hx with h1 | h1
    · exact h.wok x h1
    · rw [h1]; exact hv
theorem RefAt.setPc (h : RefAt w lo q rg wg cv regs pc base ws) {v : Int} (hv : -9223372036854775808 ≤ v ∧ v ≤ 9223372036854775807) : RefAt (w.setCell ⟨q, 2, none⟩ (.int .i64 v)) lo q rg wg cv regs v base ws := by
  obtain ⟨n1, n2, n3⟩ := h.ne
  refine ⟨?_, h.rblk.far (p := ⟨q, 2, none⟩) (Ne.symm n1) _, h.wblk.far (p := ⟨q, 2, none⟩) (Ne.symm n2) _, h.low, h.ne, h.len, h.u64, hv, h.wok, h.fit⟩
  have := h.blk.set_ 2 (.int .i64 v)
  simpa using this
/-- what a call of the document's machine may change -/
def RefS (q rg wg : Nat) : Nat → Prop := fun i => i = q ∨ i = rg ∨ i = wg
theorem RefAt.keepR {w' : World} (h : RefAt w lo q rg wg cv regs pc base ws) (hk : Keeps (RefS q rg wg) w w') : Below lo w w' := hk.toBelow h.loLt fun i e => by
  have := h.low
  rcases e with e | e | e <;> omega
end
end Go.Proofs.Ytndmhnmclogpcaa
