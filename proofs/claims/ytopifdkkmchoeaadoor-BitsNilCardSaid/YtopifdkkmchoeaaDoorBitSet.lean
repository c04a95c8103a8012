/- Walks of the sets of numbers (bits): New, may, Has, Add, Del, Len, OnesCount64 at two numbers. Conditions: the set's two blocks are known. -/
import Derived.Test.YtopifdkkmchoeaaDoorRows
import Derived.Test.YtopifdkkmchoeaaDoorWords
import Derived.Test.YtopifdkkmchoeaaDoorPlainWord
import Derived.WalkKit
import Derived.WalkSpells
import Derived.WalkLawsBesides
import Derived.Lib.Hide
import Derived.BigQuiet
set_option linter.unusedVariables false
set_option linter.unusedSimpArgs false
namespace Go.Proofs.YtopifdkkmchoeaaDoor
open Go.RowKit

def setCells (n : Int) (h L : Nat) : Array Value := #[.int .i64 n, .slice (some ⟨h, 0, none⟩) L L]
def u64s (ws : List Int) : Array Value := (ws.map (Value.int .u64)).toArray
def zeros (L : Nat) : List Int := List.replicate L 0
/-- a set behind a pointer: its block, its words' block -/
structure SetAt (w : World) (g h : Nat) (n : Int) (ws : List Int) : Prop where
  top : Blk w g 35 (setCells n h ws.length)
  words : Blk w h 36 (u64s ws)
  lo : 0 ≤ n
  hi : n ≤ 1048576
  len : (ws.length : Int) = (n + 63) / 64
  wf : ∀ x ∈ ws, U64 x
theorem infoSet : (Tryd.prog.info? 36).map (fun i => (i.zero, i.size, i.bytes)) = some (some (.int .u64 0), 1, 8) := by kernel_rfl
theorem made_u64s (L : Nat) : madeCells #[Value.int .u64 0] (L * 1) = u64s (zeros L) := by
  apply Array.toList_inj.1
  rw [Nat.mul_one, toList_madeCells_one]
  simp [u64s, zeros]
theorem mk_row (x : Int) (L : Nat) (hx : x = L) (hL : L ≤ 1048576) (W : World) :
    (Instr.makeSlice 33 (.int .i64 x) (.int .i64 x)).run Tryd.prog W = .ok (.slice (some ⟨W.heap.size, 0, none⟩) L L) (W.alloc (.cells (u64s (zeros L)) 36)) := by
  obtain ⟨i0, hi0, hz0, hz1, hz2⟩ := info_parts infoSet
  subst hx
  rw [run_make_rowN (P := Tryd.prog) 33 36 i0 _ Tryd.underlying33 hi0 hz0 .i64 .i64 L L (Nat.le_refl _) (by rw [hz2]; omega) (by omega) W, hz1]
  show Result.ok _ (W.alloc (.cells (madeCells #[Value.int .u64 0] (L * 1)) _)) = _
  rw [made_u64s]
set_option maxHeartbeats 400000 in
theorem new_any (n0 n : Int) (w : World) (hn : n = min (max n0 0) 1048576) :
    Calls Tryd.prog 5 #[.int .i64 n0] w fun e w' => e = .returned (.pointer (some ⟨w.heap.size + 1, 0, none⟩)) ∧ SetAt w' (w.heap.size + 1) w.heap.size n (zeros ((n + 63) / 64).toNat) ∧ Below w.heap.size w w' := by
  obtain ⟨L, hL⟩ : ∃ L : Nat, (n + 63) / 64 = L := Int.eq_ofNat_of_zero_le (by omega)
  have hL2 : L ≤ 16384 := by omega
  have hfin : ∀ W : World, W = (w.alloc (.cells (u64s (zeros L)) 36)).alloc (.cells (setCells n w.heap.size L) 35) →
      SetAt W (w.heap.size + 1) w.heap.size n (zeros ((n + 63) / 64).toNat) ∧ Below w.heap.size w W := by
    intro W hW
    subst hW
    rw [hL, Int.toNat_natCast]
    refine ⟨⟨?_, ?_, by omega, by omega, by simp [hL, zeros], fun x hx => by rw [(List.mem_replicate.1 hx).2]; unfold U64; omega⟩, ((Below.refl _ _).alloc (Nat.le_refl _) _).alloc (by simp) _⟩
    · rw [show (zeros L).length = L from by simp [zeros]]
      have := Blk.new (w.alloc (.cells (u64s (zeros L)) 36)) 35 (setCells n w.heap.size L)
      simpa using this
    · exact (Blk.new w 36 (u64s (zeros L))).alloc _
  have HF := Lib.hid hfin
  clear hfin
  rcases (show n0 < 0 ∧ n = 0 ∨ 0 ≤ n0 ∧ n0 ≤ 1048576 ∧ n = n0 ∨ 1048576 < n0 ∧ n = 1048576 by omega) with ⟨h1, h2⟩ | ⟨h0, h1, h2⟩ | ⟨h1, h2⟩
  · obtain rfl : L = 0 := by omega
    have hmk := mk_row 0 0 rfl (by omega)
    subst h2
    clear hn hL hL2
    go_enter Tryd.func5, Tryd.ntmps5
    go_wp2_with fail
    go_ret
    exact ⟨rfl, HF.out _ rfl⟩
  · have hmk := mk_row ((n0 + 63) / 64) L (by omega) (by omega)
    subst h2
    clear hn hL hL2
    go_enter Tryd.func5, Tryd.ntmps5
    go_wp2_with fail
    go_ret
    exact ⟨rfl, HF.out _ rfl⟩
  · obtain rfl : L = 16384 := by omega
    have hmk := mk_row 16384 16384 rfl (by omega)
    subst h2
    clear hn hL hL2
    go_enter Tryd.func5, Tryd.ntmps5
    go_wp2_with fail
    go_ret
    exact ⟨rfl, HF.out _ rfl⟩
end Go.Proofs.YtopifdkkmchoeaaDoor
