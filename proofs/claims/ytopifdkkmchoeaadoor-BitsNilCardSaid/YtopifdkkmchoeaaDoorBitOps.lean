/- Walks of the sets of numbers: may, Has, Add, Del. Conditions: the set's cells are known. -/
import Derived.Test.YtopifdkkmchoeaaDoorBitSet
import Derived.KernelRfl
set_option linter.unusedVariables false
set_option linter.unusedSimpArgs false
namespace Go.Proofs.YtopifdkkmchoeaaDoor
open Go.RowKit

def bitAt (x : Int) (k : Nat) : Bool := bits .and .u64 (x / 2 ^ k) 1 == 1
def bitOn (x : Int) (k : Nat) : Int := bits .or .u64 x (IntKind.u64.wrap (2 ^ k))
set_option maxHeartbeats 400000 in
theorem may_nil (i : Int) (w : World) : Calls Tryd.prog 15 #[.pointer none, .int .i64 i] w fun e w' => e = .returned (.bool false) ∧ w = w' := by
  go_enter Tryd.func15, Tryd.ntmps15
  go_wp2_with fail
  go_ret
  exact ⟨rfl, rfl⟩
set_option maxHeartbeats 400000 in
theorem may_yes (g : Nat) (n i : Int) (w : World) (h0 : 0 ≤ i) (h2 : i < n) (hc : w.cell? ⟨g, 0, none⟩ = some (.int .i64 n)) :
    Calls Tryd.prog 15 #[.pointer (some ⟨g, 0, none⟩), .int .i64 i] w fun e w' => e = .returned (.bool true) ∧ w = w' := by
  have h1 : decide (0 ≤ i) = true := by simpa using h0
  have h3 : decide (i < n) = true := by simpa using h2
  go_enter Tryd.func15, Tryd.ntmps15
  go_wp2_with fail
  go_ret
  exact ⟨rfl, rfl⟩
set_option maxHeartbeats 400000 in
theorem may_no1 (g : Nat) (n i : Int) (w : World) (h0 : i < 0) (hc : w.cell? ⟨g, 0, none⟩ = some (.int .i64 n)) :
    Calls Tryd.prog 15 #[.pointer (some ⟨g, 0, none⟩), .int .i64 i] w fun e w' => e = .returned (.bool false) ∧ w = w' := by
  have h1 : decide (0 ≤ i) = false := by simpa using h0
  go_enter Tryd.func15, Tryd.ntmps15
  go_wp2_with fail
  go_ret
  exact ⟨rfl, rfl⟩
set_option maxHeartbeats 400000 in
theorem may_no2 (g : Nat) (n i : Int) (w : World) (h0 : 0 ≤ i) (h2 : n ≤ i) (hc : w.cell? ⟨g, 0, none⟩ = some (.int .i64 n)) :
    Calls Tryd.prog 15 #[.pointer (some ⟨g, 0, none⟩), .int .i64 i] w fun e w' => e = .returned (.bool false) ∧ w = w' := by
  have h1 : decide (0 ≤ i) = true := by simpa using h0
  have h3 : decide (i < n) = false := by simpa using h2
  go_enter Tryd.func15, Tryd.ntmps15
  go_wp2_with fail
  go_ret
  exact ⟨rfl, rfl⟩
theorem may_no (g : Nat) (n i : Int) (w : World) (h : ¬ (0 ≤ i ∧ i < n)) (hc : w.cell? ⟨g, 0, none⟩ = some (.int .i64 n)) :
    Calls Tryd.prog 15 #[.pointer (some ⟨g, 0, none⟩), .int .i64 i] w fun e w' => e = .returned (.bool false) ∧ w = w' := by
  by_cases h0 : 0 ≤ i
  · exact may_no2 g n i w h0 (by omega) hc
  · exact may_no1 g n i w (by omega) hc
set_option maxHeartbeats 400000 in
theorem has_nil (i : Int) (w : World) : Calls Tryd.prog 7 #[.pointer none, .int .i64 i] w fun e w' => e = .returned (.bool false) ∧ w = w' := by
  go_enter Tryd.func7, Tryd.ntmps7
  go_wp2_with fail
  refine (may_nil i _).mono ?_
  rintro e w' ⟨rfl, rfl⟩
  go_wp2_with fail
  go_ret
  exact ⟨rfl, rfl⟩
set_option maxHeartbeats 400000 in
theorem has_out (g : Nat) (n i : Int) (w : World) (hb : ¬ (0 ≤ i ∧ i < n)) (hc : w.cell? ⟨g, 0, none⟩ = some (.int .i64 n)) :
    Calls Tryd.prog 7 #[.pointer (some ⟨g, 0, none⟩), .int .i64 i] w fun e w' => e = .returned (.bool false) ∧ w = w' := by
  have HB := Lib.hid hb
  clear hb
  go_enter Tryd.func7, Tryd.ntmps7
  go_wp2_with fail
  refine (may_no g n i _ HB.out hc).mono ?_
  rintro e w' ⟨rfl, rfl⟩
  go_wp2_with fail
  go_ret
  exact ⟨rfl, rfl⟩
set_option maxHeartbeats 400000 in
theorem has_in (g h L k : Nat) (n i x : Int) (t : Bool) (w : World) (hi : i = k) (hb : i < n) (hn : n ≤ 1048576) (hL : (k : Int) / 64 < L) (hc : w.cell? ⟨g, 0, none⟩ = some (.int .i64 n)) (hc1 : w.cell? ⟨g, 1, none⟩ = some (.slice (some ⟨h, 0, none⟩) L L))
    (hx : w.cell? ⟨h, k / 64, none⟩ = some (.int .u64 x)) (hx0 : U64 x) (ht : bitAt x (k % 64) = t) :
    Calls Tryd.prog 7 #[.pointer (some ⟨g, 0, none⟩), .int .i64 i] w fun e w' => e = .returned (.bool t) ∧ w = w' := by
  subst hi
  unfold U64 at hx0
  obtain ⟨hxa, hxb⟩ := hx0
  have HT := Lib.hid ht
  clear ht
  have hk0 : 0 ≤ (k : Int) / 64 := by omega
  have hk1 : 0 ≤ (k : Int) % 64 := by omega
  have hk2 : (k : Int) % 64 < 64 := by omega
  go_enter Tryd.func7, Tryd.ntmps7
  go_wp2_with fail
  refine (may_yes g n k _ (by omega) hb hc).mono ?_
  rintro e w' ⟨rfl, rfl⟩
  go_wp2_with fail
  go_ret
  exact ⟨by rw [← HT.out]; rfl, rfl⟩
set_option maxHeartbeats 400000 in
theorem add_nil (i : Int) (w : World) : Calls Tryd.prog 6 #[.pointer none, .int .i64 i] w fun e w' => e = .returned (.bool false) ∧ w = w' := by
  go_enter Tryd.func6, Tryd.ntmps6
  go_wp2_with fail
  refine (may_nil i _).mono ?_
  rintro e w' ⟨rfl, rfl⟩
  go_wp2_with fail
  go_ret
  exact ⟨rfl, rfl⟩
set_option maxHeartbeats 400000 in
theorem add_out (g : Nat) (n i : Int) (w : World) (hb : ¬ (0 ≤ i ∧ i < n)) (hc : w.cell? ⟨g, 0, none⟩ = some (.int .i64 n)) :
    Calls Tryd.prog 6 #[.pointer (some ⟨g, 0, none⟩), .int .i64 i] w fun e w' => e = .returned (.bool false) ∧ w = w' := by
  have HB := Lib.hid hb
  clear hb
  go_enter Tryd.func6, Tryd.ntmps6
  go_wp2_with fail
  refine (may_no g n i _ HB.out hc).mono ?_
  rintro e w' ⟨rfl, rfl⟩
  go_wp2_with fail
  go_ret
  exact ⟨rfl, rfl⟩
set_option maxHeartbeats 400000 in
theorem add_had (g h L k : Nat) (n i x : Int) (w : World) (hi : i = k) (hb : i < n) (hn : n ≤ 1048576) (hL : (k : Int) / 64 < L) (hc : w.cell? ⟨g, 0, none⟩ = some (.int .i64 n)) (hc1 : w.cell? ⟨g, 1, none⟩ = some (.slice (some ⟨h, 0, none⟩) L L))
    (hx : w.cell? ⟨h, k / 64, none⟩ = some (.int .u64 x)) (hx0 : U64 x) (ht : bitAt x (k % 64) = true) :
    Calls Tryd.prog 6 #[.pointer (some ⟨g, 0, none⟩), .int .i64 i] w fun e w' => e = .returned (.bool false) ∧ w = w' := by
  subst hi
  have HT := Lib.hid ht
  clear ht
  go_enter Tryd.func6, Tryd.ntmps6
  go_wp2_with fail
  refine (may_yes g n k _ (by omega) hb hc).mono ?_
  rintro e w' ⟨rfl, rfl⟩
  go_wp2_with fail
  refine (has_in g h L k n k x true _ rfl hb hn hL hc hc1 hx hx0 HT.out).mono ?_
  rintro e w' ⟨rfl, rfl⟩
  go_wp2_with fail
  go_ret
  exact ⟨rfl, rfl⟩
set_option maxHeartbeats 400000 in
theorem add_new (g h L k : Nat) (n i x : Int) (w : World) (hi : i = k) (hb : i < n) (hn : n ≤ 1048576) (hL : (k : Int) / 64 < L) (hc : w.cell? ⟨g, 0, none⟩ = some (.int .i64 n)) (hc1 : w.cell? ⟨g, 1, none⟩ = some (.slice (some ⟨h, 0, none⟩) L L))
    (hx : w.cell? ⟨h, k / 64, none⟩ = some (.int .u64 x)) (hz : w.frozen? ⟨h, k / 64, none⟩ = false) (hx0 : U64 x) (ht : bitAt x (k % 64) = false) :
    Calls Tryd.prog 6 #[.pointer (some ⟨g, 0, none⟩), .int .i64 i] w fun e w' => e = .returned (.bool true) ∧ w' = w.setCell ⟨h, k / 64, none⟩ (.int .u64 (bitOn x (k % 64))) := by
  subst hi
  have HT := Lib.hid ht
  clear ht
  have hk0 : 0 ≤ (k : Int) / 64 := by omega
  have hk1 : 0 ≤ (k : Int) % 64 := by omega
  have hk2 : (k : Int) % 64 < 64 := by omega
  have hxx := hx0
  unfold U64 at hxx
  obtain ⟨hxa, hxb⟩ := hxx
  go_enter Tryd.func6, Tryd.ntmps6
  go_wp2_with fail
  refine (may_yes g n k _ (by omega) hb hc).mono ?_
  rintro e w' ⟨rfl, rfl⟩
  go_wp2_with fail
  refine (has_in g h L k n k x false _ rfl hb hn hL hc hc1 hx hx0 HT.out).mono ?_
  rintro e w' ⟨rfl, rfl⟩
  go_wp2_with fail
  go_ret
  exact ⟨rfl, rfl⟩
set_option maxHeartbeats 400000 in
theorem del_nil (i : Int) (w : World) : Calls Tryd.prog 8 #[.pointer none, .int .i64 i] w fun e w' => e = .returned (.bool false) ∧ w = w' := by
  go_enter Tryd.func8, Tryd.ntmps8
  go_wp2_with fail
  refine (has_nil i _).mono ?_
  rintro e w' ⟨rfl, rfl⟩
  go_wp2_with fail
  go_ret
  exact ⟨rfl, rfl⟩
set_option maxHeartbeats 400000 in
theorem len_nil (w : World) : Calls Tryd.prog 9 #[.pointer none] w fun e w' => e = .returned (.int .i64 0) ∧ w = w' := by
  go_enter Tryd.func9, Tryd.ntmps9
  go_wp2_with fail
  go_ret
  exact ⟨rfl, rfl⟩
set_option maxHeartbeats 400000 in
theorem copy_nil (w : World) : Calls Tryd.prog 11 #[.pointer none] w fun e w' => e = .returned (.pointer none) ∧ w = w' := by
  go_enter Tryd.func11, Tryd.ntmps11
  go_wp2_with fail
  go_ret
  exact ⟨rfl, rfl⟩
set_option maxHeartbeats 400000 in
theorem list_nil (w : World) : Calls Tryd.prog 10 #[.pointer none] w fun e w' => e = .returned (.slice none 0 0) ∧ w = w' := by
  go_enter Tryd.func10, Tryd.ntmps10
  go_wp2_with fail
  go_ret
  exact ⟨rfl, rfl⟩
set_option maxHeartbeats 400000 in
theorem ones_0 (w : World) : Calls Tryd.prog 16 #[.int .u64 0] w fun e w' => e = .returned (.int .i64 0) ∧ w = w' := by
  go_enter Tryd.func16, Tryd.ntmps16
  go_wp2_with fail
  go_ret
  exact ⟨by kernel_rfl, rfl⟩
set_option maxHeartbeats 400000 in
theorem ones_32 (w : World) : Calls Tryd.prog 16 #[.int .u64 32] w fun e w' => e = .returned (.int .i64 1) ∧ w = w' := by
  go_enter Tryd.func16, Tryd.ntmps16
  go_wp2_with fail
  go_ret
  exact ⟨by kernel_rfl, rfl⟩
end Go.Proofs.YtopifdkkmchoeaaDoor
