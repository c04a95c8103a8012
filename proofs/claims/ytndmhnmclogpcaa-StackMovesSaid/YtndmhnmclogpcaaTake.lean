/- What word.Take returns: eight bytes as a number, or no. Conditions: the slice's bytes are known; its capacity is a length. -/
import Derived.Test.YtndmhnmclogpcaaRows
import Derived.Test.YtndmhnmclogpcaaPlainWord
import Derived.Test.YtndmhnmclogpcaaWords
import Derived.WalkKit
import Derived.WalkSpells
import Derived.WalkLawsBesides
import Derived.Lib.Hide
import Derived.BigQuiet
set_option linter.unusedVariables false
set_option linter.unusedSimpArgs false
namespace Go.Proofs.Ytndmhnmclogpcaa
open Go.RowKit

theorem take_succ_int (l : List Int) (k : Nat) (x : Int) (h : l[k]? = some x) : l.take (k + 1) = l.take k ++ [x] := by
  rw [List.take_add_one, h]; rfl

set_option maxHeartbeats 400000 in
theorem take_in (A : Option Addr) (n c at_ : Nat) (xs : List Int) (w : World) (B : Nat) (h : Reads w B 1 A n (xs.map (Value.int .u8))) (hx : ∀ x ∈ xs, 0 ≤ x ∧ x < 256)
    (hat : at_ + 8 ≤ n) (hnc : n ≤ c) (hc : c ≤ maxLen) :
    Calls Try.prog 26 #[.slice A n c, .int .i64 at_] w fun e w' => e = .returned (.tuple #[.int .u64 (leV ((xs.drop at_).take 8)), .bool true]) ∧ w = w' := by
  unfold maxLen at hc
  have hlen : xs.length = n := by simpa using h.1
  obtain ⟨ad, rfl, _, hcell⟩ := h.2 (by omega)
  have HL := Lib.hid hlen
  clear hlen h
  go_enter Try.func26, Try.ntmps26
  go_wp2_with fail
  go_loop [6, 24] (fun v i => ∃ k : Nat, k ≤ 8 ∧ i = .int .i64 k ∧ v = .int .u64 (leV ((xs.drop at_).take k))) (fun _ i => 8 - (intOf i).toNat)
  case atStart => exact ⟨0, by omega, rfl, by simp [leV]⟩
  case round =>
    obtain ⟨k, hk, rfl, rfl⟩ := hrel
    by_cases hlt : k < 8
    · obtain ⟨x, hxk⟩ : ∃ x, (xs.drop at_)[k]? = some x := by
        rw [List.getElem?_drop]
        exact ⟨_, List.getElem?_eq_getElem (by have := HL.out; omega)⟩
      have hxm := hx x (List.mem_of_mem_drop (List.mem_of_getElem? hxk))
      have hce : w.cell? ((ad.add at_).add k) = some (.int .u8 x) := by
        rw [add_of_add]
        refine hcell _ _ ?_
        rw [List.getElem?_map, ← List.getElem?_drop, hxk]; rfl
      have hle : ((xs.drop at_).take k).length = k := by have := HL.out; simp; omega
      have hbd := leV_bd ((xs.drop at_).take k) (fun y hy => hx y (List.mem_of_mem_drop (List.mem_of_mem_take hy)))
      rw [hle] at hbd
      have H1 : Hid (leV ((xs.drop at_).take (k + 1)) = bits .or .u64 (leV ((xs.drop at_).take k)) (IntKind.u64.wrap (x * 2 ^ (8 * k)))) := by
        rw [or_step _ _ k hlt hbd.1 hbd.2 hxm.1 hxm.2, take_succ_int _ _ _ hxk, leV_snoc, hle]
        exact rfl
      obtain ⟨hx0, hx1⟩ := hxm
      clear hle hbd hxk hcell
      go_wp2_with fail
      exact ⟨⟨k + 1, by omega, by go_num, by rw [H1.out]⟩, by simp [intOf]; omega⟩
    · obtain rfl : k = 8 := by omega
      go_wp2_with fail
      go_ret2
      exact ⟨rfl, rfl⟩

set_option maxHeartbeats 400000 in
theorem take_neg (A : Option Addr) (n c : Nat) (at_ : Int) (w : World) (hn : n ≤ maxLen) (hat : at_ < 0) :
    Calls Try.prog 26 #[.slice A n c, .int .i64 at_] w fun e w' => e = .returned (.tuple #[.int .u64 0, .bool false]) ∧ w = w' := by
  unfold maxLen at hn
  have h1 : decide (at_ < 0) = true := by simpa using hat
  go_enter Try.func26, Try.ntmps26
  go_wp2_with fail
  go_ret2
  exact ⟨rfl, rfl⟩
set_option maxHeartbeats 400000 in
theorem take_far (A : Option Addr) (n c : Nat) (at_ : Int) (w : World) (hn : n ≤ maxLen) (h0 : 0 ≤ at_) (hat : (n : Int) - 8 < at_) :
    Calls Try.prog 26 #[.slice A n c, .int .i64 at_] w fun e w' => e = .returned (.tuple #[.int .u64 0, .bool false]) ∧ w = w' := by
  unfold maxLen at hn
  have h1 : decide (at_ < 0) = false := by simpa using h0
  go_enter Try.func26, Try.ntmps26
  go_wp2_with fail
  go_ret2
  exact ⟨rfl, rfl⟩
theorem take_out (A : Option Addr) (n c : Nat) (at_ : Int) (w : World) (hn : n ≤ maxLen) (hat : at_ < 0 ∨ (n : Int) - 8 < at_) :
    Calls Try.prog 26 #[.slice A n c, .int .i64 at_] w fun e w' => e = .returned (.tuple #[.int .u64 0, .bool false]) ∧ w = w' := by
  by_cases h0 : at_ < 0
  · exact take_neg A n c at_ w hn h0
  · exact take_far A n c at_ w hn (by omega) (by omega)
theorem take_as (A : Option Addr) (n c k : Nat) (at_ v : Int) (xs : List Int) (w : World) (B : Nat) (h : Reads w B 1 A n (xs.map (Value.int .u8))) (hx : ∀ x ∈ xs, 0 ≤ x ∧ x < 256) (hk : at_ = k)
    (hat : k + 8 ≤ n) (hnc : n ≤ c) (hc : c ≤ maxLen) (hv : leV ((xs.drop k).take 8) = v) :
    Calls Try.prog 26 #[.slice A n c, .int .i64 at_] w fun e w' => e = .returned (.tuple #[.int .u64 v, .bool true]) ∧ w = w' := by
  subst hk hv
  exact take_in A n c k xs w B h hx hat hnc hc
end Go.Proofs.Ytndmhnmclogpcaa
