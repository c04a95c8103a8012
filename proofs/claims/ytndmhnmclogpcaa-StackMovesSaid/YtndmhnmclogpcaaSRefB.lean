/- What the document's Bytes and Word return: a number's eight bytes, and back. Conditions: words; eight bytes. -/
import Derived.Test.YtndmhnmclogpcaaChip4
set_option linter.unusedVariables false
set_option linter.unusedSimpArgs false
namespace Go.Proofs.Ytndmhnmclogpcaa
open Go.RowKit

theorem div_pow256b (v : Int) (k : Nat) : v / 256 ^ k / 256 = v / 256 ^ (k + 1) := by
  rw [Int.ediv_ediv_of_nonneg (Int.le_of_lt (Int.pow_pos (by omega))), ← Int.pow_succ]
set_option maxRecDepth 100000 in
set_option maxHeartbeats 1000000 in
theorem refBytes_any (v : Int) (w : World) (hv : U64 v) :
    Calls Try.prog 28 #[.int .u64 v] w fun e w' => ∃ sv, e = .returned sv ∧ w'.ownsRow w.heap.size 5 1 sv 8 (byteVals (bytesLE 8 v)) ∧ Below w.heap.size w w' := by
  obtain ⟨i0, hi0, hz0, hz1, hz2⟩ := info_parts infoU8
  unfold U64 at hv
  obtain ⟨hv0, hv1⟩ := hv
  have HP : Hid (∀ k : Nat, 0 ≤ v / 256 ^ k) := fun k => Int.ediv_nonneg hv0 (Int.le_of_lt (Int.pow_pos (by omega)))
  go_enter Try.func28, Try.ntmps28
  go_wp2_with fail
  go_loopw [0, 3, 4] (fun x s i wr => ∃ k : Nat, k ≤ 8 ∧ i = .int .i64 k ∧ x = .int .u64 (v / 256 ^ k) ∧ wr.ownsRow w.heap.size 5 1 s k (byteVals (bytesLE k v)) ∧ Below w.heap.size w wr) (fun _ _ i _ => 8 - (intOf i).toNat)
  case atStart => exact ⟨0, by omega, rfl, by simp, ⟨by simp [bytesLE, byteVals], .inl ⟨rfl, rfl⟩⟩, Below.refl _ _⟩
  case round =>
    obtain ⟨k, hk, rfl, rfl, hown, hbw⟩ := hrel
    by_cases hlt : k < 8
    · have hsz := hbw.size
      have hp := HP.out k
      go_wp2_with (first
        | (at_builtin
           refine wpList_append_any _ rfl (.tmp 9) (.tmp 13) _ rfl w.heap.size 5 i0 _ 1 1 Try.underlying33 hi0 hz0 hz1 hz2 rfl (by omega) _ k (byteVals (bytesLE k v)) rfl
             (hown.alloc _) _ (some ⟨wr.heap.size, 0, none⟩) 1 1 [.int .u8 _] rfl (Reads.new1 _ _ _) ?c1 ?c2 ?c3 ?c4 ?_
           case c1 => intro u hu; simp only [List.mem_singleton] at hu; subst hu; rfl
           case c2 => simp only [maxLen]; omega
           case c3 => omega
           case c4 => simp; omega
           intro v2 w2 hown2 hg2 hat2))
      have ht : IntKind.u64.wrap ((v / 256 ^ k).tdiv 256) = v / 256 ^ (k + 1) := by
        rw [Int.tdiv_eq_ediv_of_nonneg hp, div_pow256b, IntKind.wrap_u64]
        exact Int.emod_eq_of_lt (HP.out (k + 1)) (Int.lt_of_le_of_lt (Int.ediv_le_self _ hv0) hv1)
      refine ⟨⟨k + 1, by omega, by go_num, by rw [ht], ?_, (hbw.alloc hsz _).grown hg2 (by simp; omega) (fun g hg => (hown.lt g hg).1)⟩, by simp [intOf]; omega⟩
      have e : byteVals (bytesLE (k + 1) v) = byteVals (bytesLE k v) ++ [.int .u8 (v / 256 ^ k % 256)] := by
        rw [bytesLE_snoc]; simp [byteVals, byteAt]
      rw [e]
      exact hown2
    · obtain rfl : k = 8 := by omega
      go_wp2_with fail
      go_ret
      exact ⟨_, rfl, hown, hbw⟩
end Go.Proofs.Ytndmhnmclogpcaa
