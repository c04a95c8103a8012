/- What word.Put returns: the bytes and a number's eight behind them, in memory of its own. Conditions: the slice's cells are known and within the form's reach. -/
import Derived.Test.YtndmhnmclogpcaaRows
import Derived.Test.YtndmhnmclogpcaaPlainWord
import Derived.Test.YtndmhnmclogpcaaWords
import Derived.WalkKit
import Derived.WalkSpells
import Derived.WalkLawsBesides
import Derived.Lib.Hide
set_option linter.unusedVariables false
set_option linter.unusedSimpArgs false
namespace Go.Proofs.Ytndmhnmclogpcaa
open Go.RowKit

theorem infoU8 : (Try.prog.info? 5).map (fun i => (i.zero, i.size, i.bytes)) = some (some (.int .u8 0), 1, 1) := by kernel_rfl
def byteVals (l : List Int) : List Value := l.map (Value.int .u8)
theorem byteVals_one (l : List Int) : ∀ u ∈ byteVals l, u.oneCell' = true := by
  intro u hu
  simp only [byteVals, List.mem_map] at hu
  obtain ⟨x, _, rfl⟩ := hu
  rfl
set_option maxRecDepth 100000 in
set_option maxHeartbeats 400000 in
theorem put_any (A : Option Addr) (n c : Nat) (xs : List Value) (v : Int) (w : World) (B : Nat) (h : Reads w B 1 A n xs) (h1 : ∀ u ∈ xs, u.oneCell' = true) (hn : n + 8 ≤ 140737488355328) (hB : B ≤ w.heap.size) (hv : U64 v) :
    Calls Try.prog 24 #[.slice A n c, .int .u64 v] w fun e w' => ∃ sv, e = .returned sv ∧ w'.ownsRow w.heap.size 5 1 sv (n + 8) (xs ++ byteVals (bytesLE 8 v)) ∧ Below w.heap.size w w' := by
  obtain ⟨i0, hi0, hz0, hz1, hz2⟩ := info_parts infoU8
  unfold U64 at hv
  obtain ⟨hv0, hv1⟩ := hv
  go_enter Try.func24, Try.ntmps24
  go_wp2_with (first
    | (at_builtin
       refine wpList_append_any _ rfl (.const (.slice none 0 0)) (.tmp 7) _ rfl w.heap.size 5 i0 _ 1 1 Try.underlying33 hi0 hz0 hz1 hz2 rfl (by omega) (.slice none 0 0) 0 [] rfl
         ⟨by simp, .inl ⟨rfl, rfl⟩⟩ B A n c xs rfl h h1 (by simp only [maxLen]; omega) (by omega) (Nat.le_refl _) ?_
       intro v1 w1 hown1 hg1 hat1
       have hbw1 : Below w.heap.size w w1 := (Below.refl _ _).grown hg1 (Nat.le_refl _) (by simp [Value.ownBlock])))
  clear h h1 hg1 hat1
  go_loopw [5, 9] (fun s i wr => ∃ k : Nat, k ≤ 8 ∧ i = .int .i64 k ∧ wr.ownsRow w.heap.size 5 1 s (n + k) (xs ++ byteVals (bytesLE k v)) ∧ Below w.heap.size w wr) (fun _ i _ => 8 - (intOf i).toNat)
  case atStart => exact ⟨0, by omega, rfl, by simpa [bytesLE, byteVals] using hown1, hbw1⟩
  case round =>
    obtain ⟨k, hk, rfl, hown, hbw⟩ := hrel
    by_cases hlt : k < 8
    · clear hown1 hbw1
      have hsz := hbw.size
      go_wp2_with (first
        | (at_builtin
           refine wpList_append_any _ rfl (.tmp 12) (.tmp 19) _ rfl w.heap.size 5 i0 _ 1 1 Try.underlying33 hi0 hz0 hz1 hz2 rfl (by omega) _ (n + k) (xs ++ byteVals (bytesLE k v)) rfl
             (hown.alloc _) _ (some ⟨wr.heap.size, 0, none⟩) 1 1 [.int .u8 (IntKind.u8.wrap (v / 2 ^ (8 * k)))] rfl (Reads.new1 _ _ _) ?c1 ?c2 ?c3 ?c4 ?_
           case c1 => intro u hu; simp only [List.mem_singleton] at hu; subst hu; rfl
           case c2 => simp only [maxLen]; omega
           case c3 => omega
           case c4 => simp; omega
           intro v2 w2 hown2 hg2 hat2))
      refine ⟨⟨k + 1, by omega, by go_num, ?_, (hbw.alloc hsz _).grown hg2 (by simp; omega) (fun g hg => (hown.lt g hg).1)⟩, by simp [intOf]; omega⟩
      have e : xs ++ byteVals (bytesLE (k + 1) v) = xs ++ byteVals (bytesLE k v) ++ [.int .u8 (IntKind.u8.wrap (v / 2 ^ (8 * k)))] := by
        rw [bytesLE_snoc, byte_wrap]; simp [byteVals]
      rw [e]
      exact hown2
    · obtain rfl : k = 8 := by omega
      go_wp2_with fail
      go_ret
      exact ⟨_, rfl, hown, hbw⟩
end Go.Proofs.Ytndmhnmclogpcaa
