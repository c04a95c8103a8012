/- What the document's Bytes and Word return: a number's eight bytes, and back. Conditions: words; eight bytes. -/
import Derived.Test.YtnnlhhokljjghaaRDoAs
import Derived.Test.YtnnlhhokljjghaaChip4
set_option linter.unusedVariables false
set_option linter.unusedSimpArgs false
namespace Go.Proofs.Ytnnlhhokljjghaa
open Go.RowKit

theorem div_pow256b (v : Int) (k : Nat) : v / 256 ^ k / 256 = v / 256 ^ (k + 1) := by
  rw [Int.ediv_ediv_of_nonneg (Int.le_of_lt (Int.pow_pos (by omega))), ← Int.pow_succ]
set_option maxRecDepth 100000 in
set_option maxHeartbeats 1000000 in
theorem refBytes_any (v : Int) (w : World) (hv : U64 v) :
    Calls Try.prog 51 #[.int .u64 v] w fun e w' => ∃ sv, e = .returned sv ∧ w'.ownsRow w.heap.size 5 1 sv 8 (byteVals (bytesLE 8 v)) ∧ Below w.heap.size w w' := by
  obtain ⟨i0, hi0, hz0, hz1, hz2⟩ := info_parts infoU8
  unfold U64 at hv
  obtain ⟨hv0, hv1⟩ := hv
  have HP : Hid (∀ k : Nat, 0 ≤ v / 256 ^ k) := fun k => Int.ediv_nonneg hv0 (Int.le_of_lt (Int.pow_pos (by omega)))
  go_enter Try.func51, Try.ntmps51
  go_wp2_with fail
  go_loopw [0, 3, 4] (fun x s i wr => ∃ k : Nat, k ≤ 8 ∧ i = .int .i64 k ∧ x = .int .u64 (v / 256 ^ k) ∧ wr.ownsRow w.heap.size 5 1 s k (byteVals (bytesLE k v)) ∧ Below w.heap.size w wr) (fun _ _ i _ => 8 - (intOf i).toNat)
  case atStart => exact ⟨0, by omega, rfl, by simp, ⟨by simp [bytesLE, byteVals], .inl ⟨rfl, rfl⟩⟩, Below.refl _ _⟩
  case round =>
    obtain ⟨k, hk, rfl, rfl, hown, hbw⟩ := hrel
    by_cases hlt : k < 8
    · have hsz := hbw.size
      have hp := HP.out k
      go_wp2_with (first
        | (at_builtin
           refine wpList_append_any _ rfl (.tmp 9) (.tmp 13) _ rfl w.heap.size 5 i0 _ 1 1 Try.underlying23 hi0 hz0 hz1 hz2 rfl (by omega) _ k (byteVals (bytesLE k v)) rfl
             (hown.alloc _) _ (some ⟨wr.heap.size, 0, none⟩) 1 1 [.int .u8 _] rfl (Reads.new1 _ _ _) ?c1 ?c2 ?c3 ?c4 ?_
           case c1 => intro u hu; simp only [List.mem_singleton] at hu; subst hu; rfl
           case c2 => simp only [maxLen]; omega
           case c3 => omega
           case c4 => simp; omega
           intro v2 w2 hown2 hg2 hat2))
      have ht : IntKind.u64.wrap ((v / 256 ^ k).tdiv 256) = v / 256 ^ (k + 1) := by
        rw [Int.tdiv_eq_ediv_of_nonneg hp, div_pow256b, IntKind.wrap_u64]
        exact Int.emod_eq_of_lt (HP.out (k + 1)) (Int.lt_of_le_of_lt (Int.ediv_le_self _ hv0) hv1)
      refine ⟨⟨k + 1, by omega, by go_num, by rw [ht], ?_, (hbw.alloc hsz _).grown hg2 (by simp; omega) (fun g hg => (hown.lt g hg).1)⟩, by simp [intOf]; omega⟩
      have e : byteVals (bytesLE (k + 1) v) = byteVals (bytesLE k v) ++ [.int .u8 (v / 256 ^ k % 256)] := by
        rw [bytesLE_snoc]; simp [byteVals, byteAt]
      rw [e]
      exact hown2
    · obtain rfl : k = 8 := by omega
      go_wp2_with fail
      go_ret
      exact ⟨_, rfl, hown, hbw⟩

theorem leV_consb (x : Int) (l : List Int) : leV (x :: l) = x + 256 * leV l := rfl
set_option maxRecDepth 100000 in
set_option maxHeartbeats 1000000 in
theorem refWord_any (A : Option Addr) (c : Nat) (xs : List Int) (w : World) (B : Nat) (h : Reads w B 1 A 8 (xs.map (Value.int .u8))) (hx : ∀ x ∈ xs, 0 ≤ x ∧ x < 256) (hc : 8 ≤ c) :
    Calls Try.prog 50 #[.slice A 8 c] w fun e w' => e = .returned (.int .u64 (leV xs)) ∧ w = w' := by
  have hlen : xs.length = 8 := by simpa using h.1
  obtain ⟨ad, rfl, _, hcell⟩ := h.2 (by omega)
  have HL := Lib.hid hlen
  have HC := Lib.hid hcell
  clear hlen hcell h
  go_enter Try.func50, Try.ntmps50
  go_wp2_with fail
  go_loop [3, 4] (fun x i => ∃ k : Nat, k ≤ 8 ∧ i = .int .i64 ((k : Int) - 1) ∧ x = .int .u64 (leV (xs.drop k))) (fun _ i => (intOf i + 1).toNat)
  case atStart => exact ⟨8, by omega, rfl, by rw [List.drop_of_length_le (by have := HL.out; omega)]; rfl⟩
  case round =>
    obtain ⟨k, hk, rfl, rfl⟩ := hrel
    by_cases hlt : 1 ≤ k
    · obtain ⟨j, hj⟩ : ∃ j, k = j + 1 := ⟨k - 1, by omega⟩
      obtain ⟨x, hxk⟩ : ∃ x, xs[j]? = some x := ⟨_, List.getElem?_eq_getElem (by have := HL.out; omega)⟩
      have hce : w.cell? (ad.add j) = some (.int .u8 x) := HC.out _ _ (by rw [List.getElem?_map, hxk]; rfl)
      obtain ⟨hx0, hx1⟩ := hx x (List.mem_of_getElem? hxk)
      have hb := leV_bd (xs.drop k) (fun y hy => hx y (List.mem_of_mem_drop hy))
      have hdl : (xs.drop k).length = 8 - k := by have := HL.out; simp; omega
      rw [hdl] at hb
      have hp : (256 : Int) ^ (8 - k) ≤ 72057594037927936 := by
        rcases pow256_cases (8 - k) (by omega) with e | e | e | e | e | e | e | e <;> rw [e] <;> omega
      have HV : Hid (leV (xs.drop j) = x + 256 * leV (xs.drop k)) := by
        show _ = _
        have hjl := (List.getElem?_eq_some_iff.1 hxk)
        obtain ⟨h1, h2⟩ := hjl
        rw [List.drop_eq_getElem_cons h1, h2, leV_consb, hj]
      obtain ⟨hb0, hb1⟩ := hb
      have hb2 : leV (xs.drop k) < 72057594037927936 := by omega
      have hkj : (k : Int) - 1 = j := by omega
      have hj8 : (j : Int) < 8 := by omega
      have hj0 : (0 : Int) ≤ j := by omega
      rw [hkj]
      have HJ := Lib.hid hj
      clear hxk hdl hj hkj hb1 hp
      generalize leV (xs.drop k) = t at *
      go_wp2_with fail
      have hk' := HJ.out
      refine ⟨⟨j, by omega, rfl, ?_⟩, by simp [intOf]⟩
      rw [HV.out]
      have e : ∀ y z : Int, y = z → Value.int IntKind.u64 y = Value.int IntKind.u64 z := fun y z h => by rw [h]
      exact e _ _ (by first | (rw [IntKind.wrap_u64, IntKind.wrap_u64]; omega) | omega)
    · obtain rfl : k = 0 := by omega
      go_wp2_with fail
      go_ret
      exact ⟨rfl, rfl⟩
theorem refWord_n (A : Option Addr) (n c : Nat) (hn : n = 8) (xs : List Int) (w : World) (B : Nat) (h : Reads w B 1 A 8 (xs.map (Value.int .u8))) (hx : ∀ x ∈ xs, 0 ≤ x ∧ x < 256) (hc : 8 ≤ c) :
    Calls Try.prog 50 #[.slice A n c] w fun e w' => e = .returned (.int .u64 (leV xs)) ∧ w = w' := by
  subst hn; exact refWord_any A c xs w B h hx hc
end Go.Proofs.Ytnnlhhokljjghaa
