/- Walks of the writer of programs: width, put. Conditions: an operation is a byte; the bytes written so far are the call's own. -/
import Derived.Test.YtcaefdfdngecdaaRows
import Derived.Test.YtcaefdfdngecdaaData
import Derived.WalkKit
import Derived.WalkSpells
import Derived.WalkLawsBesides
import Derived.Lib.Hide
import Derived.BigQuiet
set_option linter.unusedVariables false
set_option linter.unusedSimpArgs false
namespace Go.Proofs.Ytcaefdfdngecdaa
open Go.RowKit

/-- a slice of the call's own has grown: nothing else that was there has turned -/
def Grows (w w' : World) (v v' : Value) : Prop := w.grownBy w' v.ownBlock ∧ (v'.ownBlock = v.ownBlock ∨ ∃ g, v'.ownBlock = some g ∧ w.heap.size ≤ g)
theorem Grows.refl (w : World) (v : Value) : Grows w w v v := ⟨World.grownBy.refl w _, .inl rfl⟩
theorem Grows.trans {w w1 w2 : World} {v v1 v2 : Value} (h : Grows w w1 v v1) (k : Grows w1 w2 v1 v2) : Grows w w2 v v2 := by
  obtain ⟨h1, h2⟩ := h
  obtain ⟨k1, k2⟩ := k
  refine ⟨⟨k1.os.trans h1.os, k1.tape.trans h1.tape, k1.output.trans h1.output, Nat.le_trans h1.size k1.size, fun i hi hne => ?_⟩, ?_⟩
  · refine (k1.block i (Nat.lt_of_lt_of_le hi h1.size) ?_).trans (h1.block i hi hne)
    rcases h2 with e | ⟨g, e, hg⟩
    · rw [e]; exact hne
    · rw [e]; intro h; injection h with h; omega
  · rcases k2 with e | ⟨g, e, hg⟩
    · rw [e]; exact h2
    · exact .inr ⟨g, e, Nat.le_trans h1.size hg⟩
theorem Grows.alloc {w w1 : World} {v v1 : Value} (h : Grows w w1 v v1) (o : Obj) : Grows w (w1.alloc o) v v1 := ⟨only_alloc h.1 o, h.2⟩
theorem Grows.drew {w w1 : World} {v v1 : Value} (h : Grows w w1 v v1) : Grows w w1.drew v v1 := ⟨only_drew h.1, h.2⟩
theorem Grows.set {w w1 : World} {v v1 : Value} (h : Grows w w1 v v1) {p : Addr} (hp : w.heap.size ≤ p.block) (u : Value) : Grows w (w1.setCell p u) v v1 :=
  ⟨⟨h.1.os, h.1.tape, h.1.output, by simpa [World.setCell] using h.1.size, fun i hi hne => (Below.heap_setCell w1 p u i (by omega)).trans (h.1.block i hi hne)⟩, h.2⟩
theorem Grows.step {w w1 w2 : World} {v v1 v2 : Value} (h : Grows w w1 v v1) (hg : w1.grownBy w2 v1.ownBlock) (hat : v2.ownBlock = v1.ownBlock ∨ v2.ownBlock = some w1.heap.size) : Grows w w2 v v2 :=
  h.trans ⟨hg, hat.imp id fun e => ⟨_, e, Nat.le_refl _⟩⟩
theorem Grows.below {w w' : World} {v v' : Value} {B : Nat} (h : Grows w w' v v') (hB : B ≤ w.heap.size) (hv : ∀ k, v.ownBlock = some k → B ≤ k) : Below B w w' :=
  (Below.refl B w).grown h.1 hB hv
theorem Grows.size {w w' : World} {v v' : Value} (h : Grows w w' v v') : w.heap.size ≤ w'.heap.size := h.1.size
theorem Grows.blk {w w' : World} {v v' : Value} {g : Nat} {t : TypeId} {cs : Array Value} (h : Grows w w' v v') (hb : Blk w g t cs) (hg : v.ownBlock ≠ some g) : Blk w' g t cs := hb.grown h.1 (Ne.symm hg)

theorem addr_sub (ad : Addr) (m t : Nat) (ht : 0 < t) : (⟨(ad.add m).block, (ad.add m).off + t, none⟩ : Addr) = ad.add (m + t) := by
  unfold Addr.add
  by_cases h : m = 0
  · subst h; simp [show ¬ t = 0 by omega]
  · simp [h, Nat.add_assoc]
theorem Reads.newAt {w : World} (H : Nat) (hH : w.heap.size = H) (x : Value) (t : TypeId) : Reads (w.alloc (.cells #[x] t)) (H + 1) 1 (some ⟨H, 0, none⟩) 1 [x] := by
  subst hH; exact Reads.new1 w x t
/-- how many bytes an operation's operand takes -/
def widthV (op : Int) : Int :=
  if op = 1 then 8
  else if op = 2 ∨ op = 3 ∨ op = 4 ∨ op = 23 ∨ op = 25 then 1
  else if op = 21 ∨ op = 22 then 2
  else if op < 1 ∨ 32 < op then -1
  else 0
theorem ret_i64 {a b : Int} (h : a = b) : Ending.returned (.int .i64 a) = .returned (.int .i64 b) := by rw [h]
set_option maxHeartbeats 1000000 in
theorem width_any (op : Int) (w : World) : Calls Try.prog 33 #[.int .u8 op] w fun e w' => e = .returned (.int .i64 (widthV op)) ∧ w = w' := by
  go_enter Try.func33, Try.ntmps33
  go_wp2_with fail
  all_goals
    go_ret
    refine ⟨ret_i64 ?_, rfl⟩
    simp only [beq_iff_eq, beq_eq_false_iff_ne, ne_eq] at *
    unfold widthV
    repeat (first | rw [if_pos (by omega)] | rw [if_neg (by omega)])
theorem width_as (op v : Int) (w : World) (hv : widthV op = v) : Calls Try.prog 33 #[.int .u8 op] w fun e w' => e = .returned (.int .i64 v) ∧ w = w' := by
  subst hv; exact width_any op w
theorem width_cases (op : Int) : widthV op = 8 ∨ widthV op = 2 ∨ widthV op = 1 ∨ widthV op = 0 ∨ widthV op = -1 := by
  unfold widthV
  repeat' split
  all_goals simp

theorem infoU8 : (Try.prog.info? 5).map (fun i => (i.zero, i.size, i.bytes)) = some (some (.int .u8 0), 1, 1) := by kernel_rfl
def byteVals (l : List Int) : List Value := l.map (Value.int .u8)
theorem byteVals_one (l : List Int) : ∀ u ∈ byteVals l, u.oneCell' = true := by
  intro u hu
  simp only [byteVals, List.mem_map] at hu
  obtain ⟨x, _, rfl⟩ := hu
  rfl
theorem byteVals_append (a b : List Int) : byteVals (a ++ b) = byteVals a ++ byteVals b := by simp [byteVals]
theorem own_ge {w : World} {base : Nat} {e : TypeId} {size n : Nat} {v : Value} {xs : List Value} (h : w.ownsRow base e size v n xs) (k : Nat) (hk : v.ownBlock = some k) : base ≤ k := (h.lt k hk).1
set_option maxHeartbeats 400000 in
theorem put_own (base m : Nat) (bv : Value) (xs : List Int) (v n : Int) (w : World) (hown : w.ownsRow base 5 1 bv m (byteVals xs)) (hbase : base ≤ w.heap.size) (hm : m ≤ 140737488355000) (hv : U64 v) (hn0 : 0 ≤ n) (hn : n ≤ 8) :
    Calls Try.prog 34 #[bv, .int .u64 v, .int .i64 n] w fun e w' => ∃ sv, e = .returned sv ∧ w'.ownsRow base 5 1 sv (m + n.toNat) (byteVals (xs ++ bytesLE n.toNat v)) ∧ Grows w w' bv sv := by
  obtain ⟨i0, hi0, hz0, hz1, hz2⟩ := info_parts infoU8
  obtain ⟨N, rfl⟩ := Int.eq_ofNat_of_zero_le hn0
  rw [Int.toNat_natCast]
  unfold U64 at hv
  obtain ⟨hv0, hv1⟩ := hv
  go_enter Try.func34, Try.ntmps34
  go_wp2_with fail
  go_loopw [0, 9] (fun s i wr => ∃ k : Nat, k ≤ N ∧ i = .int .i64 k ∧ wr.ownsRow base 5 1 s (m + k) (byteVals (xs ++ bytesLE k v)) ∧ Grows w wr bv s) (fun _ i _ => N - (intOf i).toNat)
  case atStart => exact ⟨0, by omega, rfl, by simpa [bytesLE] using hown, Grows.refl _ _⟩
  case round =>
    obtain ⟨k, hk, rfl, hown2, hgr⟩ := hrel
    by_cases hlt : k < N
    · clear hown
      have hsz := hgr.size
      go_wp2_with (first
        | (at_builtin
           refine wpList_append_any _ rfl (.tmp 12) (.tmp 19) _ rfl base 5 i0 _ 1 1 Try.underlying22 hi0 hz0 hz1 hz2 rfl (by omega) _ (m + k) (byteVals (xs ++ bytesLE k v)) rfl
             (hown2.alloc _) _ (some ⟨wr.heap.size, 0, none⟩) 1 1 [.int .u8 (IntKind.u8.wrap (v / 2 ^ (8 * k)))] rfl (Reads.new1 _ _ _) ?c1 ?c2 ?c3 ?c4 ?_
           case c1 => intro u hu; simp only [List.mem_singleton] at hu; subst hu; rfl
           case c2 => simp only [maxLen]; omega
           case c3 => omega
           case c4 => simp; omega
           intro v2 w2 hown3 hg2 hat2))
      refine ⟨⟨k + 1, by omega, by go_num, ?_, (hgr.alloc _).step hg2 hat2⟩, by simp [intOf]; omega⟩
      have e : byteVals (xs ++ bytesLE (k + 1) v) = byteVals (xs ++ bytesLE k v) ++ [.int .u8 (IntKind.u8.wrap (v / 2 ^ (8 * k)))] := by
        rw [bytesLE_snoc, byte_wrap]; simp [byteVals]
      rw [e]
      exact hown3
    · obtain rfl : N = k := by omega
      go_wp2_with fail
      go_ret
      exact ⟨_, rfl, hown2, hgr⟩
end Go.Proofs.Ytcaefdfdngecdaa
