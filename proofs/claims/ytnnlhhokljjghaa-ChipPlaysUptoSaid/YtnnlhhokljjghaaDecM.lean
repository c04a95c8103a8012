/- Walk of chip's Decode: bytes as instructions. Conditions: the bytes lie in memory. -/
import Derived.Test.YtnnlhhokljjghaaEncM
import Derived.Laws.BitsAllLaws
import Derived.BigRegion
set_option linter.unusedVariables false
set_option linter.unusedSimpArgs false
namespace Go.Proofs.Ytnnlhhokljjghaa
open Go.RowKit

theorem or32_step (v x : Int) (k : Nat) (hk : k < 4) (h0 : 0 ≤ v) (h1 : v < 256 ^ k) (hx0 : 0 ≤ x) (hx1 : x < 256) : bits .or .u32 v (x * 256 ^ k) = v + x * 256 ^ k := by
  have hb : 0 ≤ x * 256 ^ k ∧ x * 256 ^ k < 4294967296 ∧ v < 4294967296 := by
    rcases (show k = 0 ∨ k = 1 ∨ k = 2 ∨ k = 3 by omega) with rfl | rfl | rfl | rfl <;> simp only [Int.reducePow] at h1 ⊢ <;> omega
  rw [u32_or v _ h0 hb.2.2 hb.1 hb.2.1]
  obtain ⟨n, rfl⟩ := Int.eq_ofNat_of_zero_le h0
  obtain ⟨m, rfl⟩ := Int.eq_ofNat_of_zero_le hx0
  have hc : ((m : Int) * 256 ^ k).toNat = m * 256 ^ k := by
    rw [show ((m : Int) * 256 ^ k) = ((m * 256 ^ k : Nat) : Int) by simp, Int.toNat_natCast]
  rw [hc, Int.toNat_natCast, Nat.or_comm, nat_join (8 * k) (m * 256 ^ k) n (by rw [natPow256]; exact Nat.mul_mod_left _ _) (by
    have : ((n : Nat) : Int) < ((256 ^ k : Nat) : Int) := by simpa using h1
    rw [← natPow256]; omega)]
  simp [Int.add_comm]
theorem or32_1 {v x : Int} (h0 : 0 ≤ v) (h1 : v < 256) (hx0 : 0 ≤ x) (hx1 : x < 256) : bits .or .u32 v (x * 256) = v + x * 256 := or32_step v x 1 (by omega) h0 h1 hx0 hx1
theorem or32_2 {v x : Int} (h0 : 0 ≤ v) (h1 : v < 65536) (hx0 : 0 ≤ x) (hx1 : x < 256) : bits .or .u32 v (x * 65536) = v + x * 65536 := or32_step v x 2 (by omega) h0 h1 hx0 hx1
theorem or32_3 {v x : Int} (h0 : 0 ≤ v) (h1 : v < 16777216) (hx0 : 0 ≤ x) (hx1 : x < 256) : bits .or .u32 v (x * 16777216) = v + x * 16777216 := or32_step v x 3 (by omega) h0 h1 hx0 hx1
theorem infoM : (Try.prog.info? 30).map (fun i => (i.zero, i.size, i.bytes)) = some (some (.agg #[.int .u8 0, .int .i64 0, .int .i64 0, .int .i64 0, .int .i32 0]), 5, 40) := by kernel_rfl
/-- eight bytes as an instruction -/
def mOf (r : List Int) : MInstD := ⟨r.getD 0 0, r.getD 1 0, r.getD 2 0, r.getD 3 0, IntKind.i32.wrap (leV ((r.drop 4).take 4))⟩
theorem mOf_wf (r : List Int) (h : ∀ x ∈ r, 0 ≤ x ∧ x < 256) : (mOf r).Wf := by
  have hg : ∀ k, 0 ≤ r.getD k 0 ∧ r.getD k 0 < 256 := fun k => by
    rw [List.getD_eq_getElem?_getD]
    rcases hk : r[k]? with _ | x
    · simp
    · simpa using h x (List.mem_of_getElem? hk)
  have h0 := hg 0; have h1 := hg 1; have h2 := hg 2; have h3 := hg 3
  refine ⟨?_, ?_, ?_, ?_, ?_⟩ <;> simp only [mOf] <;> first | omega | (rw [IntKind.wrap_i32]; omega)
/-- so many instructions, or the first one that is none -/
def decM : Nat → List Int → Option (List MInstD)
  | 0, _ => some []
  | k + 1, r => if goodP (mOf (r.take 8)) then (decM k (r.drop 8)).map (mOf (r.take 8) :: ·) else none
theorem eight : ∀ (ys : List Int), 8 ≤ ys.length → ∃ x0 x1 x2 x3 x4 x5 x6 x7 zs, ys = x0 :: x1 :: x2 :: x3 :: x4 :: x5 :: x6 :: x7 :: zs
  | [], h => absurd h (by simp)
  | [_], h => absurd h (by simp)
  | [_, _], h => absurd h (by simp)
  | [_, _, _], h => absurd h (by simp)
  | [_, _, _, _], h => absurd h (by simp)
  | [_, _, _, _, _], h => absurd h (by simp)
  | [_, _, _, _, _, _], h => absurd h (by simp)
  | [_, _, _, _, _, _, _], h => absurd h (by simp)
  | x0 :: x1 :: x2 :: x3 :: x4 :: x5 :: x6 :: x7 :: zs, _ => ⟨x0, x1, x2, x3, x4, x5, x6, x7, zs, rfl⟩
set_option maxRecDepth 100000 in
set_option maxHeartbeats 4000000 in
theorem decode_any (A : Option Addr) (n c : Nat) (xs : List Int) (w : World) (B : Nat) (hr : Reads w B 1 A n (byteVals xs)) (hl : xs.length = n) (hnc : n ≤ c) (hc : c ≤ maxLen) (hn : n ≤ 10000000000) (hB : B ≤ w.heap.size) (hb : ∀ x ∈ xs, 0 ≤ x ∧ x < 256) (h8 : n % 8 = 0) :
    Calls Try.prog 13 #[.slice A n c] w fun e w' => ((∃ l sv, decM (n / 8) xs = some l ∧ e = .returned (.tuple #[sv, .int .i64 0]) ∧ w'.ownsRow w.heap.size 30 5 sv (n / 8) (l.flatMap mcells)) ∨ (decM (n / 8) xs = none ∧ e = .returned (.tuple #[.slice none 0 0, .int .i64 200]))) ∧ Below w.heap.size w w' := by
  obtain ⟨i0, hi0, hz0, hz1, hz2⟩ := info_parts infoM
  obtain ⟨N, hN⟩ : ∃ N, n = 8 * N := ⟨n / 8, by omega⟩
  have hN8 : n / 8 = N := by omega
  rw [hN8]
  unfold maxLen at hc
  have hm8 : ((n : Int) % 8 != 0) = false := by simp; omega
  have hst : decM N xs = (decM (N - 0) (xs.drop (8 * 0))).map (([] : List MInstD) ++ ·) := by simp
  have Hr := Lib.hid hr
  have Hl := Lib.hid hl
  have Hb := Lib.hid hb
  have HN := Lib.hid hN
  have HN8 := Lib.hid hN8
  have Hst := Lib.hid hst
  clear hst hN8 hN hb hl hr
  clear h8
  go_enter Try.func13, Try.ntmps13
  go_wp2_with fail
  go_loopw [0, 4] (fun bv s wq => ∃ k : Nat, k ≤ N ∧ ∃ Ak ck, bv = .slice Ak (n - 8 * k) ck ∧ n - 8 * k ≤ ck ∧ ck ≤ 9223372036854775807 ∧ Reads w B 1 Ak (n - 8 * k) (byteVals (xs.drop (8 * k))) ∧ ∃ l : List MInstD, l.length = k ∧ wq.ownsRow w.heap.size 30 5 s k (l.flatMap mcells) ∧ Below w.heap.size w wq ∧ Hid (decM N xs = (decM (N - k) (xs.drop (8 * k))).map (l ++ ·))) (fun bv _ _ => match bv with | .slice _ m _ => m | _ => 0)
  case atStart => exact ⟨0, by omega, A, c, rfl, by omega, by omega, by simpa using Hr.out, [], rfl, World.ownsRow_nil _ _ _ _, Below.refl _ _, Hst.out⟩
  case round =>
    obtain ⟨k, hk, Ak, ck, rfl, hck1, hck2, hR0, l, hll, hown, hbw, hdec⟩ := hrel
    have hR := hR0.below (hbw.mono hB)
    by_cases hlt : k < N
    · obtain ⟨ad, hA, hadB, hcell⟩ := hR.2 (by have := HN.out; omega)
      subst hA
      obtain ⟨q, hq⟩ : ∃ q, q = n - 8 * k := ⟨_, rfl⟩
      have hq8 : 8 ≤ q := by have := HN.out; omega
      obtain ⟨ys, hys⟩ : ∃ ys, ys = xs.drop (8 * k) := ⟨_, rfl⟩
      have hyl : ys.length = q := by rw [hys, List.length_drop, Hl.out, hq]
      have hyb : ∀ x ∈ ys, 0 ≤ x ∧ x < 256 := fun x hx => Hb.out x (by rw [hys] at hx; exact List.mem_of_mem_drop hx)
      rw [← hys] at hcell hdec hR hR0
      rw [← hq] at hck1 hR hR0 ⊢
      obtain ⟨x0, x1, x2, x3, x4, x5, x6, x7, zs, hyz⟩ := eight ys (by omega)
      rw [hyz] at hyb hcell
      have c0 := hcell 0 _ rfl
      have c1 := hcell 1 _ rfl
      have c2 := hcell 2 _ rfl
      have c3 := hcell 3 _ rfl
      have c4 := hcell 4 _ rfl
      have c5 := hcell 5 _ rfl
      have c6 := hcell 6 _ rfl
      have c7 := hcell 7 _ rfl
      simp [Addr.add] at c0 c1 c2 c3 c4 c5 c6 c7
      have hx : (0 ≤ x0 ∧ x0 < 256) ∧ (0 ≤ x1 ∧ x1 < 256) ∧ (0 ≤ x2 ∧ x2 < 256) ∧ (0 ≤ x3 ∧ x3 < 256) ∧ (0 ≤ x4 ∧ x4 < 256) ∧ (0 ≤ x5 ∧ x5 < 256) ∧ (0 ≤ x6 ∧ x6 < 256) ∧ (0 ≤ x7 ∧ x7 < 256) := by
        refine ⟨?_, ?_, ?_, ?_, ?_, ?_, ?_, ?_⟩ <;> exact hyb _ (by simp)
      obtain ⟨⟨l0, u0⟩, ⟨l1, u1⟩, ⟨l2, u2⟩, ⟨l3, u3⟩, ⟨l4, u4⟩, ⟨l5, u5⟩, ⟨l6, u6⟩, ⟨l7, u7⟩⟩ := hx
      have hi0' : (0 : Int) < q := by omega
      have hq1 : (1 : Int) < q ∧ (2 : Int) < q ∧ (3 : Int) < q ∧ (4 : Int) < q ∧ (5 : Int) < q ∧ (6 : Int) < q ∧ (7 : Int) < q ∧ (8 : Int) ≤ q := by omega
      have hq2 : 0 < q ∧ 1 < q ∧ 2 < q ∧ 3 < q ∧ 4 < q ∧ 5 < q ∧ 6 < q ∧ 7 < q := by omega
      have hw1 : IntKind.i64.wrap x1 = x1 ∧ IntKind.i64.wrap x2 = x2 ∧ IntKind.i64.wrap x3 = x3 := by refine ⟨?_, ?_, ?_⟩ <;> (rw [IntKind.wrap_i64]; omega)
      have hw2 : IntKind.u32.wrap x4 = x4 ∧ IntKind.u32.wrap x5 = x5 ∧ IntKind.u32.wrap x6 = x6 ∧ IntKind.u32.wrap x7 = x7 := by refine ⟨?_, ?_, ?_, ?_⟩ <;> (rw [IntKind.wrap_u32]; omega)
      have hs : IntKind.u32.wrap (x5 * 256) = x5 * 256 ∧ IntKind.u32.wrap (x6 * 65536) = x6 * 65536 ∧ IntKind.u32.wrap (x7 * 16777216) = x7 * 16777216 := by refine ⟨?_, ?_, ?_⟩ <;> (rw [IntKind.wrap_u32]; omega)
      have ho1 := or32_1 (v := x4) (x := x5) l4 u4 l5 u5
      have ho2 := or32_2 (v := x4 + x5 * 256) (x := x6) (by omega) (by omega) l6 u6
      have ho3 := or32_3 (v := x4 + x5 * 256 + x6 * 65536) (x := x7) (by omega) (by omega) l7 u7
      obtain ⟨im, him⟩ : ∃ im, IntKind.i32.wrap (x4 + x5 * 256 + x6 * 65536 + x7 * 16777216) = im := ⟨_, rfl⟩
      have hadw : ad.block < wr.heap.size := by have := hbw.size; omega
      have e0 := (World.cell?_alloc_lt wr (.cells #[.int .u8 0, .int .i64 0, .int .i64 0, .int .i64 0, .int .i32 0] 30) ad hadw).trans c0
      have e1 := (World.cell?_alloc_lt wr (.cells #[.int .u8 0, .int .i64 0, .int .i64 0, .int .i64 0, .int .i32 0] 30) { block := ad.block, off := ad.off + 1 } hadw).trans c1
      have e2 := (World.cell?_alloc_lt wr (.cells #[.int .u8 0, .int .i64 0, .int .i64 0, .int .i64 0, .int .i32 0] 30) { block := ad.block, off := ad.off + 2 } hadw).trans c2
      have e3 := (World.cell?_alloc_lt wr (.cells #[.int .u8 0, .int .i64 0, .int .i64 0, .int .i64 0, .int .i32 0] 30) { block := ad.block, off := ad.off + 3 } hadw).trans c3
      have e4 := (World.cell?_alloc_lt wr (.cells #[.int .u8 0, .int .i64 0, .int .i64 0, .int .i64 0, .int .i32 0] 30) { block := ad.block, off := ad.off + 4 } hadw).trans c4
      have e5 := (World.cell?_alloc_lt wr (.cells #[.int .u8 0, .int .i64 0, .int .i64 0, .int .i64 0, .int .i32 0] 30) { block := ad.block, off := ad.off + 5 } hadw).trans c5
      have e6 := (World.cell?_alloc_lt wr (.cells #[.int .u8 0, .int .i64 0, .int .i64 0, .int .i64 0, .int .i32 0] 30) { block := ad.block, off := ad.off + 6 } hadw).trans c6
      have e7 := (World.cell?_alloc_lt wr (.cells #[.int .u8 0, .int .i64 0, .int .i64 0, .int .i64 0, .int .i32 0] 30) { block := ad.block, off := ad.off + 7 } hadw).trans c7
      have Hyz := Lib.hid hyz
      have Hyb := Lib.hid hyb
      have Hyl := Lib.hid hyl
      have Hys := Lib.hid hys
      have Hq := Lib.hid hq
      have Hown := Lib.hid hown
      have Hbw := Lib.hid hbw
      have Hdec := Lib.hid hdec
      have HR := Lib.hid hR
      have HR0 := Lib.hid hR0
      have Hll := Lib.hid hll
      clear hll hR0 hR hdec hbw hown hq hys hyl hyb hyz
      clear hcell
      go_upto_region 6 with fail
      refine wp_region_noPanic ?_
      refine wp_region_held_drew (S := fun W => W.cell? ad = some (.int .u8 x0) ∧ W.cell? { block := ad.block, off := ad.off + 1 } = some (.int .u8 x1) ∧ W.cell? { block := ad.block, off := ad.off + 2 } = some (.int .u8 x2) ∧ W.cell? { block := ad.block, off := ad.off + 3 } = some (.int .u8 x3) ∧ W.cell? { block := ad.block, off := ad.off + 4 } = some (.int .u8 x4) ∧ W.cell? { block := ad.block, off := ad.off + 5 } = some (.int .u8 x5) ∧ W.cell? { block := ad.block, off := ad.off + 6 } = some (.int .u8 x6) ∧ W.cell? { block := ad.block, off := ad.off + 7 } = some (.int .u8 x7)) (by kernel_rfl) ⟨c0, c1, c2, c3, c4, c5, c6, c7⟩ (fun hHeld => ?_)
      refine wpAnyH_take (i := 0) (v := ?_) rfl (by kernel_rfl) (by kernel_rfl) (by kernel_rfl) (fun _ _ _ h => h) (Or.inl ⟨by rfl, ?_⟩) (by assumption) ?_
      rotate_left
      · intro w hSw; (try dsimp only at hSw); go_simp; try with_reducible rfl
      simp only [Act.put, List.getElem_toArray, List.getElem_cons_zero, List.getElem_cons_succ, List.setIfInBounds_toArray, List.set_cons_zero, List.set_cons_succ]
      refine wpAnyH_take (i := 1) (v := ?_) rfl (by kernel_rfl) (by kernel_rfl) (by kernel_rfl) (fun _ _ _ h => h) (Or.inl ⟨by rfl, ?_⟩) (by assumption) ?_
      rotate_left
      · intro w hSw; (try dsimp only at hSw); go_simp; try with_reducible rfl
      simp only [Act.put, List.getElem_toArray, List.getElem_cons_zero, List.getElem_cons_succ, List.setIfInBounds_toArray, List.set_cons_zero, List.set_cons_succ]
      refine wpAnyH_take (i := 2) (v := ?_) rfl (by kernel_rfl) (by kernel_rfl) (by kernel_rfl) (fun _ _ _ h => h) (Or.inl ⟨by rfl, ?_⟩) (by assumption) ?_
      rotate_left
      · intro w hSw; (try dsimp only at hSw); go_simp; try with_reducible rfl
      simp only [Act.put, List.getElem_toArray, List.getElem_cons_zero, List.getElem_cons_succ, List.setIfInBounds_toArray, List.set_cons_zero, List.set_cons_succ]
      refine wpAnyH_take (i := 3) (v := ?_) rfl (by kernel_rfl) (by kernel_rfl) (by kernel_rfl) (fun _ _ _ h => h) (Or.inl ⟨by rfl, ?_⟩) (by assumption) ?_
      rotate_left
      · intro w hSw; (try dsimp only at hSw); go_simp; try with_reducible rfl
      simp only [Act.put, List.getElem_toArray, List.getElem_cons_zero, List.getElem_cons_succ, List.setIfInBounds_toArray, List.set_cons_zero, List.set_cons_succ]
      refine wpAnyH_take (i := 4) (v := ?_) rfl (by kernel_rfl) (by kernel_rfl) (by kernel_rfl) (fun _ _ _ h => h) (Or.inl ⟨by rfl, ?_⟩) (by assumption) ?_
      rotate_left
      · intro w hSw; (try dsimp only at hSw); go_simp; try with_reducible rfl
      simp only [Act.put, List.getElem_toArray, List.getElem_cons_zero, List.getElem_cons_succ, List.setIfInBounds_toArray, List.set_cons_zero, List.set_cons_succ]
      refine wpAnyH_take (i := 5) (v := ?_) rfl (by kernel_rfl) (by kernel_rfl) (by kernel_rfl) (fun _ _ _ h => h) (Or.inl ⟨by rfl, ?_⟩) (by assumption) ?_
      rotate_left
      · intro w hSw; (try dsimp only at hSw); go_simp; try with_reducible rfl
      simp only [Act.put, List.getElem_toArray, List.getElem_cons_zero, List.getElem_cons_succ, List.setIfInBounds_toArray, List.set_cons_zero, List.set_cons_succ]
      refine wpAnyH_take (i := 6) (v := ?_) rfl (by kernel_rfl) (by kernel_rfl) (by kernel_rfl) (fun _ _ _ h => h) (Or.inl ⟨by rfl, ?_⟩) (by assumption) ?_
      rotate_left
      · intro w hSw; (try dsimp only at hSw); go_simp; try with_reducible rfl
      simp only [Act.put, List.getElem_toArray, List.getElem_cons_zero, List.getElem_cons_succ, List.setIfInBounds_toArray, List.set_cons_zero, List.set_cons_succ]
      refine wpAnyH_take (i := 7) (v := ?_) rfl (by kernel_rfl) (by kernel_rfl) (by kernel_rfl) (fun _ _ _ h => h) (Or.inl ⟨by rfl, ?_⟩) (by assumption) ?_
      rotate_left
      · intro w hSw; (try dsimp only at hSw); go_simp; try with_reducible rfl
      simp only [Act.put, List.getElem_toArray, List.getElem_cons_zero, List.getElem_cons_succ, List.setIfInBounds_toArray, List.set_cons_zero, List.set_cons_succ]
      refine wpAnyH_take (i := 8) (v := ?_) rfl (by kernel_rfl) (by kernel_rfl) (by kernel_rfl) (fun _ _ _ h => h) (Or.inl ⟨by rfl, ?_⟩) (by assumption) ?_
      rotate_left
      · intro w hSw; (try dsimp only at hSw); go_simp; try with_reducible rfl
      simp only [Act.put, List.getElem_toArray, List.getElem_cons_zero, List.getElem_cons_succ, List.setIfInBounds_toArray, List.set_cons_zero, List.set_cons_succ]
      refine wpAnyH_take (i := 9) (v := ?_) rfl (by kernel_rfl) (by kernel_rfl) (by kernel_rfl) (fun _ _ _ h => h) (Or.inl ⟨by rfl, ?_⟩) (by assumption) ?_
      rotate_left
      · intro w hSw; (try dsimp only at hSw); go_simp; try with_reducible rfl
      simp only [Act.put, List.getElem_toArray, List.getElem_cons_zero, List.getElem_cons_succ, List.setIfInBounds_toArray, List.set_cons_zero, List.set_cons_succ]
      refine wpAnyH_take (i := 10) (v := ?_) rfl (by kernel_rfl) (by kernel_rfl) (by kernel_rfl) (fun _ _ _ h => h) (Or.inl ⟨by rfl, ?_⟩) (by assumption) ?_
      rotate_left
      · intro w hSw; (try dsimp only at hSw); go_simp; try with_reducible rfl
      simp only [Act.put, List.getElem_toArray, List.getElem_cons_zero, List.getElem_cons_succ, List.setIfInBounds_toArray, List.set_cons_zero, List.set_cons_succ]
      refine wpAnyH_take (i := 11) (v := ?_) rfl (by kernel_rfl) (by kernel_rfl) (by kernel_rfl) (fun _ _ _ h => h) (Or.inl ⟨by rfl, ?_⟩) (by assumption) ?_
      rotate_left
      · intro w hSw; (try dsimp only at hSw); go_simp; try with_reducible rfl
      simp only [Act.put, List.getElem_toArray, List.getElem_cons_zero, List.getElem_cons_succ, List.setIfInBounds_toArray, List.set_cons_zero, List.set_cons_succ]
      refine wpAnyH_take (i := 12) (v := ?_) rfl (by kernel_rfl) (by kernel_rfl) (by kernel_rfl) (fun _ _ _ h => h) (Or.inl ⟨by rfl, ?_⟩) (by assumption) ?_
      rotate_left
      · intro w hSw; (try dsimp only at hSw); go_simp; try with_reducible rfl
      simp only [Act.put, List.getElem_toArray, List.getElem_cons_zero, List.getElem_cons_succ, List.setIfInBounds_toArray, List.set_cons_zero, List.set_cons_succ]
      refine wpAnyH_take (i := 13) (v := ?_) rfl (by kernel_rfl) (by kernel_rfl) (by kernel_rfl) (fun _ _ _ h => h) (Or.inl ⟨by rfl, ?_⟩) (by assumption) ?_
      rotate_left
      · intro w hSw; (try dsimp only at hSw); go_simp; try with_reducible rfl
      simp only [Act.put, List.getElem_toArray, List.getElem_cons_zero, List.getElem_cons_succ, List.setIfInBounds_toArray, List.set_cons_zero, List.set_cons_succ]
      refine wpAnyH_take (i := 14) (v := ?_) rfl (by kernel_rfl) (by kernel_rfl) (by kernel_rfl) (fun _ _ _ h => h) (Or.inl ⟨by rfl, ?_⟩) (by assumption) ?_
      rotate_left
      · intro w hSw; (try dsimp only at hSw); go_simp; try with_reducible rfl
      simp only [Act.put, List.getElem_toArray, List.getElem_cons_zero, List.getElem_cons_succ, List.setIfInBounds_toArray, List.set_cons_zero, List.set_cons_succ]
      refine wpAnyH_take (i := 15) (v := ?_) rfl (by kernel_rfl) (by kernel_rfl) (by kernel_rfl) (fun _ _ _ h => h) (Or.inl ⟨by rfl, ?_⟩) (by assumption) ?_
      rotate_left
      · intro w hSw; (try dsimp only at hSw); go_simp; try with_reducible rfl
      simp only [Act.put, List.getElem_toArray, List.getElem_cons_zero, List.getElem_cons_succ, List.setIfInBounds_toArray, List.set_cons_zero, List.set_cons_succ]
      refine wpAnyH_take (i := 16) (v := ?_) rfl (by kernel_rfl) (by kernel_rfl) (by kernel_rfl) (fun _ _ _ h => h) (Or.inl ⟨by rfl, ?_⟩) (by assumption) ?_
      rotate_left
      · intro w hSw; (try dsimp only at hSw); go_simp; try with_reducible rfl
      simp only [Act.put, List.getElem_toArray, List.getElem_cons_zero, List.getElem_cons_succ, List.setIfInBounds_toArray, List.set_cons_zero, List.set_cons_succ]
      refine wpAnyH_take (i := 17) (v := ?_) rfl (by kernel_rfl) (by kernel_rfl) (by kernel_rfl) (fun _ _ _ h => h) (Or.inl ⟨by rfl, ?_⟩) (by assumption) ?_
      rotate_left
      · intro w hSw; (try dsimp only at hSw); go_simp; try with_reducible rfl
      simp only [Act.put, List.getElem_toArray, List.getElem_cons_zero, List.getElem_cons_succ, List.setIfInBounds_toArray, List.set_cons_zero, List.set_cons_succ]
      refine wpAnyH_take (i := 18) (v := ?_) rfl (by kernel_rfl) (by kernel_rfl) (by kernel_rfl) (fun _ _ _ h => h) (Or.inl ⟨by rfl, ?_⟩) (by assumption) ?_
      rotate_left
      · intro w hSw; (try dsimp only at hSw); go_simp; try with_reducible rfl
      simp only [Act.put, List.getElem_toArray, List.getElem_cons_zero, List.getElem_cons_succ, List.setIfInBounds_toArray, List.set_cons_zero, List.set_cons_succ]
      refine wpAnyH_take (i := 19) (v := ?_) rfl (by kernel_rfl) (by kernel_rfl) (by kernel_rfl) (fun _ _ _ h => h) (Or.inl ⟨by rfl, ?_⟩) (by assumption) ?_
      rotate_left
      · intro w hSw; (try dsimp only at hSw); go_simp; try with_reducible rfl
      simp only [Act.put, List.getElem_toArray, List.getElem_cons_zero, List.getElem_cons_succ, List.setIfInBounds_toArray, List.set_cons_zero, List.set_cons_succ]
      refine wpAnyH_take (i := 20) (v := ?_) rfl (by kernel_rfl) (by kernel_rfl) (by kernel_rfl) (fun _ _ _ h => h) (Or.inl ⟨by rfl, ?_⟩) (by assumption) ?_
      rotate_left
      · intro w hSw; (try dsimp only at hSw); go_simp; try with_reducible rfl
      simp only [Act.put, List.getElem_toArray, List.getElem_cons_zero, List.getElem_cons_succ, List.setIfInBounds_toArray, List.set_cons_zero, List.set_cons_succ]
      refine wpAnyH_take (i := 21) (v := ?_) rfl (by kernel_rfl) (by kernel_rfl) (by kernel_rfl) (fun _ _ _ h => h) (Or.inl ⟨by rfl, ?_⟩) (by assumption) ?_
      rotate_left
      · intro w hSw; (try dsimp only at hSw); go_simp; try with_reducible rfl
      simp only [Act.put, List.getElem_toArray, List.getElem_cons_zero, List.getElem_cons_succ, List.setIfInBounds_toArray, List.set_cons_zero, List.set_cons_succ]
      refine wpAnyH_take (i := 22) (v := ?_) rfl (by kernel_rfl) (by kernel_rfl) (by kernel_rfl) (fun _ _ _ h => h) (Or.inl ⟨by rfl, ?_⟩) (by assumption) ?_
      rotate_left
      · intro w hSw; (try dsimp only at hSw); go_simp; try with_reducible rfl
      simp only [Act.put, List.getElem_toArray, List.getElem_cons_zero, List.getElem_cons_succ, List.setIfInBounds_toArray, List.set_cons_zero, List.set_cons_succ]
      refine wpAnyH_take (i := 23) (v := ?_) rfl (by kernel_rfl) (by kernel_rfl) (by kernel_rfl) (fun _ _ _ h => h) (Or.inl ⟨by rfl, ?_⟩) (by assumption) ?_
      rotate_left
      · intro w hSw; (try dsimp only at hSw); go_simp; try with_reducible rfl
      simp only [Act.put, List.getElem_toArray, List.getElem_cons_zero, List.getElem_cons_succ, List.setIfInBounds_toArray, List.set_cons_zero, List.set_cons_succ]
      refine wpAnyH_take (i := 24) (v := ?_) rfl (by kernel_rfl) (by kernel_rfl) (by kernel_rfl) (fun _ _ _ h => h) (Or.inl ⟨by rfl, ?_⟩) (by assumption) ?_
      rotate_left
      · intro w hSw; (try dsimp only at hSw); go_simp; try with_reducible rfl
      simp only [Act.put, List.getElem_toArray, List.getElem_cons_zero, List.getElem_cons_succ, List.setIfInBounds_toArray, List.set_cons_zero, List.set_cons_succ]
      refine wpAnyH_take (i := 25) (v := ?_) rfl (by kernel_rfl) (by kernel_rfl) (by kernel_rfl) (fun _ _ _ h => h) (Or.inl ⟨by rfl, ?_⟩) (by assumption) ?_
      rotate_left
      · intro w hSw; (try dsimp only at hSw); go_simp; try with_reducible rfl
      simp only [Act.put, List.getElem_toArray, List.getElem_cons_zero, List.getElem_cons_succ, List.setIfInBounds_toArray, List.set_cons_zero, List.set_cons_succ]
      refine wpAnyH_take (i := 26) (v := ?_) rfl (by kernel_rfl) (by kernel_rfl) (by kernel_rfl) (fun _ _ _ h => h) (Or.inl ⟨by rfl, ?_⟩) (by assumption) ?_
      rotate_left
      · intro w hSw; (try dsimp only at hSw); go_simp; try with_reducible rfl
      simp only [Act.put, List.getElem_toArray, List.getElem_cons_zero, List.getElem_cons_succ, List.setIfInBounds_toArray, List.set_cons_zero, List.set_cons_succ]
      refine wpAnyH_take (i := 27) (v := ?_) rfl (by kernel_rfl) (by kernel_rfl) (by kernel_rfl) (fun _ _ _ h => h) (Or.inl ⟨by rfl, ?_⟩) (by assumption) ?_
      rotate_left
      · intro w hSw; (try dsimp only at hSw); go_simp; try with_reducible rfl
      simp only [Act.put, List.getElem_toArray, List.getElem_cons_zero, List.getElem_cons_succ, List.setIfInBounds_toArray, List.set_cons_zero, List.set_cons_succ]
      refine wpAnyH_take (i := 28) (v := ?_) rfl (by kernel_rfl) (by kernel_rfl) (by kernel_rfl) (fun _ _ _ h => h) (Or.inl ⟨by rfl, ?_⟩) (by assumption) ?_
      rotate_left
      · intro w hSw; (try dsimp only at hSw); go_simp; try with_reducible rfl
      simp only [Act.put, List.getElem_toArray, List.getElem_cons_zero, List.getElem_cons_succ, List.setIfInBounds_toArray, List.set_cons_zero, List.set_cons_succ]
      refine wpAnyH_take (i := 29) (v := ?_) rfl (by kernel_rfl) (by kernel_rfl) (by kernel_rfl) (fun _ _ _ h => h) (Or.inl ⟨by rfl, ?_⟩) (by assumption) ?_
      rotate_left
      · intro w hSw; (try dsimp only at hSw); go_simp; try with_reducible rfl
      simp only [Act.put, List.getElem_toArray, List.getElem_cons_zero, List.getElem_cons_succ, List.setIfInBounds_toArray, List.set_cons_zero, List.set_cons_succ]
      refine wpAnyH_take (i := 30) (v := ?_) rfl (by kernel_rfl) (by kernel_rfl) (by kernel_rfl) (fun _ _ _ h => h) (Or.inl ⟨by rfl, ?_⟩) (by assumption) ?_
      rotate_left
      · intro w hSw; (try dsimp only at hSw); go_simp; try with_reducible rfl
      simp only [Act.put, List.getElem_toArray, List.getElem_cons_zero, List.getElem_cons_succ, List.setIfInBounds_toArray, List.set_cons_zero, List.set_cons_succ]
      refine wpAnyH_take (i := 31) (v := ?_) rfl (by kernel_rfl) (by kernel_rfl) (by kernel_rfl) (fun _ _ _ h => h) (Or.inl ⟨by rfl, ?_⟩) (by assumption) ?_
      rotate_left
      · intro w hSw; (try dsimp only at hSw); go_simp; try with_reducible rfl
      simp only [Act.put, List.getElem_toArray, List.getElem_cons_zero, List.getElem_cons_succ, List.setIfInBounds_toArray, List.set_cons_zero, List.set_cons_succ]
      refine wpAnyH_take (i := 32) (v := ?_) rfl (by kernel_rfl) (by kernel_rfl) (by kernel_rfl) (fun _ _ _ h => h) (Or.inl ⟨by rfl, ?_⟩) (by assumption) ?_
      rotate_left
      · intro w hSw; (try dsimp only at hSw); go_simp; try with_reducible rfl
      simp only [Act.put, List.getElem_toArray, List.getElem_cons_zero, List.getElem_cons_succ, List.setIfInBounds_toArray, List.set_cons_zero, List.set_cons_succ]
      refine wpAnyH_take (i := 33) (v := ?_) rfl (by kernel_rfl) (by kernel_rfl) (by kernel_rfl) (fun _ _ _ h => h) (Or.inl ⟨by rfl, ?_⟩) (by assumption) ?_
      rotate_left
      · intro w hSw; (try dsimp only at hSw); go_simp; try with_reducible rfl
      simp only [Act.put, List.getElem_toArray, List.getElem_cons_zero, List.getElem_cons_succ, List.setIfInBounds_toArray, List.set_cons_zero, List.set_cons_succ]
      refine wpAnyH_take (i := 34) (v := ?_) rfl (by kernel_rfl) (by kernel_rfl) (by kernel_rfl) (fun _ _ _ h => h) (Or.inl ⟨by rfl, ?_⟩) (by assumption) ?_
      rotate_left
      · intro w hSw; (try dsimp only at hSw); go_simp; try with_reducible rfl
      simp only [Act.put, List.getElem_toArray, List.getElem_cons_zero, List.getElem_cons_succ, List.setIfInBounds_toArray, List.set_cons_zero, List.set_cons_succ]
      refine wpAnyH_take (i := 35) (v := ?_) rfl (by kernel_rfl) (by kernel_rfl) (by kernel_rfl) (fun _ _ _ h => h) (Or.inl ⟨by rfl, ?_⟩) (by assumption) ?_
      rotate_left
      · intro w hSw; (try dsimp only at hSw); go_simp; try with_reducible rfl
      simp only [Act.put, List.getElem_toArray, List.getElem_cons_zero, List.getElem_cons_succ, List.setIfInBounds_toArray, List.set_cons_zero, List.set_cons_succ]
      refine wpAnyH_take (i := 36) (v := ?_) rfl (by kernel_rfl) (by kernel_rfl) (by kernel_rfl) (fun _ _ _ h => h) (Or.inl ⟨by rfl, ?_⟩) (by assumption) ?_
      rotate_left
      · intro w hSw; (try dsimp only at hSw); go_simp; try with_reducible rfl
      simp only [Act.put, List.getElem_toArray, List.getElem_cons_zero, List.getElem_cons_succ, List.setIfInBounds_toArray, List.set_cons_zero, List.set_cons_succ]
      refine wpAnyH_take (i := 37) (v := ?_) rfl (by kernel_rfl) (by kernel_rfl) (by kernel_rfl) (fun _ _ _ h => h) (Or.inl ⟨by rfl, ?_⟩) (by assumption) ?_
      rotate_left
      · intro w hSw; (try dsimp only at hSw); go_simp; try with_reducible rfl
      simp only [Act.put, List.getElem_toArray, List.getElem_cons_zero, List.getElem_cons_succ, List.setIfInBounds_toArray, List.set_cons_zero, List.set_cons_succ]
      refine wpAnyH_take (i := 38) (v := ?_) rfl (by kernel_rfl) (by kernel_rfl) (by kernel_rfl) (fun _ _ _ h => h) (Or.inl ⟨by rfl, ?_⟩) (by assumption) ?_
      rotate_left
      · intro w hSw; (try dsimp only at hSw); go_simp; try with_reducible rfl
      simp only [Act.put, List.getElem_toArray, List.getElem_cons_zero, List.getElem_cons_succ, List.setIfInBounds_toArray, List.set_cons_zero, List.set_cons_succ]
      refine wpAnyH_ready (rs := [39]) (by kernel_rfl) (by simp) ?_
      refine AllReadyH.cons rfl (fun K hK => ?_) AllReadyH.nil
      go_simp
      refine hK.out _ _ ⟨e0, e1, e2, e3, e4, e5, e6, e7⟩ (fun hHeld2 => ?_)
      refine wpAnyH_ready (rs := [40]) (by kernel_rfl) (by simp) ?_
      refine AllReadyH.cons rfl (fun K hK => ?_) AllReadyH.nil
      go_simp
      have f0 := fun (o : Obj) => (World.cell?_alloc_lt wr o ad hadw).trans c0
      refine hK.out _ _ ⟨(World.cell?_alloc_lt wr _ ad hadw).trans c0, (World.cell?_alloc_lt wr _ { block := ad.block, off := ad.off + 1 } hadw).trans c1, (World.cell?_alloc_lt wr _ { block := ad.block, off := ad.off + 2 } hadw).trans c2, (World.cell?_alloc_lt wr _ { block := ad.block, off := ad.off + 3 } hadw).trans c3, (World.cell?_alloc_lt wr _ { block := ad.block, off := ad.off + 4 } hadw).trans c4, (World.cell?_alloc_lt wr _ { block := ad.block, off := ad.off + 5 } hadw).trans c5, (World.cell?_alloc_lt wr _ { block := ad.block, off := ad.off + 6 } hadw).trans c6, (World.cell?_alloc_lt wr _ { block := ad.block, off := ad.off + 7 } hadw).trans c7⟩ (fun hHeld3 => ?_)
      clear hK K hHeld hHeld2 hHeld3
      refine wpAnyH_done (by kernel_rfl) ?_ _
      refine NoPanic.normal ?_
      clear e0 e1 e2 e3 e4 e5 e6 e7 c0 c1 c2 c3 c4 c5 c6 c7 f0 hw1 hw2 hs ho1 ho2 ho3
      have hwf : (⟨x0, x1, x2, x3, im⟩ : MInstD).Wf := by
        rw [IntKind.wrap_i32] at him
        refine ⟨?_, ?_, ?_, ?_, ?_⟩ <;> simp only <;> omega
      have hmo : mOf (xs.drop (8 * k) |>.take 8) = ⟨x0, x1, x2, x3, im⟩ := by
        rw [← Hys.out, Hyz.out, ← him]
        simp [mOf, leV]
        congr 1
        omega
      have hdr : (xs.drop (8 * k)).drop 8 = xs.drop (8 * (k + 1)) := by rw [List.drop_drop]; rfl
      have hstep : decM (N - k) (xs.drop (8 * k)) = if goodP ⟨x0, x1, x2, x3, im⟩ then (decM (N - (k + 1)) (xs.drop (8 * (k + 1)))).map ((⟨x0, x1, x2, x3, im⟩ : MInstD) :: ·) else none := by
        rw [show N - k = (N - (k + 1)) + 1 by omega, decM, hmo, hdr]
      have hsz := Hbw.out.size
      have hP := (Blk.new wr 30 #[.int .u8 x0, .int .i64 x1, .int .i64 x2, .int .i64 x3, .int .i32 im]).drew
      have hbw6 := (Hbw.out.alloc hsz (.cells #[.int .u8 x0, .int .i64 x1, .int .i64 x2, .int .i64 x3, .int .i32 im] 30)).drew
      have hO6 := own_kept' (Hown.out.alloc (.cells #[.int .u8 x0, .int .i64 x1, .int .i64 x2, .int .i64 x3, .int .i32 im] 30)) (only_drew (World.grownBy.refl _ none)) nofun
      obtain ⟨F, hF⟩ : ∃ F, F = wr.heap.size := ⟨_, rfl⟩
      rw [← hF] at hP ⊢
      have hw6s : (wr.alloc (.cells #[.int .u8 x0, .int .i64 x1, .int .i64 x2, .int .i64 x3, .int .i32 im] 30)).drew.heap.size = F + 1 := by rw [hF]; simp
      have hB6 : Below wr.heap.size wr (wr.alloc (.cells #[.int .u8 x0, .int .i64 x1, .int .i64 x2, .int .i64 x3, .int .i32 im] 30)).drew := ((Below.refl _ wr).alloc (Nat.le_refl _) _).drew
      obtain ⟨w6, hw6⟩ : ∃ w6, w6 = (wr.alloc (.cells #[.int .u8 x0, .int .i64 x1, .int .i64 x2, .int .i64 x3, .int .i32 im] 30)).drew := ⟨_, rfl⟩
      rw [← hw6] at hP hbw6 hO6 hw6s hB6 ⊢
      have kp0 := Blk.cell hP 0
      have kp1 := Blk.cell hP 1
      have kp2 := Blk.cell hP 2
      have kp3 := Blk.cell hP 3
      have kp4 := Blk.cell hP 4
      simp only [List.getElem?_toArray, List.getElem?_cons_zero, List.getElem?_cons_succ] at kp0 kp1 kp2 kp3 kp4
      have HF := Lib.hid hF
      have Hw6 := Lib.hid hw6
      have HB6 := Lib.hid hB6
      have HP := Lib.hid hP
      have HO6 := Lib.hid hO6
      have Hbw6 := Lib.hid hbw6
      have Hwf := Lib.hid hwf
      have Hmo := Lib.hid hmo
      have Hdr := Lib.hid hdr
      have Hstep := Lib.hid hstep
      have Him := Lib.hid him
      have Hw6s := Lib.hid hw6s
      clear hw6s him hstep hdr hmo hwf hbw6 hO6 hP hB6 hw6 hF
      go_wp2_with fail
      refine (good_any ⟨x0, x1, x2, x3, im⟩ Hwf.out _).mono ?_
      rintro e w7 ⟨rfl, hb7⟩
      have hP7 := HP.out.below hb7 (by rw [Hw6s.out]; omega)
      have hO7 := own_kept' HO6.out (only_of_below hb7 none) nofun
      have hb7' := Hbw6.out.trans (hb7.mono (by rw [Hw6s.out, HF.out]; omega))
      have kq0 := Blk.cell hP7 0
      have kq1 := Blk.cell hP7 1
      have kq2 := Blk.cell hP7 2
      have kq3 := Blk.cell hP7 3
      have kq4 := Blk.cell hP7 4
      simp only [List.getElem?_toArray, List.getElem?_cons_zero, List.getElem?_cons_succ] at kq0 kq1 kq2 kq3 kq4
      clear kp0 kp1 kp2 kp3 kp4
      have hs7 := hb7'.size
      rcases hg : goodP ⟨x0, x1, x2, x3, im⟩ with _ | _
      · have hno : decM N xs = none := by rw [Hdec.out, Hys.out, Hstep.out, hg]; rfl
        have Hno := Lib.hid hno
        have Hb7' := Lib.hid hb7'
        have HP7 := Lib.hid hP7
        have HO7 := Lib.hid hO7
        have Hg := Lib.hid hg
        clear hg hO7 hP7 hb7' hno
        clear hb7
        go_wp2_with fail
        go_ret2
        exact ⟨.inr ⟨Hno.out, rfl⟩, Hb7'.out⟩
      · have hnx : decM N xs = (decM (N - (k + 1)) (xs.drop (8 * (k + 1)))).map ((l ++ [(⟨x0, x1, x2, x3, im⟩ : MInstD)]) ++ ·) := by
          rw [Hdec.out, Hys.out, Hstep.out, hg]
          simp only [if_true, Option.map_map]
          congr 1
          funext z
          simp
        have hnk : (k + 1) * 40 ≤ 140737488355328 := by have := HN.out; omega
        have Hnx := Lib.hid hnx
        have Hb7' := Lib.hid hb7'
        have HP7 := Lib.hid hP7
        have HO7 := Lib.hid hO7
        have Hg := Lib.hid hg
        clear hg hO7 hP7 hb7' hnx
        clear hb7
        go_wp2_with (first
          | (at_builtin
             refine wpList_append_any _ rfl (.tmp 57) (.tmp 59) _ rfl w.heap.size 30 i0 _ 5 40 Try.underlying22 hi0 hz0 hz1 hz2 rfl (by omega) _ k _ rfl (HO7.out.alloc _) (w7.heap.size + 1) (some ⟨w7.heap.size, 0, none⟩) 1 1 (mcells ⟨x0, x1, x2, x3, im⟩) rfl ?c0 ?c1 ?c2 ?c3 ?c4 ?_
             case c0 => exact Reads.newS _ rfl _ _ _ _ _ rfl rfl
             case c1 => intro u hu; simp only [mcells, List.mem_cons, List.not_mem_nil, or_false] at hu; rcases hu with rfl | rfl | rfl | rfl | rfl <;> rfl
             case c2 => simp only [maxLen]; omega
             case c3 => omega
             case c4 => simp; omega
             intro v9 w9 hown9 hg9 hat9))
        have hb9 := (Hb7'.out.alloc hs7 (.cells #[.int .u8 x0, .int .i64 x1, .int .i64 x2, .int .i64 x3, .int .i32 im] 30)).grown hg9 (by simp; omega) (fun g e => (HO7.out.lt g e).1)
        have hqn := Hq.out
        have hcut := HR0.out.cut (k := 8) (cap := ck) hq8 hck1
        refine ⟨⟨k + 1, by omega, if ck = 8 then some ad else some { block := ad.block, off := ad.off + 8 }, ck - 8, by rw [show q - 8 = n - 8 * (k + 1) by omega], by omega, by omega, ?_, l ++ [⟨x0, x1, x2, x3, im⟩], by simp [Hll.out], by rw [List.flatMap_append]; simpa using hown9, hb9, Lib.hid Hnx.out⟩, by simp only; omega⟩
        rw [show n - 8 * (k + 1) = q - 8 by omega]
        rw [← Hdr.out, ← Hys.out]
        simpa [byteVals, Addr.add, List.map_drop] using hcut
    · have hkN : k = N := by omega
      have hn0 : n - 8 * k = 0 := by have := HN.out; omega
      have hfin : decM N xs = some l := by rw [hdec.out, hkN, Nat.sub_self]; simp [decM]
      rw [hn0]
      have hown' : wr.ownsRow w.heap.size 30 5 _ N (l.flatMap mcells) := hkN ▸ hown
      have Hfin := Lib.hid hfin
      have Hown' := Lib.hid hown'
      have Hbw := Lib.hid hbw
      have HR := Lib.hid hR
      have HR0 := Lib.hid hR0
      have Hdec := Lib.hid hdec
      have Hown := Lib.hid hown
      clear hown hdec hR0 hR hbw hown' hfin
      go_wp2_with fail
      go_ret2
      exact ⟨.inl ⟨l, _, Hfin.out, rfl, Hown'.out⟩, Hbw.out⟩
end Go.Proofs.Ytnnlhhokljjghaa
