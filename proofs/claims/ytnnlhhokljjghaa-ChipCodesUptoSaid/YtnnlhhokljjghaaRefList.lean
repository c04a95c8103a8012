/- Walk of the document's List: bytes as instructions. Conditions: the bytes lie in memory. -/
import Derived.Test.YtnnlhhokljjghaaRefIs
import Derived.Test.YtnnlhhokljjghaaNewC
set_option linter.unusedVariables false
set_option linter.unusedSimpArgs false
namespace Go.Proofs.Ytnnlhhokljjghaa
open Go.RowKit

set_option maxRecDepth 100000 in
set_option maxHeartbeats 1000000 in
theorem reflist_odd (A : Option Addr) (n c : Nat) (w : World) (hn : n ≤ maxLen) (h8 : n % 8 ≠ 0) :
    Calls Try.prog 14 #[.slice A n c] w fun e w' => e = .returned (.tuple #[.slice none 0 0, .bool false]) ∧ w = w' := by
  have hm8 : ((n : Int) % 8 != 0) = true := by simp; omega
  unfold maxLen at hn
  clear h8
  go_enter Try.func14, Try.ntmps14
  go_wp2_with fail
  go_ret2
  exact ⟨rfl, rfl⟩
set_option maxRecDepth 100000 in
set_option maxHeartbeats 4000000 in
theorem reflist_any (A : Option Addr) (n c : Nat) (xs : List Int) (w : World) (B : Nat) (hr : Reads w B 1 A n (byteVals xs)) (hl : xs.length = n) (hnc : n ≤ c) (hc : c ≤ maxLen) (hn : n ≤ 10000000000) (hB : B ≤ w.heap.size) (hb : ∀ x ∈ xs, 0 ≤ x ∧ x < 256) (h8 : n % 8 = 0) :
    Calls Try.prog 14 #[.slice A n c] w fun e w' => ((∃ l sv, decM (n / 8) xs = some l ∧ e = .returned (.tuple #[sv, .bool true]) ∧ w'.ownsRow w.heap.size 30 5 sv (n / 8) (l.flatMap mcells)) ∨ (decM (n / 8) xs = none ∧ e = .returned (.tuple #[.slice none 0 0, .bool false]))) ∧ Below w.heap.size w w' := by
  obtain ⟨i0, hi0, hz0, hz1, hz2⟩ := info_parts infoM
  obtain ⟨N, hN⟩ : ∃ N, n = 8 * N := ⟨n / 8, by omega⟩
  have hN8 : n / 8 = N := by omega
  rw [hN8]
  unfold maxLen at hc
  have hm8 : ((n : Int) % 8 != 0) = false := by simp; omega
  have hst : decM N xs = (decM (N - 0) (xs.drop (8 * 0))).map (([] : List MInstD) ++ ·) := by simp
  have Hr := Lib.hid hr
  have Hl := Lib.hid hl
  have Hb := Lib.hid hb
  have HN := Lib.hid hN
  have HN8 := Lib.hid hN8
  have Hst := Lib.hid hst
  clear hst hN8 hN hb hl hr
  clear h8
  go_enter Try.func14, Try.ntmps14
  go_wp2_with fail
  go_loopw [4, 5] (fun s i wq => ∃ k : Nat, k ≤ N ∧ i = .int .i64 (8 * k : Nat) ∧ ∃ l : List MInstD, l.length = k ∧ wq.ownsRow w.heap.size 30 5 s k (l.flatMap mcells) ∧ Below w.heap.size w wq ∧ Hid (decM N xs = (decM (N - k) (xs.drop (8 * k))).map (l ++ ·))) (fun _ i _ => n - (intOf i).toNat)
  case atStart => exact ⟨0, by omega, rfl, [], rfl, World.ownsRow_nil _ _ _ _, Below.refl _ _, Hst.out⟩
  case round =>
    obtain ⟨k, hk, rfl, l, hll, hown, hbw, hdec⟩ := hrel
    have hR := Hr.out.below (hbw.mono hB)
    obtain ⟨T, hT⟩ : ∃ T : Nat, T = 8 * k := ⟨_, rfl⟩
    rw [← hT]
    by_cases hlt : k < N
    · have hTn : T + 8 ≤ n := by have := HN.out; omega
      obtain ⟨ad, hA, hadB, hcell⟩ := hR.2 (by omega)
      subst hA
      obtain ⟨ys, hys⟩ : ∃ ys, ys = xs.drop T := ⟨_, rfl⟩
      have hyl : ys.length = n - T := by rw [hys, List.length_drop, Hl.out]
      have hyb : ∀ x ∈ ys, 0 ≤ x ∧ x < 256 := fun x hx => Hb.out x (by rw [hys] at hx; exact List.mem_of_mem_drop hx)
      rw [← hT] at hdec
      rw [← hys] at hdec
      obtain ⟨x0, x1, x2, x3, x4, x5, x6, x7, zs, hyz⟩ := eight ys (by omega)
      have hc' : ∀ (j : Nat) (x : Int), ys[j]? = some x → wr.cell? (ad.add (T + j)) = some (.int .u8 x) := fun j x hj => hcell (T + j) _ (by
        rw [byteVals, List.getElem?_map, ← List.getElem?_drop, ← hys, hj]; rfl)
      rw [hyz] at hyb hc'
      have c0 := hc' 0 _ rfl
      have c1 := hc' 1 _ rfl
      have c2 := hc' 2 _ rfl
      have c3 := hc' 3 _ rfl
      have c4 := hc' 4 _ rfl
      have c5 := hc' 5 _ rfl
      have c6 := hc' 6 _ rfl
      have c7 := hc' 7 _ rfl
      have d4 : wr.cell? ⟨ad.block, ad.off + (T + 3 + 1), none⟩ = some (.int .u8 x4) := c4
      have d5 : wr.cell? ⟨ad.block, ad.off + (T + 4 + 1), none⟩ = some (.int .u8 x5) := c5
      have d6 : wr.cell? ⟨ad.block, ad.off + (T + 5 + 1), none⟩ = some (.int .u8 x6) := c6
      have d7 : wr.cell? ⟨ad.block, ad.off + (T + 6 + 1), none⟩ = some (.int .u8 x7) := c7
      have d3 : wr.cell? ⟨ad.block, ad.off + (T + 2 + 1), none⟩ = some (.int .u8 x3) := c3
      have d2 : wr.cell? ⟨ad.block, ad.off + (T + 1 + 1), none⟩ = some (.int .u8 x2) := c2
      have d1 : wr.cell? ⟨ad.block, ad.off + (T + 1), none⟩ = some (.int .u8 x1) := c1
      clear c1 c2 c3 c4 c5 c6 c7
      rw [Nat.add_zero] at c0
      have hx : (0 ≤ x0 ∧ x0 < 256) ∧ (0 ≤ x1 ∧ x1 < 256) ∧ (0 ≤ x2 ∧ x2 < 256) ∧ (0 ≤ x3 ∧ x3 < 256) ∧ (0 ≤ x4 ∧ x4 < 256) ∧ (0 ≤ x5 ∧ x5 < 256) ∧ (0 ≤ x6 ∧ x6 < 256) ∧ (0 ≤ x7 ∧ x7 < 256) := by
        refine ⟨?_, ?_, ?_, ?_, ?_, ?_, ?_, ?_⟩ <;> exact hyb _ (by simp)
      obtain ⟨⟨l0, u0⟩, ⟨l1, u1⟩, ⟨l2, u2⟩, ⟨l3, u3⟩, ⟨l4, u4⟩, ⟨l5, u5⟩, ⟨l6, u6⟩, ⟨l7, u7⟩⟩ := hx
      obtain ⟨im, him⟩ : ∃ im, IntKind.i32.wrap (x4 + x5 * 256 + x6 * 65536 + x7 * 16777216) = im := ⟨_, rfl⟩
      have Him := Lib.hid him
      have Hyz := Lib.hid hyz
      have Hyb := Lib.hid hyb
      have Hyl := Lib.hid hyl
      have Hys := Lib.hid hys
      have Hown := Lib.hid hown
      have Hbw := Lib.hid hbw
      have Hdec := Lib.hid hdec
      have HR := Lib.hid hR
      have Hll := Lib.hid hll
      have HT := Lib.hid hT
      have Hc' := Lib.hid hc'
      clear hc' hT hll hR hdec hbw hown hys hyl hyb hyz him
      clear hcell
      go_wp2_with fail
      refine wp_loop_rounds 5 ?_
      rw [rounds_succ]
      go_wp2_with fail
      rw [rounds_succ]
      go_wp2_with fail
      rw [rounds_succ]
      go_wp2_with fail
      rw [rounds_succ]
      go_wp2_with fail
      rw [rounds_succ]
      go_upto_if 35 with (fail)
      have him0 : im ≤ 2147483647 ∧ -2147483648 ≤ im := by have := Him.out; rw [IntKind.wrap_i32] at this; omega
      obtain ⟨him1, him2⟩ := him0
      go_cut [6] from 13 to 37 (fun v wx => v = .int .i64 im ∧ wr = wx)
      case first =>
        by_cases hE : 2147483648 ≤ ((x7 * 256 + x6) * 256 + x5) * 256 + x4
        · have hh : ((x7 * 256 + x6) * 256 + x5) * 256 + x4 - 4294967296 = im := by have := Him.out; rw [IntKind.wrap_i32] at this; omega
          go_wp2_with fail
          go_meet
          exact ⟨rfl, rfl⟩
        · have hh : ((x7 * 256 + x6) * 256 + x5) * 256 + x4 = im := by have := Him.out; rw [IntKind.wrap_i32] at this; omega
          have Hh := Lib.hid hh
          clear hh
          go_wp2_with fail
          go_meet
          exact ⟨by rw [Hh.out], rfl⟩
      case rest =>
        obtain ⟨hv1, hw1⟩ := hcut
        subst hv1 hw1
        have hadw : ad.block < wr.heap.size := by have := Hbw.out.size; omega
        obtain ⟨T1, hT1⟩ : ∃ T1, T1 = T + 1 := ⟨_, rfl⟩
        obtain ⟨T2, hT2⟩ : ∃ T2, T2 = T + 2 := ⟨_, rfl⟩
        obtain ⟨T3, hT3⟩ : ∃ T3, T3 = T + 3 := ⟨_, rfl⟩
        have k1 : wr.cell? (ad.add T1) = some (.int .u8 x1) := by rw [hT1]; exact d1
        have k2 : wr.cell? (ad.add T2) = some (.int .u8 x2) := by rw [hT2]; exact d2
        have k3 : wr.cell? (ad.add T3) = some (.int .u8 x3) := by rw [hT3]; exact d3
        have p1 : IntKind.i64.wrap ((T : Int) + 1) = T1 := by rw [IntKind.wrap_i64]; omega
        have p2 : IntKind.i64.wrap ((T : Int) + 2) = T2 := by rw [IntKind.wrap_i64]; omega
        have p3 : IntKind.i64.wrap ((T : Int) + 3) = T3 := by rw [IntKind.wrap_i64]; omega
        have p4 : T < n ∧ T1 < n ∧ T2 < n ∧ T3 < n := by omega
        have p5 : (T : Int) < n ∧ (T1 : Int) < n ∧ (T2 : Int) < n ∧ (T3 : Int) < n := by omega
        have p6 : IntKind.i64.wrap x1 = x1 ∧ IntKind.i64.wrap x2 = x2 ∧ IntKind.i64.wrap x3 = x3 ∧ IntKind.i32.wrap im = im := by refine ⟨?_, ?_, ?_, ?_⟩ <;> first | (rw [IntKind.wrap_i64]; omega) | (rw [IntKind.wrap_i32]; omega)
        have HT1 := Lib.hid hT1
        have HT2 := Lib.hid hT2
        have HT3 := Lib.hid hT3
        clear hT3 hT2 hT1
        clear d1 d2 d3
        go_upto_region 14 with fail
        refine wp_region_noPanic ?_
        refine wp_region_held_drew (S := fun W => W.cell? (ad.add T) = some (.int .u8 x0) ∧ W.cell? (ad.add T1) = some (.int .u8 x1) ∧ W.cell? (ad.add T2) = some (.int .u8 x2) ∧ W.cell? (ad.add T3) = some (.int .u8 x3)) (by kernel_rfl) ⟨c0, k1, k2, k3⟩ (fun hHeld => ?_)
        refine wpAnyH_take (i := 0) (v := ?_) rfl (by kernel_rfl) (by kernel_rfl) (by kernel_rfl) (fun _ _ _ h => h) (Or.inl ⟨by rfl, ?_⟩) (by assumption) ?_
        rotate_left
        · intro w hSw; (try dsimp only at hSw); go_simp; try with_reducible rfl
        simp only [Act.put, List.getElem_toArray, List.getElem_cons_zero, List.getElem_cons_succ, List.setIfInBounds_toArray, List.set_cons_zero, List.set_cons_succ]
        refine wpAnyH_take (i := 1) (v := ?_) rfl (by kernel_rfl) (by kernel_rfl) (by kernel_rfl) (fun _ _ _ h => h) (Or.inl ⟨by rfl, ?_⟩) (by assumption) ?_
        rotate_left
        · intro w hSw; (try dsimp only at hSw); go_simp; try with_reducible rfl
        simp only [Act.put, List.getElem_toArray, List.getElem_cons_zero, List.getElem_cons_succ, List.setIfInBounds_toArray, List.set_cons_zero, List.set_cons_succ]
        refine wpAnyH_take (i := 2) (v := ?_) rfl (by kernel_rfl) (by kernel_rfl) (by kernel_rfl) (fun _ _ _ h => h) (Or.inl ⟨by rfl, ?_⟩) (by assumption) ?_
        rotate_left
        · intro w hSw; (try dsimp only at hSw); go_simp; try with_reducible rfl
        simp only [Act.put, List.getElem_toArray, List.getElem_cons_zero, List.getElem_cons_succ, List.setIfInBounds_toArray, List.set_cons_zero, List.set_cons_succ]
        refine wpAnyH_take (i := 3) (v := ?_) rfl (by kernel_rfl) (by kernel_rfl) (by kernel_rfl) (fun _ _ _ h => h) (Or.inl ⟨by rfl, ?_⟩) (by assumption) ?_
        rotate_left
        · intro w hSw; (try dsimp only at hSw); go_simp; try with_reducible rfl
        simp only [Act.put, List.getElem_toArray, List.getElem_cons_zero, List.getElem_cons_succ, List.setIfInBounds_toArray, List.set_cons_zero, List.set_cons_succ]
        refine wpAnyH_take (i := 4) (v := ?_) rfl (by kernel_rfl) (by kernel_rfl) (by kernel_rfl) (fun _ _ _ h => h) (Or.inl ⟨by rfl, ?_⟩) (by assumption) ?_
        rotate_left
        · intro w hSw; (try dsimp only at hSw); go_simp; try with_reducible rfl
        simp only [Act.put, List.getElem_toArray, List.getElem_cons_zero, List.getElem_cons_succ, List.setIfInBounds_toArray, List.set_cons_zero, List.set_cons_succ]
        refine wpAnyH_take (i := 5) (v := ?_) rfl (by kernel_rfl) (by kernel_rfl) (by kernel_rfl) (fun _ _ _ h => h) (Or.inl ⟨by rfl, ?_⟩) (by assumption) ?_
        rotate_left
        · intro w hSw; (try dsimp only at hSw); go_simp; try with_reducible rfl
        simp only [Act.put, List.getElem_toArray, List.getElem_cons_zero, List.getElem_cons_succ, List.setIfInBounds_toArray, List.set_cons_zero, List.set_cons_succ]
        refine wpAnyH_take (i := 6) (v := ?_) rfl (by kernel_rfl) (by kernel_rfl) (by kernel_rfl) (fun _ _ _ h => h) (Or.inl ⟨by rfl, ?_⟩) (by assumption) ?_
        rotate_left
        · intro w hSw; (try dsimp only at hSw); go_simp; try with_reducible rfl
        simp only [Act.put, List.getElem_toArray, List.getElem_cons_zero, List.getElem_cons_succ, List.setIfInBounds_toArray, List.set_cons_zero, List.set_cons_succ]
        refine wpAnyH_take (i := 7) (v := ?_) rfl (by kernel_rfl) (by kernel_rfl) (by kernel_rfl) (fun _ _ _ h => h) (Or.inl ⟨by rfl, ?_⟩) (by assumption) ?_
        rotate_left
        · intro w hSw; (try dsimp only at hSw); go_simp; try with_reducible rfl
        simp only [Act.put, List.getElem_toArray, List.getElem_cons_zero, List.getElem_cons_succ, List.setIfInBounds_toArray, List.set_cons_zero, List.set_cons_succ]
        refine wpAnyH_take (i := 8) (v := ?_) rfl (by kernel_rfl) (by kernel_rfl) (by kernel_rfl) (fun _ _ _ h => h) (Or.inl ⟨by rfl, ?_⟩) (by assumption) ?_
        rotate_left
        · intro w hSw; (try dsimp only at hSw); go_simp; try with_reducible rfl
        simp only [Act.put, List.getElem_toArray, List.getElem_cons_zero, List.getElem_cons_succ, List.setIfInBounds_toArray, List.set_cons_zero, List.set_cons_succ]
        refine wpAnyH_take (i := 9) (v := ?_) rfl (by kernel_rfl) (by kernel_rfl) (by kernel_rfl) (fun _ _ _ h => h) (Or.inl ⟨by rfl, ?_⟩) (by assumption) ?_
        rotate_left
        · intro w hSw; (try dsimp only at hSw); go_simp; try with_reducible rfl
        simp only [Act.put, List.getElem_toArray, List.getElem_cons_zero, List.getElem_cons_succ, List.setIfInBounds_toArray, List.set_cons_zero, List.set_cons_succ]
        refine wpAnyH_take (i := 10) (v := ?_) rfl (by kernel_rfl) (by kernel_rfl) (by kernel_rfl) (fun _ _ _ h => h) (Or.inl ⟨by rfl, ?_⟩) (by assumption) ?_
        rotate_left
        · intro w hSw; (try dsimp only at hSw); go_simp; try with_reducible rfl
        simp only [Act.put, List.getElem_toArray, List.getElem_cons_zero, List.getElem_cons_succ, List.setIfInBounds_toArray, List.set_cons_zero, List.set_cons_succ]
        refine wpAnyH_take (i := 11) (v := ?_) rfl (by kernel_rfl) (by kernel_rfl) (by kernel_rfl) (fun _ _ _ h => h) (Or.inl ⟨by rfl, ?_⟩) (by assumption) ?_
        rotate_left
        · intro w hSw; (try dsimp only at hSw); go_simp; try with_reducible rfl
        simp only [Act.put, List.getElem_toArray, List.getElem_cons_zero, List.getElem_cons_succ, List.setIfInBounds_toArray, List.set_cons_zero, List.set_cons_succ]
        refine wpAnyH_take (i := 12) (v := ?_) rfl (by kernel_rfl) (by kernel_rfl) (by kernel_rfl) (fun _ _ _ h => h) (Or.inl ⟨by rfl, ?_⟩) (by assumption) ?_
        rotate_left
        · intro w hSw; (try dsimp only at hSw); go_simp; try with_reducible rfl
        simp only [Act.put, List.getElem_toArray, List.getElem_cons_zero, List.getElem_cons_succ, List.setIfInBounds_toArray, List.set_cons_zero, List.set_cons_succ]
        refine wpAnyH_take (i := 13) (v := ?_) rfl (by kernel_rfl) (by kernel_rfl) (by kernel_rfl) (fun _ _ _ h => h) (Or.inl ⟨by rfl, ?_⟩) (by assumption) ?_
        rotate_left
        · intro w hSw; (try dsimp only at hSw); go_simp; try with_reducible rfl
        simp only [Act.put, List.getElem_toArray, List.getElem_cons_zero, List.getElem_cons_succ, List.setIfInBounds_toArray, List.set_cons_zero, List.set_cons_succ]
        refine wpAnyH_take (i := 14) (v := ?_) rfl (by kernel_rfl) (by kernel_rfl) (by kernel_rfl) (fun _ _ _ h => h) (Or.inl ⟨by rfl, ?_⟩) (by assumption) ?_
        rotate_left
        · intro w hSw; (try dsimp only at hSw); go_simp; try with_reducible rfl
        simp only [Act.put, List.getElem_toArray, List.getElem_cons_zero, List.getElem_cons_succ, List.setIfInBounds_toArray, List.set_cons_zero, List.set_cons_succ]
        refine wpAnyH_take (i := 15) (v := ?_) rfl (by kernel_rfl) (by kernel_rfl) (by kernel_rfl) (fun _ _ _ h => h) (Or.inl ⟨by rfl, ?_⟩) (by assumption) ?_
        rotate_left
        · intro w hSw; (try dsimp only at hSw); go_simp; try with_reducible rfl
        simp only [Act.put, List.getElem_toArray, List.getElem_cons_zero, List.getElem_cons_succ, List.setIfInBounds_toArray, List.set_cons_zero, List.set_cons_succ]
        refine wpAnyH_take (i := 16) (v := ?_) rfl (by kernel_rfl) (by kernel_rfl) (by kernel_rfl) (fun _ _ _ h => h) (Or.inl ⟨by rfl, ?_⟩) (by assumption) ?_
        rotate_left
        · intro w hSw; (try dsimp only at hSw); go_simp; try with_reducible rfl
        simp only [Act.put, List.getElem_toArray, List.getElem_cons_zero, List.getElem_cons_succ, List.setIfInBounds_toArray, List.set_cons_zero, List.set_cons_succ]
        refine wpAnyH_take (i := 17) (v := ?_) rfl (by kernel_rfl) (by kernel_rfl) (by kernel_rfl) (fun _ _ _ h => h) (Or.inl ⟨by rfl, ?_⟩) (by assumption) ?_
        rotate_left
        · intro w hSw; (try dsimp only at hSw); go_simp; try with_reducible rfl
        simp only [Act.put, List.getElem_toArray, List.getElem_cons_zero, List.getElem_cons_succ, List.setIfInBounds_toArray, List.set_cons_zero, List.set_cons_succ]
        refine wpAnyH_take (i := 18) (v := ?_) rfl (by kernel_rfl) (by kernel_rfl) (by kernel_rfl) (fun _ _ _ h => h) (Or.inl ⟨by rfl, ?_⟩) (by assumption) ?_
        rotate_left
        · intro w hSw; (try dsimp only at hSw); go_simp; try with_reducible rfl
        simp only [Act.put, List.getElem_toArray, List.getElem_cons_zero, List.getElem_cons_succ, List.setIfInBounds_toArray, List.set_cons_zero, List.set_cons_succ]
        refine wpAnyH_take (i := 19) (v := ?_) rfl (by kernel_rfl) (by kernel_rfl) (by kernel_rfl) (fun _ _ _ h => h) (Or.inl ⟨by rfl, ?_⟩) (by assumption) ?_
        rotate_left
        · intro w hSw; (try dsimp only at hSw); go_simp; try with_reducible rfl
        simp only [Act.put, List.getElem_toArray, List.getElem_cons_zero, List.getElem_cons_succ, List.setIfInBounds_toArray, List.set_cons_zero, List.set_cons_succ]
        refine wpAnyH_take (i := 20) (v := ?_) rfl (by kernel_rfl) (by kernel_rfl) (by kernel_rfl) (fun _ _ _ h => h) (Or.inl ⟨by rfl, ?_⟩) (by assumption) ?_
        rotate_left
        · intro w hSw; (try dsimp only at hSw); go_simp; try with_reducible rfl
        simp only [Act.put, List.getElem_toArray, List.getElem_cons_zero, List.getElem_cons_succ, List.setIfInBounds_toArray, List.set_cons_zero, List.set_cons_succ]
        refine wpAnyH_take (i := 21) (v := ?_) rfl (by kernel_rfl) (by kernel_rfl) (by kernel_rfl) (fun _ _ _ h => h) (Or.inl ⟨by rfl, ?_⟩) (by assumption) ?_
        rotate_left
        · intro w hSw; (try dsimp only at hSw); go_simp; try with_reducible rfl
        simp only [Act.put, List.getElem_toArray, List.getElem_cons_zero, List.getElem_cons_succ, List.setIfInBounds_toArray, List.set_cons_zero, List.set_cons_succ]
        refine wpAnyH_take (i := 22) (v := ?_) rfl (by kernel_rfl) (by kernel_rfl) (by kernel_rfl) (fun _ _ _ h => h) (Or.inl ⟨by rfl, ?_⟩) (by assumption) ?_
        rotate_left
        · intro w hSw; (try dsimp only at hSw); go_simp; try with_reducible rfl
        simp only [Act.put, List.getElem_toArray, List.getElem_cons_zero, List.getElem_cons_succ, List.setIfInBounds_toArray, List.set_cons_zero, List.set_cons_succ]
        refine wpAnyH_take (i := 23) (v := ?_) rfl (by kernel_rfl) (by kernel_rfl) (by kernel_rfl) (fun _ _ _ h => h) (Or.inl ⟨by rfl, ?_⟩) (by assumption) ?_
        rotate_left
        · intro w hSw; (try dsimp only at hSw); go_simp; try with_reducible rfl
        simp only [Act.put, List.getElem_toArray, List.getElem_cons_zero, List.getElem_cons_succ, List.setIfInBounds_toArray, List.set_cons_zero, List.set_cons_succ]
        refine wpAnyH_take (i := 24) (v := ?_) rfl (by kernel_rfl) (by kernel_rfl) (by kernel_rfl) (fun _ _ _ h => h) (Or.inl ⟨by rfl, ?_⟩) (by assumption) ?_
        rotate_left
        · intro w hSw; (try dsimp only at hSw); go_simp; try with_reducible rfl
        simp only [Act.put, List.getElem_toArray, List.getElem_cons_zero, List.getElem_cons_succ, List.setIfInBounds_toArray, List.set_cons_zero, List.set_cons_succ]
        refine wpAnyH_ready (rs := [25]) (by kernel_rfl) (by simp) ?_
        refine AllReadyH.cons rfl (fun K hK => ?_) AllReadyH.nil
        go_simp
        refine hK.out _ _ ⟨(World.cell?_alloc_lt wr _ (ad.add T) (by rw [block_of_add]; exact hadw)).trans c0, (World.cell?_alloc_lt wr _ (ad.add T1) (by rw [block_of_add]; exact hadw)).trans k1, (World.cell?_alloc_lt wr _ (ad.add T2) (by rw [block_of_add]; exact hadw)).trans k2, (World.cell?_alloc_lt wr _ (ad.add T3) (by rw [block_of_add]; exact hadw)).trans k3⟩ (fun hHeld2 => ?_)
        refine wpAnyH_ready (rs := [26]) (by kernel_rfl) (by simp) ?_
        refine AllReadyH.cons rfl (fun K hK => ?_) AllReadyH.nil
        go_simp
        refine hK.out _ _ ⟨(World.cell?_alloc_lt wr _ (ad.add T) (by rw [block_of_add]; exact hadw)).trans c0, (World.cell?_alloc_lt wr _ (ad.add T1) (by rw [block_of_add]; exact hadw)).trans k1, (World.cell?_alloc_lt wr _ (ad.add T2) (by rw [block_of_add]; exact hadw)).trans k2, (World.cell?_alloc_lt wr _ (ad.add T3) (by rw [block_of_add]; exact hadw)).trans k3⟩ (fun hHeld3 => ?_)
        clear hK K hHeld hHeld2 hHeld3
        refine wpAnyH_done (by kernel_rfl) ?_ _
        refine NoPanic.normal ?_
        clear c0 k1 k2 k3 d4 d5 d6 d7 p1 p2 p3 p6
        have hwf : (⟨x0, x1, x2, x3, im⟩ : MInstD).Wf := by
          refine ⟨?_, ?_, ?_, ?_, ?_⟩ <;> simp only <;> omega
        have hmo : mOf (xs.drop (8 * k) |>.take 8) = ⟨x0, x1, x2, x3, im⟩ := by
          rw [← HT.out, ← Hys.out, Hyz.out, ← Him.out]
          simp [mOf, leV]
          congr 1
          omega
        have hdr : (xs.drop (8 * k)).drop 8 = xs.drop (8 * (k + 1)) := by rw [List.drop_drop]; rfl
        have hstep : decM (N - k) (xs.drop (8 * k)) = if goodP ⟨x0, x1, x2, x3, im⟩ then (decM (N - (k + 1)) (xs.drop (8 * (k + 1)))).map ((⟨x0, x1, x2, x3, im⟩ : MInstD) :: ·) else none := by
          rw [show N - k = (N - (k + 1)) + 1 by omega, decM, hmo, hdr]
        have hsz := Hbw.out.size
        have hP := (Blk.new wr 30 #[.int .u8 x0, .int .i64 x1, .int .i64 x2, .int .i64 x3, .int .i32 im]).drew
        have hbw6 := (Hbw.out.alloc hsz (.cells #[.int .u8 x0, .int .i64 x1, .int .i64 x2, .int .i64 x3, .int .i32 im] 30)).drew
        have hO6 := own_kept' (Hown.out.alloc (.cells #[.int .u8 x0, .int .i64 x1, .int .i64 x2, .int .i64 x3, .int .i32 im] 30)) (only_drew (World.grownBy.refl _ none)) nofun
        obtain ⟨F, hF⟩ : ∃ F, F = wr.heap.size := ⟨_, rfl⟩
        rw [← hF] at hP ⊢
        have hw6s : (wr.alloc (.cells #[.int .u8 x0, .int .i64 x1, .int .i64 x2, .int .i64 x3, .int .i32 im] 30)).drew.heap.size = F + 1 := by rw [hF]; simp
        have hB6 : Below wr.heap.size wr (wr.alloc (.cells #[.int .u8 x0, .int .i64 x1, .int .i64 x2, .int .i64 x3, .int .i32 im] 30)).drew := ((Below.refl _ wr).alloc (Nat.le_refl _) _).drew
        obtain ⟨w6, hw6⟩ : ∃ w6, w6 = (wr.alloc (.cells #[.int .u8 x0, .int .i64 x1, .int .i64 x2, .int .i64 x3, .int .i32 im] 30)).drew := ⟨_, rfl⟩
        rw [← hw6] at hP hbw6 hO6 hw6s hB6 ⊢
        have kp0 := Blk.cell hP 0
        have kp1 := Blk.cell hP 1
        have kp2 := Blk.cell hP 2
        have kp3 := Blk.cell hP 3
        have kp4 := Blk.cell hP 4
        simp only [List.getElem?_toArray, List.getElem?_cons_zero, List.getElem?_cons_succ] at kp0 kp1 kp2 kp3 kp4
        have HF := Lib.hid hF
        have Hw6 := Lib.hid hw6
        have HB6 := Lib.hid hB6
        have HP := Lib.hid hP
        have HO6 := Lib.hid hO6
        have Hbw6 := Lib.hid hbw6
        have Hwf := Lib.hid hwf
        have Hmo := Lib.hid hmo
        have Hdr := Lib.hid hdr
        have Hstep := Lib.hid hstep
        have Hw6s := Lib.hid hw6s
        clear hw6s hstep hdr hmo hwf hbw6 hO6 hP hB6 hw6 hF
        go_wp2_with fail
        refine (is_any ⟨x0, x1, x2, x3, im⟩ Hwf.out _).mono ?_
        rintro e w7 ⟨rfl, hb7⟩
        have hP7 := HP.out.below hb7 (by rw [Hw6s.out]; omega)
        have hO7 := own_kept' HO6.out (only_of_below hb7 none) nofun
        have hb7' := Hbw6.out.trans (hb7.mono (by rw [Hw6s.out, HF.out]; omega))
        have kq0 := Blk.cell hP7 0
        have kq1 := Blk.cell hP7 1
        have kq2 := Blk.cell hP7 2
        have kq3 := Blk.cell hP7 3
        have kq4 := Blk.cell hP7 4
        simp only [List.getElem?_toArray, List.getElem?_cons_zero, List.getElem?_cons_succ] at kq0 kq1 kq2 kq3 kq4
        clear kp0 kp1 kp2 kp3 kp4
        have hs7 := hb7'.size
        rcases hg : goodP ⟨x0, x1, x2, x3, im⟩ with _ | _
        · have hno : decM N xs = none := by rw [Hdec.out, Hys.out, HT.out, Hstep.out, hg]; rfl
          have Hno := Lib.hid hno
          have Hb7' := Lib.hid hb7'
          have HP7 := Lib.hid hP7
          have HO7 := Lib.hid hO7
          have Hg := Lib.hid hg
          clear hg hO7 hP7 hb7' hno
          clear hb7
          go_wp2_with fail
          go_ret2
          exact ⟨.inr ⟨Hno.out, rfl⟩, Hb7'.out⟩
        · have hnx : decM N xs = (decM (N - (k + 1)) (xs.drop (8 * (k + 1)))).map ((l ++ [(⟨x0, x1, x2, x3, im⟩ : MInstD)]) ++ ·) := by
            rw [Hdec.out, Hys.out, HT.out, Hstep.out, hg]
            simp only [if_true, Option.map_map]
            congr 1
            funext z
            simp
          have hnk : (k + 1) * 40 ≤ 140737488355328 := by have := HN.out; omega
          have Hnx := Lib.hid hnx
          have Hb7' := Lib.hid hb7'
          have HP7 := Lib.hid hP7
          have HO7 := Lib.hid hO7
          have Hg := Lib.hid hg
          clear hg hO7 hP7 hb7' hnx
          clear hb7
          go_wp2_with (first
            | (at_builtin
               refine wpList_append_any _ rfl (.tmp 66) (.tmp 68) _ rfl w.heap.size 30 i0 _ 5 40 Try.underlying22 hi0 hz0 hz1 hz2 rfl (by omega) _ k _ rfl (HO7.out.alloc _) (w7.heap.size + 1) (some ⟨w7.heap.size, 0, none⟩) 1 1 (mcells ⟨x0, x1, x2, x3, im⟩) rfl ?c0 ?c1 ?c2 ?c3 ?c4 ?_
               case c0 => exact Reads.newS _ rfl _ _ _ _ _ rfl rfl
               case c1 => intro u hu; simp only [mcells, List.mem_cons, List.not_mem_nil, or_false] at hu; rcases hu with rfl | rfl | rfl | rfl | rfl <;> rfl
               case c2 => simp only [maxLen]; omega
               case c3 => omega
               case c4 => simp; omega
               intro v9 w9 hown9 hg9 hat9))
          have hb9 := (Hb7'.out.alloc hs7 (.cells #[.int .u8 x0, .int .i64 x1, .int .i64 x2, .int .i64 x3, .int .i32 im] 30)).grown hg9 (by simp; omega) (fun g e => (HO7.out.lt g e).1)
          refine ⟨⟨k + 1, by omega, by have h8k := HT.out; congr 1; omega, l ++ [⟨x0, x1, x2, x3, im⟩], by simp [Hll.out], by rw [List.flatMap_append]; simpa using hown9, hb9, Lib.hid Hnx.out⟩, by have := HT.out; simp only [intOf]; omega⟩
    · have hkN : k = N := by omega
      have hTn : ¬ (T : Int) < n := by have := HN.out; omega
      have hfin : decM N xs = some l := by rw [hdec.out, hkN, Nat.sub_self]; simp [decM]
      have hown' : wr.ownsRow w.heap.size 30 5 _ N (l.flatMap mcells) := hkN ▸ hown
      have Hfin := Lib.hid hfin
      have Hown' := Lib.hid hown'
      have Hbw := Lib.hid hbw
      have HR := Lib.hid hR
      have Hdec := Lib.hid hdec
      have Hown := Lib.hid hown
      have HT := Lib.hid hT
      clear hT hown hdec hR hbw hown' hfin
      go_wp2_with fail
      go_ret2
      exact ⟨.inl ⟨l, Hfin.out, _, rfl, Hown'.out⟩, Hbw.out⟩
end Go.Proofs.Ytnnlhhokljjghaa
