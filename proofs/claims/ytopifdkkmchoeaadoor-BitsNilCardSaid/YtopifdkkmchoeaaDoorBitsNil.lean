/- The walk of the law BitsNil: a nil set has nothing and changes nothing; no set has a number beyond its bounds. Condition: the table of package math/bits is laid. -/
import Derived.Test.YtopifdkkmchoeaaDoorBitTop
set_option linter.unusedVariables false
set_option linter.unusedSimpArgs false
namespace Go.Proofs.YtopifdkkmchoeaaDoor
open Go.RowKit

theorem zeros_all (L : Nat) : ∀ x ∈ zeros L, x = 0 := fun x hx => (List.mem_replicate.1 hx).2
set_option maxRecDepth 100000 in
set_option maxHeartbeats 1000000 in
theorem bits_in (n0 i N : Int) (w : World) (hN : Hid (n0.tmod 5000 = N)) (hN1 : N ≤ 5000) (h0 : 0 ≤ i) (h1 : i < N) (ht : Tab w) :
    Calls Tryd.prog 3 #[.int .i64 n0, .int .i64 i] w fun e w' => e = .returned (.bool true) ∧ Below w.heap.size w w' := by
  have HT := Lib.hid ht
  clear ht
  have hd1 : decide (0 ≤ i) = true := by simpa using h0
  have hd2 : decide (i < n0.tmod 5000) = true := by rw [hN.out]; simpa using h1
  go_enter Tryd.func3, Tryd.ntmps3
  go_wp2_with fail
  refine (first_true _).mono ?_
  rintro e w1 ⟨rfl, hbw1⟩
  go_wp2_with fail
  rw [hN.out]
  refine (new_any N N w1 (by omega)).mono ?_
  rintro e w2 ⟨rfl, hs, hbw2⟩
  have hL : ∃ L, ((N + 63) / 64).toNat = L := ⟨_, rfl⟩
  obtain ⟨L, hL⟩ := hL
  rw [hL] at hs
  clear hL
  go_wp2_with fail
  refine (add_zero _ _ N i L w2 hs h0 h1).mono ?_
  rintro e w3 ⟨rfl, hs3, hw3⟩
  have hb3 : Below w.heap.size w w3 := by rw [hw3]; exact (hbw1.trans (hbw2.mono hbw1.size)).setCell hbw1.size _
  have hpow : ∀ x ∈ (zeros L).set (i.toNat / 64) (bitOn 0 (i.toNat % 64)), x = 0 ∨ Pow x := fun x hx => by
    rcases List.mem_or_eq_of_mem_set hx with h | h
    · exact .inl (zeros_all _ x h)
    · exact .inr (by rw [h]; exact (bitOn_pow _ (Nat.mod_lt _ (by omega))).1)
  have HP := Lib.hid hpow
  have hp1 := (had_one _ _ N i L w3 hs3 h0 h1).1
  have HH := hide hp1
  have hc0 := hs3.cells.1
  clear hw3 hs hpow hp1
  have hg : w1.heap.size + 1 < w3.heap.size := hs3.top.lt
  have hh : w1.heap.size < w3.heap.size := hs3.words.lt
  go_wp2_with fail
  refine (unhide HH).mono ?_
  rintro e w' ⟨rfl, rfl⟩
  go_wp2_with fail
  refine (add_nil i _).mono ?_
  rintro e w' ⟨rfl, rfl⟩
  go_wp2_with fail
  refine (del_nil i _).mono ?_
  rintro e w' ⟨rfl, rfl⟩
  go_wp2_with fail
  refine (has_nil i _).mono ?_
  rintro e w' ⟨rfl, rfl⟩
  go_wp2_with fail
  refine (len_nil _).mono ?_
  rintro e w' ⟨rfl, rfl⟩
  go_wp2_with fail
  refine (list_nil _).mono ?_
  rintro e w' ⟨rfl, rfl⟩
  go_wp2_with fail
  refine (copy_nil _).mono ?_
  rintro e w' ⟨rfl, rfl⟩
  go_wp2_with fail
  refine (or_of_nil _ _ _ _ w3 hs3 HP.out (HT.out.below hb3)).mono ?_
  rintro e w4 ⟨rfl, hb4⟩
  have hb4' : Below w.heap.size w w4 := hb3.trans (hb4.mono hb3.size)
  go_wp2_with fail
  refine (or_with_nil _ w4).mono ?_
  rintro e w' ⟨rfl, rfl⟩
  go_wp2_with fail
  refine (minus_with_nil _ w4).mono ?_
  rintro e w' ⟨rfl, rfl⟩
  go_wp2_with fail
  refine (new_any 3 3 w4 (by omega)).mono ?_
  rintro e w5 ⟨rfl, hs5, hb5⟩
  have hb5' : Below w.heap.size w w5 := hb4'.trans (hb5.mono hb4'.size)
  go_wp2_with fail
  refine (same_nil _ _ 3 _ w5 hs5 (zeros_all _) (HT.out.below hb5')).mono ?_
  rintro e w6 ⟨rfl, hb6⟩
  go_wp2_with fail
  go_ret
  exact ⟨rfl, hb5'.trans (hb6.mono hb5'.size)⟩
set_option maxRecDepth 100000 in
set_option maxHeartbeats 1000000 in
theorem bits_neg (n0 i N : Int) (w : World) (hN : Hid (n0.tmod 5000 = N)) (hN1 : N ≤ 5000) (h0 : i < 0) (ht : Tab w) :
    Calls Tryd.prog 3 #[.int .i64 n0, .int .i64 i] w fun e w' => e = .returned (.bool true) ∧ Below w.heap.size w w' := by
  have HT := Lib.hid ht
  clear ht
  have hd1 : decide (0 ≤ i) = false := by simpa using h0
  go_enter Tryd.func3, Tryd.ntmps3
  go_wp2_with fail
  refine (first_true _).mono ?_
  rintro e w1 ⟨rfl, hbw1⟩
  go_wp2_with fail
  rw [hN.out]
  refine (new_any N (max N 0) w1 (by omega)).mono ?_
  rintro e w2 ⟨rfl, hs, hbw2⟩
  have hL : ∃ L, ((max N 0 + 63) / 64).toNat = L := ⟨_, rfl⟩
  obtain ⟨L, hL⟩ := hL
  rw [hL] at hs
  clear hL
  have hcx := hs.cells.1
  go_wp2_with fail
  refine (add_out _ (max N 0) i w2 (by omega) hcx).mono ?_
  rintro e w' ⟨rfl, rfl⟩
  obtain ⟨w3, rfl⟩ : ∃ w3 : World, w3 = w2 := ⟨_, rfl⟩
  have hb3 : Below w.heap.size w w3 := hbw1.trans (hbw2.mono hbw1.size)
  have hpow : ∀ x ∈ zeros L, x = 0 ∨ Pow x := fun x hx => .inl (zeros_all _ x hx)
  have HP := Lib.hid hpow
  have hs3 := hs
  have hg : w1.heap.size + 1 < w3.heap.size := hs3.top.lt
  have hh : w1.heap.size < w3.heap.size := hs3.words.lt
  clear hpow
  go_wp2_with fail
  refine (has_out _ (max N 0) i w3 (by omega) hcx).mono ?_
  rintro e w' ⟨rfl, rfl⟩
  go_wp2_with fail
  refine (add_nil i _).mono ?_
  rintro e w' ⟨rfl, rfl⟩
  go_wp2_with fail
  refine (del_nil i _).mono ?_
  rintro e w' ⟨rfl, rfl⟩
  go_wp2_with fail
  refine (has_nil i _).mono ?_
  rintro e w' ⟨rfl, rfl⟩
  go_wp2_with fail
  refine (len_nil _).mono ?_
  rintro e w' ⟨rfl, rfl⟩
  go_wp2_with fail
  refine (list_nil _).mono ?_
  rintro e w' ⟨rfl, rfl⟩
  go_wp2_with fail
  refine (copy_nil _).mono ?_
  rintro e w' ⟨rfl, rfl⟩
  go_wp2_with fail
  refine (or_of_nil _ _ _ _ w3 hs3 HP.out (HT.out.below hb3)).mono ?_
  rintro e w4 ⟨rfl, hb4⟩
  have hb4' : Below w.heap.size w w4 := hb3.trans (hb4.mono hb3.size)
  go_wp2_with fail
  refine (or_with_nil _ w4).mono ?_
  rintro e w' ⟨rfl, rfl⟩
  go_wp2_with fail
  refine (minus_with_nil _ w4).mono ?_
  rintro e w' ⟨rfl, rfl⟩
  go_wp2_with fail
  refine (new_any 3 3 w4 (by omega)).mono ?_
  rintro e w5 ⟨rfl, hs5, hb5⟩
  have hb5' : Below w.heap.size w w5 := hb4'.trans (hb5.mono hb4'.size)
  go_wp2_with fail
  refine (same_nil _ _ 3 _ w5 hs5 (zeros_all _) (HT.out.below hb5')).mono ?_
  rintro e w6 ⟨rfl, hb6⟩
  go_wp2_with fail
  go_ret
  exact ⟨rfl, hb5'.trans (hb6.mono hb5'.size)⟩
set_option maxRecDepth 100000 in
set_option maxHeartbeats 1000000 in
theorem bits_far (n0 i N : Int) (w : World) (hN : Hid (n0.tmod 5000 = N)) (hN1 : N ≤ 5000) (h0 : 0 ≤ i) (h1 : N ≤ i) (ht : Tab w) :
    Calls Tryd.prog 3 #[.int .i64 n0, .int .i64 i] w fun e w' => e = .returned (.bool true) ∧ Below w.heap.size w w' := by
  have HT := Lib.hid ht
  clear ht
  have hd1 : decide (0 ≤ i) = true := by simpa using h0
  have hd2 : decide (i < n0.tmod 5000) = false := by rw [hN.out]; simpa using h1
  go_enter Tryd.func3, Tryd.ntmps3
  go_wp2_with fail
  refine (first_true _).mono ?_
  rintro e w1 ⟨rfl, hbw1⟩
  go_wp2_with fail
  rw [hN.out]
  refine (new_any N (max N 0) w1 (by omega)).mono ?_
  rintro e w2 ⟨rfl, hs, hbw2⟩
  have hL : ∃ L, ((max N 0 + 63) / 64).toNat = L := ⟨_, rfl⟩
  obtain ⟨L, hL⟩ := hL
  rw [hL] at hs
  clear hL
  have hcx := hs.cells.1
  go_wp2_with fail
  refine (add_out _ (max N 0) i w2 (by omega) hcx).mono ?_
  rintro e w' ⟨rfl, rfl⟩
  obtain ⟨w3, rfl⟩ : ∃ w3 : World, w3 = w2 := ⟨_, rfl⟩
  have hb3 : Below w.heap.size w w3 := hbw1.trans (hbw2.mono hbw1.size)
  have hpow : ∀ x ∈ zeros L, x = 0 ∨ Pow x := fun x hx => .inl (zeros_all _ x hx)
  have HP := Lib.hid hpow
  have hs3 := hs
  have hg : w1.heap.size + 1 < w3.heap.size := hs3.top.lt
  have hh : w1.heap.size < w3.heap.size := hs3.words.lt
  clear hpow
  go_wp2_with fail
  refine (has_out _ (max N 0) i w3 (by omega) hcx).mono ?_
  rintro e w' ⟨rfl, rfl⟩
  go_wp2_with fail
  refine (add_nil i _).mono ?_
  rintro e w' ⟨rfl, rfl⟩
  go_wp2_with fail
  refine (del_nil i _).mono ?_
  rintro e w' ⟨rfl, rfl⟩
  go_wp2_with fail
  refine (has_nil i _).mono ?_
  rintro e w' ⟨rfl, rfl⟩
  go_wp2_with fail
  refine (len_nil _).mono ?_
  rintro e w' ⟨rfl, rfl⟩
  go_wp2_with fail
  refine (list_nil _).mono ?_
  rintro e w' ⟨rfl, rfl⟩
  go_wp2_with fail
  refine (copy_nil _).mono ?_
  rintro e w' ⟨rfl, rfl⟩
  go_wp2_with fail
  refine (or_of_nil _ _ _ _ w3 hs3 HP.out (HT.out.below hb3)).mono ?_
  rintro e w4 ⟨rfl, hb4⟩
  have hb4' : Below w.heap.size w w4 := hb3.trans (hb4.mono hb3.size)
  go_wp2_with fail
  refine (or_with_nil _ w4).mono ?_
  rintro e w' ⟨rfl, rfl⟩
  go_wp2_with fail
  refine (minus_with_nil _ w4).mono ?_
  rintro e w' ⟨rfl, rfl⟩
  go_wp2_with fail
  refine (new_any 3 3 w4 (by omega)).mono ?_
  rintro e w5 ⟨rfl, hs5, hb5⟩
  have hb5' : Below w.heap.size w w5 := hb4'.trans (hb5.mono hb4'.size)
  go_wp2_with fail
  refine (same_nil _ _ 3 _ w5 hs5 (zeros_all _) (HT.out.below hb5')).mono ?_
  rintro e w6 ⟨rfl, hb6⟩
  go_wp2_with fail
  go_ret
  exact ⟨rfl, hb5'.trans (hb6.mono hb5'.size)⟩
theorem bits_law (n0 i : Int) (w : World) (ht : Tab w) :
    Calls Tryd.prog 3 #[.int .i64 n0, .int .i64 i] w fun e w' => e = .returned (.bool true) ∧ Below w.heap.size w w' := by
  have hN1 : n0.tmod 5000 ≤ 5000 := by
    have := Int.tmod_lt_of_pos n0 (show (0 : Int) < 5000 by omega); omega
  by_cases h0 : 0 ≤ i
  · by_cases h1 : i < n0.tmod 5000
    · exact bits_in n0 i _ w (Lib.hid rfl) hN1 h0 h1 ht
    · exact bits_far n0 i _ w (Lib.hid rfl) hN1 h0 (by omega) ht
  · exact bits_neg n0 i _ w (Lib.hid rfl) hN1 (by omega) ht
end Go.Proofs.YtopifdkkmchoeaaDoor
