/- The walk of the law WordShifts: shifting by two numbers is shifting by their sum; what was shifted out does not come back. No condition beyond that the arguments fit their kinds. -/
import Derived.Test.YtehfkddigjmkkaaDoAs
import Derived.Test.YtehfkddigjmkkaaPlainShift
set_option linter.unusedVariables false
set_option linter.unusedSimpArgs false
namespace Go.Proofs.Ytehfkddigjmkkaa
open Go.RowKit

theorem ret_bool {b : Bool} (h : b = true) : Ending.returned (.bool b) = .returned (.bool true) := by rw [h]
set_option maxHeartbeats 1000000 in
theorem shifts_core (a n m u v u2 v2 u3 v3 l r : Int) (w : World) (ha : U64 a) (hn0 : 0 ≤ n) (hn1 : n ≤ 255) (hm0 : 0 ≤ m) (hm1 : m ≤ 255) (hu : U64 u) (hu2 : U64 u2) (hu3 : U64 u3)
    (hx : U64 (n % 70)) (hy : U64 (m % 70)) (hxy : U64 (n % 70 + m % 70))
    (h1 : Hid (doV 15 a (n % 70) = u)) (h2 : Hid (doV 15 u (m % 70) = v)) (h3 : Hid (doV 15 a (n % 70 + m % 70) = v))
    (h4 : Hid (doV 16 a (n % 70) = u2)) (h5 : Hid (doV 16 u2 (m % 70) = v2)) (h6 : Hid (doV 16 a (n % 70 + m % 70) = v2))
    (h7 : Hid (doV 17 a (n % 70) = u3)) (h8 : Hid (doV 17 u3 (m % 70) = v3)) (h9 : Hid (doV 17 a (n % 70 + m % 70) = v3))
    (h10 : Hid (doV 16 u (n % 70) = r)) (h11 : Hid (63 < n % 70 → u = 0 ∧ r = 0)) (h12 : Hid (¬ 63 < n % 70 → r = bits .and .u64 a (18446744073709551615 / 2 ^ (n % 70).toNat))) :
    Calls Try.prog 6 #[.int .u64 a, .int .u8 n, .int .u8 m] w fun e w' => e = .returned (.bool true) ∧ Below w.heap.size w w' := by
  have hx0 : 0 ≤ n % 70 := by omega
  have hx1 : n % 70 < 70 := by omega
  have hy0 : 0 ≤ m % 70 := by omega
  have hy1 : m % 70 < 70 := by omega
  by_cases hbig : 63 < n % 70
  all_goals
    go_enter Try.func6, Try.ntmps6
    go_wp2_with fail
    refine (first_true _).mono ?_
    rintro e w1 ⟨rfl, hbw⟩
    go_wp2_with fail
    have hfin := hbw.alloc hbw.size (.cells #[.int .u8 15, .int .u8 16, .int .u8 17] 27)
    go_loop [31] (fun i => ∃ k : Nat, k ≤ 3 ∧ i = .int .i64 k) (fun i => 3 - (intOf i).toNat)
    case atStart => exact ⟨0, by omega, rfl⟩
    case round =>
      obtain ⟨k, hk, rfl⟩ := hrel
      by_cases h0 : k = 0
      · subst h0
        go_wp2_with fail
        refine (do_as 15 a (n % 70) u 0 _ ha hx h1.out (by simp [doE])).mono ?_
        rintro e w' ⟨rfl, rfl⟩
        go_wp2_with fail
        refine (do_as 15 u (m % 70) v 0 _ hu hy h2.out (by simp [doE])).mono ?_
        rintro e w' ⟨rfl, rfl⟩
        go_wp2_with fail
        refine (do_as 15 a (n % 70 + m % 70) v 0 _ ha hxy h3.out (by simp [doE])).mono ?_
        rintro e w' ⟨rfl, rfl⟩
        go_wp2_with fail
        exact ⟨⟨1, by omega, rfl⟩, by simp [intOf]⟩
      · by_cases h1' : k = 1
        · subst h1'
          go_wp2_with fail
          refine (do_as 16 a (n % 70) u2 0 _ ha hx h4.out (by simp [doE])).mono ?_
          rintro e w' ⟨rfl, rfl⟩
          go_wp2_with fail
          refine (do_as 16 u2 (m % 70) v2 0 _ hu2 hy h5.out (by simp [doE])).mono ?_
          rintro e w' ⟨rfl, rfl⟩
          go_wp2_with fail
          refine (do_as 16 a (n % 70 + m % 70) v2 0 _ ha hxy h6.out (by simp [doE])).mono ?_
          rintro e w' ⟨rfl, rfl⟩
          go_wp2_with fail
          exact ⟨⟨2, by omega, rfl⟩, by simp [intOf]⟩
        · by_cases h2' : k = 2
          · subst h2'
            go_wp2_with fail
            refine (do_as 17 a (n % 70) u3 0 _ ha hx h7.out (by simp [doE])).mono ?_
            rintro e w' ⟨rfl, rfl⟩
            go_wp2_with fail
            refine (do_as 17 u3 (m % 70) v3 0 _ hu3 hy h8.out (by simp [doE])).mono ?_
            rintro e w' ⟨rfl, rfl⟩
            go_wp2_with fail
            refine (do_as 17 a (n % 70 + m % 70) v3 0 _ ha hxy h9.out (by simp [doE])).mono ?_
            rintro e w' ⟨rfl, rfl⟩
            go_wp2_with fail
            exact ⟨⟨3, by omega, rfl⟩, by simp [intOf]⟩
          · obtain rfl : k = 3 := by omega
            by_cases hb2 : 63 < n % 70
            · have H := h11.out hb2
              obtain ⟨rfl, rfl⟩ := H
              go_wp2_with fail
              refine (do_as 15 a (n % 70) _ 0 _ ha hx h1.out (by simp [doE])).mono ?_
              rintro e w' ⟨rfl, rfl⟩
              go_wp2_with fail
              refine (do_as 16 _ (n % 70) _ 0 _ hu hx h10.out (by simp [doE])).mono ?_
              rintro e w' ⟨rfl, rfl⟩
              go_wp2_with fail
              go_ret
              exact ⟨rfl, hfin⟩
            · try exact absurd hbig hb2
              all_goals
                go_wp2_with fail
                refine (do_as 15 a (n % 70) _ 0 _ ha hx h1.out (by simp [doE])).mono ?_
                rintro e w' ⟨rfl, rfl⟩
                go_wp2_with fail
                refine (do_as 16 _ (n % 70) _ 0 _ hu hx h10.out (by simp [doE])).mono ?_
                rintro e w' ⟨rfl, rfl⟩
                go_wp2_with fail
                go_ret
                exact ⟨ret_bool (by simpa using h12.out hb2), hfin⟩

theorem walk_WordShifts (w : World) (a0 : Int) (w0 : (Lit.int .u64 a0).wf = true) (a1 : Int) (w1 : (Lit.int .u8 a1).wf = true) (a2 : Int) (w2 : (Lit.int .u8 a2).wf = true) :
    Calls Try.prog 6 #[.int .u64 a0, .int .u8 a1, .int .u8 a2] w fun e w' => e = .returned (.bool true) ∧ Below w.heap.size w w' := by
  have ha := u64_of_wf w0
  have hn := bounds_u8 w1
  have hm := bounds_u8 w2
  have hx : U64 (a1 % 70) := by unfold U64; omega
  have hy : U64 (a2 % 70) := by unfold U64; omega
  obtain ⟨X, hX⟩ : ∃ X : Nat, a1 % 70 = X := Int.eq_ofNat_of_zero_le (by omega)
  obtain ⟨Y, hY⟩ : ∃ Y : Nat, a2 % 70 = Y := Int.eq_ofNat_of_zero_le (by omega)
  refine shifts_core a0 a1 a2 (doV 15 a0 (a1 % 70)) (doV 15 a0 (a1 % 70 + a2 % 70)) (doV 16 a0 (a1 % 70)) (doV 16 a0 (a1 % 70 + a2 % 70)) (doV 17 a0 (a1 % 70)) (doV 17 a0 (a1 % 70 + a2 % 70)) 0 (doV 16 (doV 15 a0 (a1 % 70)) (a1 % 70)) w ha
    hn.1 hn.2 hm.1 hm.2 (doV_u64 _ _ _ ha hx) (doV_u64 _ _ _ ha hx) (doV_u64 _ _ _ ha hx) hx hy (by unfold U64; omega) (Lib.hid rfl) ?_ (Lib.hid rfl) (Lib.hid rfl) ?_ (Lib.hid rfl) (Lib.hid rfl) ?_ (Lib.hid rfl) (Lib.hid rfl) ?_ ?_
  · show doV 15 (doV 15 _ _) _ = _
    rw [hX, hY]; exact shl_shl _ _ _
  · show doV 16 (doV 16 _ _) _ = _
    rw [hX, hY]; exact shr_shr _ _ _ ha
  · show doV 17 (doV 17 _ _) _ = _
    rw [hX, hY]; exact sar_sar _ _ _
  · show _ → _
    rw [hX]; exact fun h => shl_shr_big _ _ (by omega)
  · show _ → _
    rw [hX]; exact fun h => by rw [Int.toNat_natCast]; exact shl_shr _ _ ha (by omega)
end Go.Proofs.Ytehfkddigjmkkaa
