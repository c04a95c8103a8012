/- Walks of the sets of numbers: Or, Minus, Same where the law calls them; the law's helper first; the law BitsNil. Conditions: the table of package math/bits is laid. -/
import Derived.Test.YtopifdkkmchoeaaDoorBitList
set_option linter.unusedVariables false
set_option linter.unusedSimpArgs false
namespace Go.Proofs.YtopifdkkmchoeaaDoor
open Go.RowKit

set_option maxHeartbeats 400000 in
theorem or_of_nil (g h : Nat) (n : Int) (ws : List Int) (w : World) (hs : SetAt w g h n ws) (hp : ∀ x ∈ ws, x = 0 ∨ Pow x) (ht : Tab w) :
    Calls Tryd.prog 12 #[.pointer none, .pointer (some ⟨g, 0, none⟩)] w fun e w' => e = .returned (.bool false) ∧ Below w.heap.size w w' := by
  go_enter Tryd.func12, Tryd.ntmps12
  go_wp2_with fail
  refine (list_any g h n ws w hs hp ht).mono ?_
  rintro e w1 ⟨sv, m, zs, rfl, hm, hown, hbw, _⟩
  obtain ⟨A, cap, rfl, hnc, hcm, hr⟩ := own_any hown
  go_wp2_with fail
  go_loop [5, 11] (fun c i => ∃ k : Nat, k ≤ m ∧ c = .bool false ∧ i = .int .i64 k) (fun _ i => m - (intOf i).toNat)
  case atStart => exact ⟨0, by omega, rfl, rfl⟩
  case round =>
    obtain ⟨k, hk, rfl, rfl⟩ := hrel
    by_cases hlt : k < m
    · obtain ⟨ad, u, rfl, _, hu, hcell⟩ := hr.at_ hlt
      obtain ⟨z, _, rfl⟩ : ∃ z, zs[k]? = some z ∧ u = .int .i64 z := by
        rw [i64s, List.getElem?_map, Option.map_eq_some_iff] at hu
        obtain ⟨z, h1, h2⟩ := hu
        exact ⟨z, h1, h2.symm⟩
      clear hu
      go_wp2_with fail
      refine (add_nil z _).mono ?_
      rintro e w' ⟨rfl, rfl⟩
      go_wp2_with fail
      exact ⟨⟨k + 1, by omega, rfl, by go_num⟩, by simp [intOf]; omega⟩
    · go_wp2_with fail
      go_ret
      exact ⟨rfl, hbw⟩
set_option maxHeartbeats 400000 in
theorem or_with_nil (g : Nat) (w : World) :
    Calls Tryd.prog 12 #[.pointer (some ⟨g, 0, none⟩), .pointer none] w fun e w' => e = .returned (.bool false) ∧ w = w' := by
  go_enter Tryd.func12, Tryd.ntmps12
  go_wp2_with fail
  refine (list_nil _).mono ?_
  rintro e w' ⟨rfl, rfl⟩
  go_wp2_with fail
  go_loop [5, 11] (fun c i => c = .bool false ∧ i = .int .i64 0) (fun _ _ => 0)
  case atStart => exact ⟨rfl, rfl⟩
  case round =>
    obtain ⟨rfl, rfl⟩ := hrel
    go_wp2_with fail
    go_ret
    exact ⟨rfl, rfl⟩
set_option maxHeartbeats 400000 in
theorem minus_with_nil (g : Nat) (w : World) :
    Calls Tryd.prog 13 #[.pointer (some ⟨g, 0, none⟩), .pointer none] w fun e w' => e = .returned (.bool false) ∧ w = w' := by
  go_enter Tryd.func13, Tryd.ntmps13
  go_wp2_with fail
  refine (list_nil _).mono ?_
  rintro e w' ⟨rfl, rfl⟩
  go_wp2_with fail
  go_loop [5, 11] (fun c i => c = .bool false ∧ i = .int .i64 0) (fun _ _ => 0)
  case atStart => exact ⟨rfl, rfl⟩
  case round =>
    obtain ⟨rfl, rfl⟩ := hrel
    go_wp2_with fail
    go_ret
    exact ⟨rfl, rfl⟩
set_option maxHeartbeats 400000 in
theorem equal_nil (w : World) :
    Calls Tryd.prog 19 #[.slice none 0 0, .slice none 0 0] w fun e w' => e = .returned (.bool true) ∧ w = w' := by
  go_enter Tryd.func19, Tryd.ntmps19
  go_wp2_with fail
  go_loop [13] (fun i => i = .int .i64 0) (fun _ => 0)
  case atStart => rfl
  case round =>
    subst hrel
    go_wp2_with fail
    go_ret
    exact ⟨rfl, rfl⟩
theorem bitOn_pow (k : Nat) (hk : k < 64) : Pow (bitOn 0 k) ∧ U64 (bitOn 0 k) ∧ bitAt (bitOn 0 k) k = true := by
  have hle : 2 ^ k ≤ 2 ^ 63 := Nat.pow_le_pow_right (by omega) (by omega)
  have e2 : (2 : Int) ^ k = ((2 ^ k : Nat) : Int) := by simp
  have e3 : (0 : Int) < 2 ^ k := Int.pow_pos (by omega)
  have e4 : (2 : Int) ^ k ≤ 9223372036854775808 := by
    have h := Int.ofNat_le.2 hle
    simpa using h
  have e : bitOn 0 k = 2 ^ k := by
    unfold bitOn
    rw [IntKind.wrap_u64, Int.emod_eq_of_lt (by omega) (by omega), e2, show (0 : Int) = ((0 : Nat) : Int) from rfl, u64_or_nat _ _ (by omega) (by omega), Nat.zero_or]
  rw [e]
  refine ⟨⟨k, hk, rfl⟩, by unfold U64; omega, ?_⟩
  unfold bitAt
  rw [Int.ediv_self (by omega)]
  kernel_rfl
theorem bitAt_zero (k : Nat) : bitAt 0 k = false := by
  unfold bitAt
  rw [Int.zero_ediv]; kernel_rfl
theorem same_nil (g h : Nat) (n : Int) (ws : List Int) (w : World) (hs : SetAt w g h n ws) (hp : ∀ x ∈ ws, x = 0) (ht : Tab w) :
    Calls Tryd.prog 14 #[.pointer none, .pointer (some ⟨g, 0, none⟩)] w fun e w' => e = .returned (.bool true) ∧ Below w.heap.size w w' := by
  have HP := Lib.hid hp
  clear hp
  go_enter Tryd.func14, Tryd.ntmps14
  go_wp2_with fail
  refine (list_nil _).mono ?_
  rintro e w' ⟨rfl, rfl⟩
  go_wp2_with fail
  refine (list_any g h n ws w hs (fun x hx => .inl (HP.out x hx)) ht).mono ?_
  rintro e w1 ⟨sv, m, zs, rfl, hm, hown, hbw, hz⟩
  obtain ⟨rfl, rfl⟩ := hz HP.out
  go_wp2_with fail
  refine (equal_nil _).mono ?_
  rintro e w' ⟨rfl, rfl⟩
  go_wp2_with fail
  go_ret
  exact ⟨rfl, hbw⟩
theorem SetAt.cells {w : World} {g h : Nat} {n : Int} {ws : List Int} (hs : SetAt w g h n ws) :
    w.cell? ⟨g, 0, none⟩ = some (.int .i64 n) ∧ w.cell? ⟨g, 1, none⟩ = some (.slice (some ⟨h, 0, none⟩) ws.length ws.length) ∧ ∀ k (x : Int), ws[k]? = some x → w.cell? ⟨h, k, none⟩ = some (.int .u64 x) :=
  ⟨hs.top.cell 0, hs.top.cell 1, fun k x hx => by rw [hs.words.cell k]; simp [u64s, hx]⟩
theorem SetAt.below {w w' : World} {g h B : Nat} {n : Int} {ws : List Int} (hs : SetAt w g h n ws) (hb : Below B w w') (hg : g < B) (hh : h < B) : SetAt w' g h n ws :=
  ⟨hs.top.below hb hg, hs.words.below hb hh, hs.lo, hs.hi, hs.len, hs.wf⟩
theorem SetAt.set {w : World} {g h : Nat} {n : Int} {ws : List Int} (hs : SetAt w g h n ws) (k : Nat) (y : Int) (hy : U64 y) : SetAt (w.setCell ⟨h, k, none⟩ (.int .u64 y)) g h n (ws.set k y) := by
  refine ⟨?_, ?_, hs.lo, hs.hi, by rw [List.length_set]; exact hs.len, fun x hx => ?_⟩
  · rw [List.length_set]
    exact hs.top.far (p := ⟨h, k, none⟩) (hs.top.ne_ hs.words (by decide)) _
  · have := hs.words.set_ k (.int .u64 y)
    rwa [show (u64s ws).setIfInBounds k (.int .u64 y) = u64s (ws.set k y) from by simp [u64s, List.map_set]] at this
  · rcases List.mem_or_eq_of_mem_set hx with h | h
    · exact hs.wf x h
    · rw [h]; exact hy
/-- a number added to a set that has none -/
theorem add_zero (g h : Nat) (n i : Int) (L : Nat) (w : World) (hs : SetAt w g h n (zeros L)) (h0 : 0 ≤ i) (h1 : i < n) :
    Calls Tryd.prog 6 #[.pointer (some ⟨g, 0, none⟩), .int .i64 i] w fun e w' => e = .returned (.bool true) ∧ SetAt w' g h n ((zeros L).set (i.toNat / 64) (bitOn 0 (i.toNat % 64))) ∧ w' = w.setCell ⟨h, i.toNat / 64, none⟩ (.int .u64 (bitOn 0 (i.toNat % 64))) := by
  obtain ⟨k, rfl⟩ := Int.eq_ofNat_of_zero_le h0
  obtain ⟨c0, c1, cw⟩ := hs.cells
  have hl : (zeros L).length = L := by simp [zeros]
  have hlen := hs.len
  rw [hl] at hlen c1
  have hkL : k / 64 < L := by omega
  have hx : (zeros L)[k / 64]? = some 0 := by simp [zeros, hkL]
  refine (add_new g h L k n k 0 w rfl h1 hs.hi (by omega) c0 c1 (cw _ _ hx) (hs.words.frozen _) (by unfold U64; omega) (bitAt_zero _)).mono fun e w' hh => ?_
  obtain ⟨he, hw⟩ := hh
  subst hw
  exact ⟨he, hs.set _ _ (bitOn_pow _ (Nat.mod_lt _ (by omega))).2.1, rfl⟩
theorem had_one (g h : Nat) (n i : Int) (L : Nat) (w : World) (hs : SetAt w g h n ((zeros L).set (i.toNat / 64) (bitOn 0 (i.toNat % 64)))) (h0 : 0 ≤ i) (h1 : i < n) :
    (Calls Tryd.prog 7 #[.pointer (some ⟨g, 0, none⟩), .int .i64 i] w fun e w' => e = .returned (.bool true) ∧ w = w') ∧
    (Calls Tryd.prog 6 #[.pointer (some ⟨g, 0, none⟩), .int .i64 i] w fun e w' => e = .returned (.bool false) ∧ w = w') := by
  obtain ⟨k, rfl⟩ := Int.eq_ofNat_of_zero_le h0
  rw [Int.toNat_natCast] at hs
  obtain ⟨c0, c1, cw⟩ := hs.cells
  have hl : ((zeros L).set (k / 64) (bitOn 0 (k % 64))).length = L := by simp [zeros]
  have hlen := hs.len
  rw [hl] at hlen c1
  have hkL : k / 64 < L := by omega
  have hx : ((zeros L).set (k / 64) (bitOn 0 (k % 64)))[k / 64]? = some (bitOn 0 (k % 64)) := by simp [zeros, hkL]
  have hb := bitOn_pow (k % 64) (Nat.mod_lt _ (by omega))
  exact ⟨has_in g h L k n k _ true w rfl h1 hs.hi (by omega) c0 c1 (cw _ _ hx) hb.2.1 hb.2.2, add_had g h L k n k _ w rfl h1 hs.hi (by omega) c0 c1 (cw _ _ hx) hb.2.1 hb.2.2⟩
set_option maxHeartbeats 400000 in
theorem first_true (w : World) : Calls Tryd.prog 4 #[] w fun e w' => e = .returned (.bool true) ∧ Below w.heap.size w w' := by
  go_enter Tryd.func4, Tryd.ntmps4
  go_wp2_with fail
  refine (new_any 70 70 _ (by omega)).mono ?_
  rintro e w1 ⟨rfl, hs, hbw⟩
  go_wp2_with fail
  refine (add_zero _ _ 70 69 2 w1 hs (by omega) (by omega)).mono ?_
  rintro e w2 ⟨rfl, hs2, hw2⟩
  have hbw2 : Below w.heap.size w w2 := by rw [hw2]; exact hbw.setCell (Nat.le_refl _) _
  clear hw2 hs hbw
  go_wp2_with fail
  refine ((had_one _ _ 70 69 2 w2 hs2 (by omega) (by omega)).2).mono ?_
  rintro e w' ⟨rfl, rfl⟩
  go_wp2_with fail
  refine (add_out _ 70 70 w2 (by omega) hs2.cells.1).mono ?_
  rintro e w' ⟨rfl, rfl⟩
  go_wp2_with fail
  refine ((had_one _ _ 70 69 2 w2 hs2 (by omega) (by omega)).1).mono ?_
  rintro e w' ⟨rfl, rfl⟩
  go_wp2_with fail
  refine (len_first _ _ w2 hs2.cells.2.1 (hs2.cells.2.2 0 0 (by kernel_rfl)) (hs2.cells.2.2 1 32 (by kernel_rfl))).mono ?_
  rintro e w' ⟨rfl, rfl⟩
  go_wp2_with fail
  go_ret
  exact ⟨rfl, hbw2⟩
end Go.Proofs.YtopifdkkmchoeaaDoor
