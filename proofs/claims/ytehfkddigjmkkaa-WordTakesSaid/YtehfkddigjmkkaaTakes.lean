/- The walk of the law WordTakes: words put one behind the other are taken each from its place. Conditions: what the law's arguments are read as. -/
import Derived.Test.YtehfkddigjmkkaaDoAs
set_option linter.unusedVariables false
set_option linter.unusedSimpArgs false
namespace Go.Proofs.Ytehfkddigjmkkaa
open Go.RowKit

def flat (l : List Int) : List Int := l.flatMap (bytesLE 8)
theorem flat_snoc (l : List Int) (k : Nat) (x : Int) (h : l[k]? = some x) : flat (l.take (k + 1)) = flat (l.take k) ++ bytesLE 8 x := by
  rw [take_succ_int l k x h]; simp [flat]
theorem flat_length (l : List Int) : (flat l).length = 8 * l.length := by
  induction l with
  | nil => rfl
  | cons x r ih => simp only [flat, List.flatMap_cons, List.length_append, bytesLE_length, List.length_cons] at ih ⊢; omega
theorem flat_at (l : List Int) (k : Nat) (x : Int) (h : l[k]? = some x) : ((flat l).drop (8 * k)).take 8 = bytesLE 8 x := by
  have hk := (List.getElem?_eq_some_iff.1 h).1
  have e : l = l.take k ++ x :: l.drop (k + 1) := by
    rw [← (List.getElem?_eq_some_iff.1 h).2, ← List.drop_eq_getElem_cons hk, List.take_append_drop]
  have hl : (flat (l.take k)).length = 8 * k := by rw [flat_length, List.length_take]; omega
  have e2 : flat l = flat (l.take k) ++ (bytesLE 8 x ++ flat (l.drop (k + 1))) := by
    conv => lhs; rw [e]
    simp [flat]
  rw [e2, List.drop_append_of_le_length (by omega), List.drop_of_length_le (by omega), List.nil_append, List.take_append_of_le_length (by rw [bytesLE_length]; omega), List.take_of_length_le (by rw [bytesLE_length]; omega)]
theorem flat_bd (l : List Int) : ∀ x ∈ flat l, 0 ≤ x ∧ x < 256 := by
  intro x hx
  simp only [flat, List.mem_flatMap] at hx
  obtain ⟨a, _, h⟩ := hx
  exact bytesLE_bd _ _ x h
set_option maxHeartbeats 1000000 in
theorem takes_core (w : World) (A0 : Option Addr) (n0 c0 m : Nat) (z0 : List Int) (r0 : Reads w w.heap.size 1 A0 n0 (z0.map (Value.int .u64))) (l0 : z0.length = n0) (nc0 : n0 ≤ c0) (rc0 : c0 * 8 ≤ 140737488351232) (w0 : ∀ z ∈ z0, U64 z)
    (A1 : Option Addr) (n1 c1 : Nat) (z1 : List Int) (r1 : Reads w w.heap.size 1 A1 n1 (byteVals z1)) (l1 : z1.length = n1) (nc1 : n1 ≤ c1) (rc1 : c1 * 1 ≤ 140737488351232) (wz : ∀ z ∈ z1, 0 ≤ z ∧ z < 256) (hm : m ≤ n0) (hm60 : m ≤ 60) (hmin : m = n0 ∨ n0 > 60 ∧ m = 60) :
    Calls Try.prog 9 #[.slice A0 n0 c0, .slice A1 n1 c1] w fun e w' => e = .returned (.bool true) ∧ Below w.heap.size w w' := by
  obtain ⟨i0, hi0, hz0, hz1, hz2⟩ := info_parts infoU8
  have L0 := Lib.hid l0
  have L1 := Lib.hid l1
  clear l0 l1
  rcases hmin with hmin | ⟨h60, hmin⟩
  · subst hmin
    go_enter Try.func9, Try.ntmps9
    go_wp2_with fail
    refine (first_true _).mono ?_
    rintro e w1 ⟨rfl, hbw⟩
    have r1' := ((r1.below hbw).alloc hbw.size (.cells #[] 5))
    go_wp2_with (first
      | (at_builtin
         refine wpList_append_any _ rfl (.tmp 22) (.tmp 23) _ rfl w1.heap.size 5 i0 _ 1 1 Try.underlying32 hi0 hz0 hz1 hz2 rfl (by omega) _ 0 [] rfl
           (own_lit0 _ _ _) w.heap.size A1 n1 c1 _ rfl r1' (byteVals_one _) ?c1 ?c2 ?c3 ?_
         case c1 => simp only [maxLen]; omega
         case c2 => omega
         case c3 => simp
         intro v2 w2 hown2 hg2 hat2))
    have hb2 : Below w1.heap.size w1 w2 := ((Below.refl _ w1).alloc (Nat.le_refl _) _).grown hg2 (by simp) (fun k hk => Nat.le_of_eq (Option.some.inj hk))
    clear r1' hg2 hat2
    go_loopw [6, 27] (fun s i wr => ∃ k : Nat, k ≤ m ∧ i = .int .i64 k ∧ wr.ownsRow w1.heap.size 5 1 s (n1 + 8 * k) (byteVals (z1 ++ flat (z0.take k))) ∧ Below w1.heap.size w1 wr) (fun _ i _ => m - (intOf i).toNat)
    case atStart => exact ⟨0, by omega, rfl, by simpa [flat] using hown2, hb2⟩
    case round =>
      obtain ⟨k, hk, rfl, hown, hbl⟩ := hrel
      have hball : Below w.heap.size w wr := hbw.trans (hbl.mono hbw.size)
      clear hown2 hb2
      by_cases hlt : k < m
      · obtain ⟨ad, u, rfl, _, hu, hcell⟩ := (r0.below hball).at_ (k := k) (by omega)
        obtain ⟨x, hxk, rfl⟩ : ∃ x, z0[k]? = some x ∧ u = .int .u64 x := by
          rw [List.getElem?_map, Option.map_eq_some_iff] at hu
          obtain ⟨x, h1, h2⟩ := hu
          exact ⟨x, h1, h2.symm⟩
        obtain ⟨A, cap, rfl, hnc, hcm, hr⟩ := own_any hown
        have HX := Lib.hid hxk
        clear hu hxk
        go_wp2_with fail
        refine (put_any A _ cap _ x wr wr.heap.size hr (byteVals_one _) (by omega) (Nat.le_refl _) (w0 x (List.mem_of_getElem? HX.out))).mono ?_
        rintro e w3 ⟨sv, rfl, hown3, hbl3⟩
        go_wp2_with fail
        refine ⟨⟨k + 1, by omega, by go_num, ?_, hbl.trans (hbl3.mono hbl.size)⟩, by simp [intOf]; omega⟩
        have e : byteVals (z1 ++ flat (z0.take (k + 1))) = byteVals (z1 ++ flat (z0.take k)) ++ byteVals (bytesLE 8 x) := by
          rw [flat_snoc _ _ _ HX.out]; simp [byteVals]
        rw [e]
        exact own_base hown3 hbl.size
      · obtain ⟨K, hK⟩ : ∃ K, K = k := ⟨k, rfl⟩
        subst hK
        have hK2 : m ≤ K := by omega
        obtain ⟨A, cap, rfl, hnc, hcm, hr⟩ := own_any hown
        have hcm2 : cap ≤ 9223372036854775807 := by unfold maxLen at hcm; exact hcm
        go_wp2_with fail
        go_loop [37] (fun i => ∃ k : Nat, k ≤ m ∧ i = .int .i64 k) (fun i => m - (intOf i).toNat)
        case atStart => exact ⟨0, by omega, rfl⟩
        case round =>
          obtain ⟨k, hk', rfl⟩ := hrel
          have hbd : ∀ x ∈ z1 ++ flat (z0.take K), 0 ≤ x ∧ x < 256 := fun x hx => (List.mem_append.1 hx).elim (wz x) (flat_bd _ x)
          have HBD := Lib.hid hbd
          clear hbd
          by_cases hlt : k < m
          · obtain ⟨ad, u, rfl, _, hu, hcell⟩ := (r0.below hball).at_ (k := k) (by omega)
            obtain ⟨x, hxk, rfl⟩ : ∃ x, z0[k]? = some x ∧ u = .int .u64 x := by
              rw [List.getElem?_map, Option.map_eq_some_iff] at hu
              obtain ⟨x, h1, h2⟩ := hu
              exact ⟨x, h1, h2.symm⟩
            have HX := Lib.hid hxk
            clear hu hxk
            have HV : Hid (leV (((z1 ++ flat (z0.take K)).drop (n1 + 8 * k)).take 8) = x) := by
              show leV _ = x
              rw [List.drop_append, List.drop_of_length_le (by have := L1.out; omega), List.nil_append, L1.out, Nat.add_sub_cancel_left, flat_at _ _ x (by rw [List.getElem?_take_of_lt (by omega)]; exact HX.out), leV_bytes8 _ (w0 x (List.mem_of_getElem? HX.out))]
            go_wp2_with fail
            refine (take_as A _ cap (n1 + 8 * k) _ x _ wr _ hr HBD.out (by omega) (by omega) hnc hcm HV.out).mono ?_
            rintro e w' ⟨rfl, rfl⟩
            go_wp2_with fail
            exact ⟨⟨k + 1, by omega, by go_num⟩, by simp [intOf]; omega⟩
          · go_wp2_with fail
            refine (take_out A _ cap _ wr (by omega) (by omega)).mono ?_
            rintro e w' ⟨rfl, rfl⟩
            go_wp2_with fail
            go_ret
            exact ⟨rfl, hball⟩
  · subst hmin
    go_enter Try.func9, Try.ntmps9
    go_wp2_with fail
    refine (first_true _).mono ?_
    rintro e w1 ⟨rfl, hbw⟩
    have r1' := ((r1.below hbw).alloc hbw.size (.cells #[] 5))
    go_wp2_with (first
      | (at_builtin
         refine wpList_append_any _ rfl (.tmp 22) (.tmp 23) _ rfl w1.heap.size 5 i0 _ 1 1 Try.underlying32 hi0 hz0 hz1 hz2 rfl (by omega) _ 0 [] rfl
           (own_lit0 _ _ _) w.heap.size A1 n1 c1 _ rfl r1' (byteVals_one _) ?c1 ?c2 ?c3 ?_
         case c1 => simp only [maxLen]; omega
         case c2 => omega
         case c3 => simp
         intro v2 w2 hown2 hg2 hat2))
    have hb2 : Below w1.heap.size w1 w2 := ((Below.refl _ w1).alloc (Nat.le_refl _) _).grown hg2 (by simp) (fun k hk => Nat.le_of_eq (Option.some.inj hk))
    clear r1' hg2 hat2
    go_loopw [6, 27] (fun s i wr => ∃ k : Nat, k ≤ 60 ∧ i = .int .i64 k ∧ wr.ownsRow w1.heap.size 5 1 s (n1 + 8 * k) (byteVals (z1 ++ flat (z0.take k))) ∧ Below w1.heap.size w1 wr) (fun _ i _ => 60 - (intOf i).toNat)
    case atStart => exact ⟨0, by omega, rfl, by simpa [flat] using hown2, hb2⟩
    case round =>
      obtain ⟨k, hk, rfl, hown, hbl⟩ := hrel
      have hball : Below w.heap.size w wr := hbw.trans (hbl.mono hbw.size)
      clear hown2 hb2
      by_cases hlt : k < 60
      · obtain ⟨ad, u, rfl, _, hu, hcell⟩ := (r0.below hball).at_ (k := k) (by omega)
        obtain ⟨x, hxk, rfl⟩ : ∃ x, z0[k]? = some x ∧ u = .int .u64 x := by
          rw [List.getElem?_map, Option.map_eq_some_iff] at hu
          obtain ⟨x, h1, h2⟩ := hu
          exact ⟨x, h1, h2.symm⟩
        obtain ⟨A, cap, rfl, hnc, hcm, hr⟩ := own_any hown
        have HX := Lib.hid hxk
        clear hu hxk
        go_wp2_with fail
        refine (put_any A _ cap _ x wr wr.heap.size hr (byteVals_one _) (by omega) (Nat.le_refl _) (w0 x (List.mem_of_getElem? HX.out))).mono ?_
        rintro e w3 ⟨sv, rfl, hown3, hbl3⟩
        go_wp2_with fail
        refine ⟨⟨k + 1, by omega, by go_num, ?_, hbl.trans (hbl3.mono hbl.size)⟩, by simp [intOf]; omega⟩
        have e : byteVals (z1 ++ flat (z0.take (k + 1))) = byteVals (z1 ++ flat (z0.take k)) ++ byteVals (bytesLE 8 x) := by
          rw [flat_snoc _ _ _ HX.out]; simp [byteVals]
        rw [e]
        exact own_base hown3 hbl.size
      · obtain ⟨K, hK⟩ : ∃ K, K = k := ⟨k, rfl⟩
        subst hK
        have hK2 : 60 ≤ K := by omega
        obtain ⟨A, cap, rfl, hnc, hcm, hr⟩ := own_any hown
        have hcm2 : cap ≤ 9223372036854775807 := by unfold maxLen at hcm; exact hcm
        go_wp2_with fail
        go_loop [37] (fun i => ∃ k : Nat, k ≤ 60 ∧ i = .int .i64 k) (fun i => 60 - (intOf i).toNat)
        case atStart => exact ⟨0, by omega, rfl⟩
        case round =>
          obtain ⟨k, hk', rfl⟩ := hrel
          have hbd : ∀ x ∈ z1 ++ flat (z0.take K), 0 ≤ x ∧ x < 256 := fun x hx => (List.mem_append.1 hx).elim (wz x) (flat_bd _ x)
          have HBD := Lib.hid hbd
          clear hbd
          by_cases hlt : k < 60
          · obtain ⟨ad, u, rfl, _, hu, hcell⟩ := (r0.below hball).at_ (k := k) (by omega)
            obtain ⟨x, hxk, rfl⟩ : ∃ x, z0[k]? = some x ∧ u = .int .u64 x := by
              rw [List.getElem?_map, Option.map_eq_some_iff] at hu
              obtain ⟨x, h1, h2⟩ := hu
              exact ⟨x, h1, h2.symm⟩
            have HX := Lib.hid hxk
            clear hu hxk
            have HV : Hid (leV (((z1 ++ flat (z0.take K)).drop (n1 + 8 * k)).take 8) = x) := by
              show leV _ = x
              rw [List.drop_append, List.drop_of_length_le (by have := L1.out; omega), List.nil_append, L1.out, Nat.add_sub_cancel_left, flat_at _ _ x (by rw [List.getElem?_take_of_lt (by omega)]; exact HX.out), leV_bytes8 _ (w0 x (List.mem_of_getElem? HX.out))]
            go_wp2_with fail
            refine (take_as A _ cap (n1 + 8 * k) _ x _ wr _ hr HBD.out (by omega) (by omega) hnc hcm HV.out).mono ?_
            rintro e w' ⟨rfl, rfl⟩
            go_wp2_with fail
            exact ⟨⟨k + 1, by omega, by go_num⟩, by simp [intOf]; omega⟩
          · go_wp2_with fail
            refine (take_out A _ cap _ wr (by omega) (by omega)).mono ?_
            rintro e w' ⟨rfl, rfl⟩
            go_wp2_with fail
            go_ret
            exact ⟨rfl, hball⟩
theorem walk_WordTakes (w : World) (A0 : Option Addr) (n0 c0 : Nat) (z0 : List Int) (r0 : Reads w w.heap.size 1 A0 n0 (z0.map (Value.int .u64))) (l0 : z0.length = n0) (nc0 : n0 ≤ c0) (cm0 : c0 ≤ maxLen) (rc0 : c0 * 8 ≤ 140737488351232) (w0 : ∀ z ∈ z0, (Lit.int .u64 z).wf = true) (A1 : Option Addr) (n1 c1 : Nat) (z1 : List Int) (r1 : Reads w w.heap.size 1 A1 n1 (z1.map (Value.int .u8))) (l1 : z1.length = n1) (nc1 : n1 ≤ c1) (cm1 : c1 ≤ maxLen) (rc1 : c1 * 1 ≤ 140737488351232) (w1 : ∀ z ∈ z1, (Lit.int .u8 z).wf = true) :
    Calls Try.prog 9 #[.slice A0 n0 c0, .slice A1 n1 c1] w fun e w' => e = .returned (.bool true) ∧ Below w.heap.size w w' :=
  takes_core w A0 n0 c0 (min n0 60) z0 r0 l0 nc0 rc0 (fun z hz => u64_of_wf (w0 z hz)) A1 n1 c1 z1 r1 l1 nc1 rc1 (fun z hz => by have := bounds_u8 (w1 z hz); omega) (by omega) (by omega) (by omega)
end Go.Proofs.Ytehfkddigjmkkaa
