/- The law StackBack: a stack moved away, and back to where it was, is as it was. Condition: the list lies in memory. -/
import Derived.Test.YtndmhnmclogpcaaChains
set_option linter.unusedVariables false
set_option linter.unusedSimpArgs false
namespace Go.Proofs.Ytndmhnmclogpcaa
open Go.RowKit

theorem places_get (s : Int) (k i : Nat) (h : i < k) : (placesW s k)[i]? = some (s + 8 * (i : Int)) := by
  unfold placesW; rw [List.getElem?_map, List.getElem?_range h]; rfl
theorem places_mem (s : Int) (k i : Nat) (h : i < k) : s + 8 * (i : Int) ∈ placesW s k := List.mem_of_getElem? (places_get s k i h)
theorem places_length (s : Int) (k : Nat) : (placesW s k).length = k := by simp [placesW]
/-- a word that is no pointer where the stack is moved to -/
def Aside (v : Int) : Prop := U64 v ∧ ¬ (2097152 ≤ v ∧ v < 4194304)
theorem back_tail {n k m z tN : Nat} {y1 y2 : Int} {vs : List Int} (hk : vs.length = k) (hm : n = m + k) (hz : tN = 8 * z + 8 * k) (hn : n ≤ 61) (hto : tN ≤ 4000) (htn : 8 * n ≤ tN) (hv : ∀ v ∈ vs, Aside v)
    (hy1 : y1 = 2097152 + tN - (1048576 + 8 * n)) (hy2 : y2 = 18446744073709551616 - y1) :
    tailW 2097152 (2097152 + tN) y2 (placesW (1048576 + 8 * (m : Int) + y1) k) (List.replicate z 0 ++ tailW 1048576 (1048576 + 8 * (n : Int)) y1 (placesW (1048576 + 8 * (m : Int)) k) (List.replicate m 0 ++ vs) m) z = vs := by
  have hl1 : (tailW 1048576 (1048576 + 8 * (n : Int)) y1 (placesW (1048576 + 8 * (m : Int)) k) (List.replicate m 0 ++ vs) m).length = k := by rw [tail_length, List.length_append, List.length_replicate]; omega
  apply List.ext_getElem?
  intro i
  rw [tail_get, List.length_append, List.length_replicate, hl1, Nat.add_sub_cancel_left]
  by_cases hi : i < k
  · rw [if_pos hi]
    have hvi : vs[i]? = some vs[i] := List.getElem?_eq_getElem (by omega)
    obtain ⟨hvu, hva⟩ := hv vs[i] (List.getElem_mem (by omega))
    generalize vs[i] = v at *
    have hg1 : (List.replicate m 0 ++ vs).getD (m + i) 0 = v := by
      rw [List.getD_eq_getElem?_getD, List.getElem?_append_right (by simp), List.length_replicate, Nat.add_sub_cancel_left, hvi]; rfl
    have hg2 : (List.replicate z 0 ++ tailW 1048576 (1048576 + 8 * (n : Int)) y1 (placesW (1048576 + 8 * (m : Int)) k) (List.replicate m 0 ++ vs) m).getD (z + i) 0 = mvW 1048576 (1048576 + 8 * (n : Int)) y1 (placesW (1048576 + 8 * (m : Int)) k) (1048576 + 8 * ((m + i : Nat) : Int)) v := by
      rw [List.getD_eq_getElem?_getD, List.getElem?_append_right (by simp), List.length_replicate, Nat.add_sub_cancel_left, tail_get, List.length_append, List.length_replicate, Nat.add_sub_cancel_left, if_pos (by omega), hg1]; rfl
    have hm1 : (1048576 : Int) + 8 * ((m + i : Nat) : Int) ∈ placesW (1048576 + 8 * (m : Int)) k := by
      have := places_mem (1048576 + 8 * (m : Int)) k i hi
      rwa [show (1048576 : Int) + 8 * (m : Int) + 8 * (i : Int) = 1048576 + 8 * ((m + i : Nat) : Int) by omega] at this
    have hm2 : (2097152 : Int) + 8 * ((z + i : Nat) : Int) ∈ placesW (1048576 + 8 * (m : Int) + y1) k := by
      have := places_mem (1048576 + 8 * (m : Int) + y1) k i hi
      rwa [show (1048576 : Int) + 8 * (m : Int) + y1 + 8 * (i : Int) = 2097152 + 8 * ((z + i : Nat) : Int) by omega] at this
    rw [hg2, hvi]
    congr 1
    unfold U64 at hvu
    by_cases hp : 1048576 ≤ v ∧ v < 1048576 + 8 * (n : Int)
    · have e1 : mvW 1048576 (1048576 + 8 * (n : Int)) y1 (placesW (1048576 + 8 * (m : Int)) k) (1048576 + 8 * ((m + i : Nat) : Int)) v = v + y1 := by
        rw [mvW, if_pos ⟨hm1, hp.1, hp.2⟩, IntKind.wrap_u64]; omega
      rw [e1, mvW, if_pos ⟨hm2, by omega, by omega⟩, IntKind.wrap_u64]; omega
    · have e1 : mvW 1048576 (1048576 + 8 * (n : Int)) y1 (placesW (1048576 + 8 * (m : Int)) k) (1048576 + 8 * ((m + i : Nat) : Int)) v = v := by
        rw [mvW, if_neg (fun h => hp h.2)]
      rw [e1, mvW, if_neg (fun h => hva ⟨h.2.1, by have := h.2.2; omega⟩)]
  · rw [if_neg hi, List.getElem?_eq_none (by omega)]
section
variable {w w' : World} {lo p : Nat} {cv sv : Value} {regs : List Int} {pc base : Int} {ws : List Int}
/-- a row of words grows: the machine stays -/
theorem ChipAt.grownRow {b n size : Nat} {v : Value} {xs : List Value} (h : ChipAt w lo p cv sv regs pc base ws) (ho : w.ownsRow b 29 size v n xs) (hg : w.grownBy w' v.ownBlock) : ChipAt w' lo p cv sv regs pc base ws :=
  h.keep (S := fun i => v.ownBlock = some i) (Keeps.of_grown hg) (own_blk_ne ho h.blk (by decide)) fun k e1 e2 => by
    obtain ⟨cs, hb⟩ := own_blk ho e2
    exact own_blk_ne h.row hb (by decide) e1
/-- a store into the machine's stack: a row of words stays -/
theorem ChipAt.rowKept {b n size : Nat} {v : Value} {xs : List Value} (h : ChipAt w lo p cv sv regs pc base ws) (ho : w.ownsRow b 29 size v n xs) (hk : Keeps (fun i => sv.ownBlock = some i) w w') : w'.ownsRow b 29 size v n xs :=
  hk.own ho fun k e1 e2 => by
    obtain ⟨cs, hb⟩ := own_blk ho e1
    exact own_blk_ne h.row hb (by decide) e2
end
theorem set_mid (m t r : Nat) (vs : List Int) (v : Int) (hl : vs.length = t) (hr : 0 < r) : (List.replicate m 0 ++ (vs ++ List.replicate r 0)).set (m + t) v = List.replicate m 0 ++ ((vs ++ [v]) ++ List.replicate (r - 1) 0) := by
  rw [List.set_append_right _ _ (by simp), List.length_replicate, Nat.add_sub_cancel_left, List.set_append_right _ _ (by omega), hl, Nat.sub_self]
  obtain ⟨r', rfl⟩ : ∃ r', r = r' + 1 := ⟨r - 1, by omega⟩
  simp [List.replicate_succ]
theorem conv_readsS (w : World) {B n c : Nat} {A : Option Addr} {xs : List Int} (h : Reads w B 1 A n (byteVals xs)) : (convert 33 9 (.slice A n c)).run Try.prog w = .ok (.string (strOfNums xs)) w :=
  run_conv_reads w _ _ _ Try.underlying33 Try.underlying5 Try.underlying9 h
set_option maxRecDepth 100000 in
set_option maxHeartbeats 4000000 in
theorem walk_StackBack (w : World) (A0 : Option Addr) (n0 c0 : Nat) (z0 : List Int) (r0 : Reads w w.heap.size 1 A0 n0 (z0.map (Value.int .u64))) (l0 : z0.length = n0) (nc0 : n0 ≤ c0) (cm0 : c0 ≤ maxLen) (rc0 : c0 * 8 ≤ 140737488351232) (w0 : ∀ z ∈ z0, (Lit.int .u64 z).wf = true) (a1 : Int) (w1 : (Lit.int .i64 a1).wf = true) (a2 : Int) (w2 : (Lit.int .i64 a2).wf = true) :
    Calls Try.prog 4 #[.slice A0 n0 c0, .int .i64 a1, .int .i64 a2] w fun e w' => e = .returned (.bool true) ∧ Below w.heap.size w w' := by
  obtain ⟨i0, hi0, hz0, hz1, hz2⟩ := info_parts infoU64
  obtain ⟨mn, hmn⟩ : ∃ mn : Nat, (if (60 : Int) < n0 then (60 : Int) else n0) = mn := by
    by_cases h : (60 : Int) < n0
    · exact ⟨60, by rw [if_pos h]; rfl⟩
    · exact ⟨n0, by rw [if_neg h]⟩
  have hmn2 : mn ≤ 60 := by
    by_cases h : (60 : Int) < n0
    · rw [if_pos h] at hmn; omega
    · rw [if_neg h] at hmn; omega
  obtain ⟨n, hn⟩ : ∃ n : Nat, 1 + (mn : Int) = n := ⟨1 + mn, by omega⟩
  have hn61 : n ≤ 61 := by omega
  have hn1 : 1 ≤ n := by omega
  obtain ⟨k, hk, q1⟩ := cut_at a1 (n + 1) (by omega) (by omega)
  have q1' : wrap64 ((IntKind.u64.wrap a1).tmod ((n : Int) + 1)) = (k : Int) := q1
  obtain ⟨d, hd, q2⟩ := cut_at a2 200 (by omega) (by omega)
  have q2' : wrap64 ((IntKind.u64.wrap a2).tmod 200) = (d : Int) := q2
  obtain ⟨m, hm⟩ : ∃ m : Nat, n = m + k := ⟨n - k, by omega⟩
  obtain ⟨N, hN⟩ : ∃ N : Nat, 8 * (n : Int) + 8 * (d : Int) = N := ⟨8 * n + 8 * d, by omega⟩
  have hm0 : MayP 1048576 (8 * (n : Int)) := by unfold MayP; omega
  have hm1 : MayP 2097152 N := by unfold MayP; omega
  have hz : (List.replicate (8 * (n : Int) / 8).toNat (0 : Int)) = List.replicate m 0 ++ (([] : List Int) ++ List.replicate (k - 0) 0) := by
    rw [List.nil_append, List.replicate_append_replicate]; congr 1; omega
  unfold maxLen at cm0
  have Hm := Lib.hid hm
  have HM0 := Lib.hid hm0
  have Hm1 := Lib.hid hm1
  have Hz := Lib.hid hz
  have HR := Lib.hid r0
  have HL := Lib.hid l0
  have HW := Lib.hid w0
  clear w0 l0 r0 hz hm1 hm0 hm
  clear w1 w2 q1 q2
  go_enter Try.func4, Try.ntmps4
  go_wp2_with fail
  refine (first_any _).mono ?_
  rintro e w3 ⟨rfl, hb3⟩
  have hs3 := hb3.size
  have Hb3 := Lib.hid hb3
  clear hb3
  go_wp2_with fail
  refine (new_in w3 1048576 (8 * (n : Int)) HM0.out).mono ?_
  rintro e w4 ⟨p, sv, rfl, h4, hb4⟩
  rw [Hz.out] at h4
  have h4' := h4.lower hs3
  have hb4' := Hb3.out.trans (hb4.mono hs3)
  obtain ⟨s, hs⟩ : ∃ s : Int, 1048576 + 8 * ((n : Int) - k) = s := ⟨_, rfl⟩
  have hkn : (k : Int) ≤ n := by omega
  have H4' := Lib.hid h4'
  have Hb4' := Lib.hid hb4'
  clear hb4' h4'
  clear h4 hb4
  go_wp2_with fail
  refine (set_in H4'.out 14 s (by omega) (by unfold U64; omega) 14 rfl).mono ?_
  rintro e w6 ⟨rfl, h6, hk6⟩
  have h6' : ChipAt w6 w.heap.size p (.slice none 0 0) sv (regs0 s) 0 1048576 (List.replicate m 0 ++ (([] : List Int) ++ List.replicate (k - 0) 0)) := h6
  have hb6 := Hb4'.out.trans (H4'.out.keepB hk6)
  obtain ⟨M, hM⟩ : ∃ M, M = w.heap.size := ⟨_, rfl⟩
  have hsm : s = 1048576 + 8 * (m : Int) := by have := Hm.out; omega
  have hs20 : 1048576 ≤ s := by omega
  have hs21 : s ≤ 1049064 := by omega
  have H6' := Lib.hid h6'
  have Hb6 := Lib.hid hb6
  have Hs := Lib.hid hs
  have Hsm := Lib.hid hsm
  clear hsm hs hb6 h6'
  clear h6 hk6
  go_wp2_with fail
  obtain ⟨D, hD⟩ : ∃ D : Int, D = 2097152 + N - (1048576 + 8 * n) := ⟨_, rfl⟩
  have hDb : 0 ≤ D ∧ D ≤ 1060000 := by omega
  have hNb : N ≤ 4000 := by omega
  have HD := Lib.hid hD
  have HN := Lib.hid hN
  clear hN hD
  clear q1' q2' hn hmn
  go_loopw [12, 13, 15] (fun va vb i wr => ∃ t : Nat, t ≤ k ∧ i = .int .i64 t ∧ ∃ vs : List Int, vs.length = t ∧ Hid (∀ v ∈ vs, Aside v) ∧ ChipAt wr w.heap.size p (.slice none 0 0) sv (regs0 s) 0 1048576 (List.replicate m 0 ++ (vs ++ List.replicate (k - t) 0)) ∧ wr.ownsRow w.heap.size 29 1 va t ((placesW s t).map (Value.int .u64)) ∧ wr.ownsRow w.heap.size 29 1 vb t ((placesW (s + D) t).map (Value.int .u64)) ∧ Hid (∀ g, va.ownBlock = some g → vb.ownBlock ≠ some g) ∧ Below w.heap.size w wr) (fun _ _ i _ => k - (intOf i).toNat)
  case atStart => exact ⟨0, by omega, rfl, [], rfl, (show ∀ v ∈ ([] : List Int), Aside v from fun v hv => by cases hv), H6'.out, World.ownsRow_nil _ _ _ _, World.ownsRow_nil _ _ _ _, (show ∀ g, (Value.slice none 0 0).ownBlock = some g → (Value.slice none 0 0).ownBlock ≠ some g from fun g hg => by cases hg), Hb6.out⟩
  case round =>
    obtain ⟨t, ht, rfl, vs, hvl, hvs, hC, hA, hBk, hne, hbw⟩ := hrel
    by_cases hlt : t < k
    · obtain ⟨v0, hv0, hcell⟩ : ∃ v0 : Int, U64 v0 ∧ ((t < n0 ∧ ∃ ad, A0 = some ad ∧ wr.cell? (ad.add t) = some (.int .u64 v0)) ∨ (n0 ≤ t ∧ v0 = t)) := by
        by_cases hin : t < n0
        · obtain ⟨ad, u0, hA0, _, hu0, hce⟩ := (HR.out.below hbw).at_ hin
          obtain ⟨x, hxk, rfl⟩ : ∃ x, z0[t]? = some x ∧ u0 = .int .u64 x := by
            rw [List.getElem?_map, Option.map_eq_some_iff] at hu0
            obtain ⟨x, h1, h2⟩ := hu0
            exact ⟨x, h1, h2.symm⟩
          exact ⟨x, u64_of_wf (HW.out x (List.mem_of_getElem? hxk)), .inl ⟨hin, ad, hA0, hce⟩⟩
        · exact ⟨t, by unfold U64; omega, .inr ⟨by omega, rfl⟩⟩
      have HC := Lib.hid hC
      have HA := Lib.hid hA
      have HBk := Lib.hid hBk
      have Hne := Lib.hid hne
      have Hbw := Lib.hid hbw
      have Hvs := Lib.hid hvs
      have Hvl := Lib.hid hvl
      clear hvl hvs hbw hne hBk hA hC
      go_upto_if 80 with (fail)
      go_cut [17] from 80 to 84 (fun v wx => v = .int .u64 v0 ∧ wx = wr)
      case first =>
        rcases hcell with ⟨hin, ad, hA0, hce⟩ | ⟨hout, hv0t⟩
        · subst hA0
          have hin' : (t : Int) < n0 := by omega
          go_wp2_with fail
          go_meet
          exact ⟨rfl, rfl⟩
        · have hin' : ¬ (t : Int) < n0 := by omega
          go_wp2_with fail
          go_meet
          exact ⟨by rw [hv0t], rfl⟩
      case rest =>
        obtain ⟨hvc, hwc⟩ := hcut
        subst hvc hwc
        clear hcell
        unfold U64 at hv0
        obtain ⟨hv00, hv01⟩ := hv0
        obtain ⟨b1, hb1⟩ : ∃ b1, b1 = decide (2097152 ≤ v0 ∧ v0 < 4194304) := ⟨_, rfl⟩
        have hb1c : (2097152 ≤ v0 ∧ v0 < 4194304 ∧ b1 = true) ∨ (¬ 2097152 ≤ v0 ∧ b1 = false) ∨ (2097152 ≤ v0 ∧ ¬ v0 < 4194304 ∧ b1 = false) := by
          by_cases g1 : 2097152 ≤ v0
          · by_cases g2 : v0 < 4194304
            · exact .inl ⟨g1, g2, by rw [hb1]; simp; omega⟩
            · exact .inr (.inr ⟨g1, g2, by rw [hb1]; simp; omega⟩)
          · exact .inr (.inl ⟨g1, by rw [hb1]; simp; omega⟩)
        obtain ⟨v1, hv1u, hv1a⟩ : ∃ v1 : Int, Aside v1 ∧ ((b1 = true ∧ v1 = 7) ∨ (b1 = false ∧ v1 = v0)) := by
          rcases hb1c with ⟨g1, g2, g3⟩ | ⟨g1, g3⟩ | ⟨g1, g2, g3⟩
          · exact ⟨7, ⟨by unfold U64; omega, by omega⟩, .inl ⟨g3, rfl⟩⟩
          · exact ⟨v0, ⟨by unfold U64; omega, by omega⟩, .inr ⟨g3, rfl⟩⟩
          · exact ⟨v0, ⟨by unfold U64; omega, by omega⟩, .inr ⟨g3, rfl⟩⟩
        have Hv1u := Lib.hid hv1u
        clear hv1u
        clear hb1
        go_upto_region 19 with fail
        go_cut [90] from 85 to 90 (fun c wx => c = .bool b1 ∧ wx = wc)
        case first =>
          rcases hb1c with ⟨g1, g2, g3⟩ | ⟨g1, g3⟩ | ⟨g1, g2, g3⟩
          all_goals
            subst g3
            go_wp2_with fail
            go_meet
            exact ⟨rfl, rfl⟩
        case rest =>
        obtain ⟨hvc, hwc⟩ := hcut
        subst hvc hwc
        clear hb1c
        go_upto_if 90 with (fail)
        go_cut [17] from 90 to 90 (fun v wx => v = .int .u64 v1 ∧ wx = wc)
        case first =>
          rcases hv1a with ⟨g1, g3⟩ | ⟨g1, g3⟩
          all_goals
            subst g1
            go_wp2_with fail
            go_meet
            exact ⟨by rw [g3], rfl⟩
        case rest =>
          obtain ⟨hvc, hwc⟩ := hcut
          subst hvc hwc
          clear hv1a hv00 hv01
          obtain ⟨hv10, hv11⟩ := Hv1u.out.1
          obtain ⟨r3, hr3⟩ : ∃ r3, v1.tmod 3 = r3 := ⟨_, rfl⟩
          obtain ⟨r8, hr8⟩ : ∃ r8, v1.tmod (8 * (n : Int)) = r8 := ⟨_, rfl⟩
          have hr80 : 0 ≤ r8 ∧ r8 < 8 * n := by
            rw [← hr8, Int.tmod_eq_emod_of_nonneg hv10]
            exact ⟨Int.emod_nonneg _ (by omega), Int.emod_lt_of_pos _ (by omega)⟩
          obtain ⟨v2, hv2u, hv2a⟩ : ∃ v2 : Int, Aside v2 ∧ (((r3 == 0) = true ∧ v2 = 1048576 + r8) ∨ ((r3 == 0) = false ∧ v2 = v1)) := by
            by_cases hr : r3 = 0
            · exact ⟨1048576 + r8, ⟨by unfold U64; omega, by omega⟩, .inl ⟨by simpa using hr, rfl⟩⟩
            · exact ⟨v1, Hv1u.out, .inr ⟨by simpa using hr, rfl⟩⟩
          have Hv2u := Lib.hid hv2u
          clear hv2u
          go_upto_if 93 with (fail)
          go_cut [17] from 93 to 99 (fun v wx => v = .int .u64 v2 ∧ wx = wc)
          case first =>
            rcases hv2a with ⟨g1, g3⟩ | ⟨g1, g3⟩
            all_goals
              go_wp2_with fail
              go_meet
              exact ⟨by rw [g3], rfl⟩
          case rest =>
            obtain ⟨hvc, hwc⟩ := hcut
            subst hvc hwc
            clear hv2a hr3 hr8 hr80 hv10 hv11
            have hidx : s + 8 * (t : Int) = 1048576 + 8 * ((m + t : Nat) : Int) := by have := Hsm.out; omega
            have hwl : (List.replicate m (0 : Int) ++ (vs ++ List.replicate (k - t) 0)).length = n := by
              rw [List.length_append, List.length_append, List.length_replicate, List.length_replicate, Hvl.out]; have := Hm.out; omega
            obtain ⟨o, ho⟩ : ∃ o : Int, s + 8 * (t : Int) - 1048576 = o := ⟨_, rfl⟩
            have ho8 : o - 8 * n < 0 ∧ -488 ≤ o - 8 * n := by have := Hsm.out; have := Hm.out; omega
            obtain ⟨x1, hx1⟩ : ∃ x1, IntKind.u64.wrap (o - 8 * n) = x1 := ⟨_, rfl⟩
            have hx1v : x1 = 18446744073709551616 + (o - 8 * n) := by rw [← hx1, IntKind.wrap_u64]; omega
            obtain ⟨x2, hx2⟩ : ∃ x2, IntKind.u64.wrap (x1 + 2097152) = x2 := ⟨_, rfl⟩
            have hx2v : x2 = o - 8 * n + 2097152 := by rw [← hx2, IntKind.wrap_u64]; omega
            obtain ⟨x3, hx3⟩ : ∃ x3, IntKind.u64.wrap (x2 + N) = x3 := ⟨_, rfl⟩
            have hx3v : x3 = s + D + 8 * t := by have := HN.out; have := HD.out; rw [← hx3, IntKind.wrap_u64]; omega
            have hx3' : x2 + N = x3 := by have := HN.out; have := HD.out; omega
            have hx30 : 0 ≤ x2 + N ∧ x2 + N < 18446744073709551616 := by have := HN.out; omega
            have hmf : m + t < n := by have := Hm.out; omega
            have Hidx := Lib.hid hidx
            have Hwl := Lib.hid hwl
            have Hx1v := Lib.hid hx1v
            have Hx2v := Lib.hid hx2v
            have Hx3v := Lib.hid hx3v
            have Ho8 := Lib.hid ho8
            clear ho8 hx3v hx2v hx1v hwl hidx
            go_wp2_with fail
            refine (store_in HC.out (m + t) v2 (by rw [Hwl.out]; exact hmf) Hv2u.out.1 _ Hidx.out).mono ?_
            rintro e w7 ⟨rfl, h7, hk7⟩
            rw [set_mid m t (k - t) vs v2 Hvl.out (by omega), show k - t - 1 = k - (t + 1) by omega] at h7
            have hA7 := HC.out.rowKept HA.out hk7
            have hB7 := HC.out.rowKept HBk.out hk7
            have hb7 := Hbw.out.trans (HC.out.keepS hk7)
            have hlo7 := h7.loLt
            have H7 := Lib.hid h7
            have HA7 := Lib.hid hA7
            have HB7 := Lib.hid hB7
            have Hb7 := Lib.hid hb7
            clear hb7 hB7 hA7 h7
            clear hk7
            go_wp2_with (first
              | (at_builtin
                 refine wpList_append_any _ rfl (.tmp 104) (.tmp 106) _ rfl w.heap.size 29 i0 _ 1 8 Try.underlying32 hi0 hz0 hz1 hz2 rfl (by omega) _ t _ rfl (HA7.out.alloc _) (w7.heap.size + 1) (some ⟨w7.heap.size, 0, none⟩) 1 1 [.int .u64 (s + 8 * t)] rfl (Reads.new1 _ _ _) ?c1 ?c2 ?c3 ?c4 ?_
                 case c1 => intro u hu; simp only [List.mem_singleton] at hu; subst hu; rfl
                 case c2 => simp only [maxLen]; omega
                 case c3 => omega
                 case c4 => simp; omega
                 intro v8 w8 hown8 hg8 hat8
                 have hB8 := (HB7.out.alloc (.cells #[.int .u64 (s + 8 * (t : Int))] 29)).kept hg8 (by
                   rcases hv : Value.ownBlock u13 with _ | g
                   · exact .inl rfl
                   · refine .inr fun hc => ?_
                     exact Hne.out g hc.symm hv)
                 have h8 := (H7.out.below ((Below.refl w7.heap.size w7).alloc (Nat.le_refl _) (.cells #[.int .u64 (s + 8 * (t : Int))] 29))).grownRow (HA7.out.alloc (.cells #[.int .u64 (s + 8 * (t : Int))] 29)) hg8
                 have hb8 := (Hb7.out.alloc hlo7 (.cells #[.int .u64 (s + 8 * (t : Int))] 29)).grown hg8 (by simp; omega) (fun g e => (HA7.out.lt g e).1)
                 have hsz8 := hg8.size
                 simp only [World.size_alloc] at hsz8)
              | (at_builtin
                 refine wpList_append_any _ rfl (.tmp 108) (.tmp 119) _ rfl w.heap.size 29 i0 _ 1 8 Try.underlying32 hi0 hz0 hz1 hz2 rfl (by omega) _ t _ rfl (hB8.alloc _) (w8.heap.size + 1) (some ⟨w8.heap.size, 0, none⟩) 1 1 [.int .u64 x3] rfl (Reads.new1 _ _ _) ?d1 ?d2 ?d3 ?d4 ?_
                 case d1 => intro u hu; simp only [List.mem_singleton] at hu; subst hu; rfl
                 case d2 => simp only [maxLen]; omega
                 case d3 => omega
                 case d4 => simp; omega
                 intro v9 w9 hown9 hg9 hat9))
            have h9 := (h8.below ((Below.refl w8.heap.size w8).alloc (Nat.le_refl _) (.cells #[.int .u64 x3] 29))).grownRow (hB8.alloc (.cells #[.int .u64 x3] 29)) hg9
            have hne' : ∀ g, Value.ownBlock v8 = some g → Value.ownBlock u13 ≠ some g := fun g e1 e2 => by
              rcases (show Value.ownBlock v8 = Value.ownBlock u12 ∨ _ from hat8) with h | h
              · exact Hne.out g (by rw [← h]; exact e1) e2
              · rw [h] at e1
                injection e1 with e1
                have := (HB7.out.lt g e2).2
                simp only [World.size_alloc] at e1
                omega
            have hA9 := (hown8.alloc (.cells #[.int .u64 x3] 29)).kept hg9 (by
              rcases hv : Value.ownBlock v8 with _ | g
              · exact .inl rfl
              · exact .inr fun hc => hne' g hv hc.symm)
            have hb9 := (hb8.alloc (by omega) (.cells #[.int .u64 x3] 29)).grown hg9 (by simp; omega) (fun g e => (hB8.lt g e).1)
            have hne9 : ∀ g, Value.ownBlock v8 = some g → Value.ownBlock v9 ≠ some g := fun g e1 e2 => by
              rcases (show Value.ownBlock v9 = Value.ownBlock u13 ∨ _ from hat9) with h | h
              · exact hne' g e1 (by rw [← h]; exact e2)
              · rw [h] at e2
                injection e2 with e2
                have := (hown8.lt g e1).2
                simp only [World.size_alloc] at e2
                omega
            have hvs9 : ∀ v ∈ vs ++ [v2], Aside v := fun v hv => by
              rcases List.mem_append.1 hv with h | h
              · exact Hvs.out v h
              · simp at h; rw [h]; exact Hv2u.out
            have hx3e := Hx3v.out
            have H9 := Lib.hid h9
            have HA9 := Lib.hid hA9
            have Hb9 := Lib.hid hb9
            have Hne9 := Lib.hid hne9
            have Hvs9 := Lib.hid hvs9
            have Hx3e := Lib.hid hx3e
            have Hown9 := Lib.hid hown9
            clear hown9 hx3e hvs9 hne9 hb9 hA9 h9
            clear hg8 hg9 hat8 hat9 hown8 hB8 h8 hb8
            refine ⟨⟨t + 1, by omega, by go_num, vs ++ [v2], by rw [List.length_append, Hvl.out]; rfl, Hvs9.out, H9.out, ?_, ?_, Hne9.out, Hb9.out⟩, by simp [intOf]; omega⟩
            · rw [places_snoc, List.map_append]; exact HA9.out
            · have h := Hown9.out
              rw [Hx3e.out] at h
              rw [places_snoc, List.map_append]
              exact h
    · obtain rfl : t = k := by omega
      rw [Nat.sub_self, List.replicate_zero, List.append_nil] at hC
      have hkk : (t : Int) ≤ t := Int.le_refl _
      obtain ⟨VA, ca, hva, hca1, hca2, hra⟩ := own_any hA
      obtain ⟨VB, cb, hvb, hcb1, hcb2, hrb⟩ := own_any hBk
      subst hva hvb
      obtain ⟨WS, hWS⟩ : ∃ WS : List Int, WS = List.replicate m 0 ++ vs := ⟨_, rfl⟩
      rw [← hWS] at hC
      have hWl : WS.length = n := by rw [hWS, List.length_append, List.length_replicate, hvl]; have := Hm.out; omega
      have HC := Lib.hid hC
      have HA := Lib.hid hA
      have HBk := Lib.hid hBk
      have Hbw := Lib.hid hbw
      have Hvs := Lib.hid hvs
      have Hvl := Lib.hid hvl
      have Hra := Lib.hid hra
      have Hrb := Lib.hid hrb
      have HWS := Lib.hid hWS
      have HWl := Lib.hid hWl
      clear hWl hWS hrb hra hvl hvs hbw hBk hA hC
      clear hne
      go_wp2_with fail
      refine (stack_in HC.out).mono ?_
      rintro e w10 ⟨tv, rfl, hown10, hb10⟩
      have h10 := HC.out.below hb10
      have hb10' := Hbw.out.trans (hb10.mono HC.out.loLt)
      have hra10 := (Hra.out.below hb10).more (B' := w10.heap.size) hb10.size
      have hrb10 := own_kept' HBk.out (only_of_below hb10 none) nofun
      obtain ⟨TA, tc, rfl, htc1, htc2, _⟩ := own_any hown10
      unfold maxLen at htc2
      have H10 := Lib.hid h10
      have Hb10' := Lib.hid hb10'
      have Hra10 := Lib.hid hra10
      have Hrb10 := Lib.hid hrb10
      have Hown10 := Lib.hid hown10
      clear hown10 hrb10 hra10 hb10' h10
      clear hb10
      have hDv := HD.out
      have hNv := HN.out
      have hmv := Hm.out
      have hsv := Hsm.out
      obtain ⟨z1, hz1v⟩ : ∃ z1 : Nat, z1 = (N - 8 * t) / 8 := ⟨_, rfl⟩
      have hz1N : N = 8 * z1 + 8 * t := by omega
      have hE1 : (1048576 : Int) + 8 * (WS.length : Int) = 1048576 + 8 * n := by rw [HWl.out]
      have hy1 : D = IntKind.u64.wrap (2097152 + (N : Int) - (1048576 + 8 * (WS.length : Int))) := by rw [hE1, IntKind.wrap_u64]; omega
      obtain ⟨WS1, hWS1⟩ : ∃ WS1, WS1 = movedW 1048576 (1048576 + 8 * (WS.length : Int)) D (placesW s t) WS m ((N - 8 * t) / 8) := ⟨_, rfl⟩
      have hWl1 : WS1.length = z1 + t := by rw [hWS1, movedW_length, HWl.out, ← hz1v]; omega
      have hE2 : (2097152 : Int) + 8 * (WS1.length : Int) = 2097152 + N := by rw [hWl1]; omega
      obtain ⟨N2, hN2⟩ : ∃ N2 : Nat, 8 * (n : Int) = N2 := ⟨8 * n, by omega⟩
      have hm2 : MayP 1048576 N2 := by rw [← hN2]; exact HM0.out
      obtain ⟨y2, hy2⟩ : ∃ y2, y2 = IntKind.u64.wrap (1048576 + (N2 : Int) - (2097152 + 8 * (WS1.length : Int))) := ⟨_, rfl⟩
      have hy2v : y2 = 18446744073709551616 - D := by rw [hy2, hE2, IntKind.wrap_u64]; omega
      have hback : movedW 2097152 (2097152 + 8 * (WS1.length : Int)) y2 (placesW (s + D) t) WS1 z1 ((N2 - 8 * t) / 8) = WS := by
        have h0 : (N2 - 8 * t) / 8 = m := by omega
        have hb := back_tail (n := n) (k := t) (m := m) (z := z1) (tN := N) (y1 := D) (y2 := y2) (vs := vs) Hvl.out hmv hz1N hn61 hNb (by omega) Hvs.out hDv hy2v
        rw [movedW, h0, hE2, hWS1, movedW, hE1, ← hz1v, HWS.out, hsv]
        rw [hb]
      have HDv := Lib.hid hDv
      have HNv := Lib.hid hNv
      have Hmv := Lib.hid hmv
      have Hsv := Lib.hid hsv
      have Hz1v := Lib.hid hz1v
      have Hz1N := Lib.hid hz1N
      have HE1 := Lib.hid hE1
      have Hy1 := Lib.hid hy1
      have HWS1 := Lib.hid hWS1
      have HWl1 := Lib.hid hWl1
      have HE2 := Lib.hid hE2
      have Hm2 := Lib.hid hm2
      have Hy2 := Lib.hid hy2
      have Hy2v := Lib.hid hy2v
      have Hback := Lib.hid hback
      clear hback hy2v hy2 hm2 hE2 hWl1 hWS1 hy1 hE1 hz1N hz1v hsv hmv hNv hDv
      go_wp2_with fail
      refine (move_any H10.out 2097152 N (by unfold U64; omega) m t (by rw [HWl.out]; exact Hmv.out) (by show s = _; exact Hsv.out) (by have := Hz1N.out; omega) (by omega) D Hy1.out _ (Nat.le_refl _) VA t ca (placesW s t) Hra10.out (places_length _ _) hca1 (by omega) (by
        intro a ha
        obtain ⟨i, hi, rfl⟩ := List.mem_map.1 ha
        have := List.mem_range.1 hi
        unfold U64; omega) none 0 0 [] Reads.none_ rfl (Nat.le_refl _) (by omega) nofun).mono ?_
      rintro e w11 hpost
      obtain ⟨rfl, sv1, regs1, h11, hk11, hr1⟩ : e = .returned (.int .i64 0) ∧ ∃ sv' regs', ChipAt w11 w.heap.size p (.slice none 0 0) sv' regs' 0 2097152 WS1 ∧ Keeps (fun i => i = p) w10 w11 ∧ regs'.getD 14 0 = s + D := by
        rcases hpost with ⟨_, he, sv', hc, hk, _⟩ | ⟨hno, _⟩
        · rw [← HWS1.out] at hc
          refine ⟨he, sv', _, hc, hk, ?_⟩
          rw [regsW_sp]
          show IntKind.u64.wrap (s + D) = _
          rw [IntKind.wrap_u64]; omega
        · refine absurd ⟨?_, ?_, Hm1.out⟩ hno
          · intro a ha
            obtain ⟨i, hi, rfl⟩ := List.mem_map.1 ha
            have := List.mem_range.1 hi
            have h1 := Hsv.out
            have h2 := Hmv.out
            rw [HE1.out]
            show okA s _ _
            unfold okA
            omega
          · intro r hr; cases hr
      have hne11 : ∀ {b size k2 : Nat} {ty : TypeId} {v : Value} {xs : List Value}, w10.ownsRow b ty size v k2 xs → ty ≠ 64 → w11.ownsRow b ty size v k2 xs := by
        intro b size k2 ty v xs ho hty
        exact hk11.own ho fun k3 e1 e2 => by subst e2; exact own_blk_ne ho H10.out.blk hty e1
      have hb11 := Hb10'.out.trans (H10.out.keepB hk11)
      have hrb11 := hne11 Hrb10.out (by decide)
      have hown11 := hne11 Hown10.out (by decide)
      have H11 := Lib.hid h11
      have Hb11 := Lib.hid hb11
      have Hrb11 := Lib.hid hrb11
      have Hown11 := Lib.hid hown11
      have Hr1 := Lib.hid hr1
      clear hr1 hown11 hrb11 hb11 h11
      clear hne11 hk11 hpost
      go_wp2_with fail
      refine (move_any H11.out 1048576 N2 (by unfold U64; omega) z1 t HWl1.out (by rw [Hr1.out]; have := Hsv.out; have := Hz1N.out; have := Hmv.out; have := HDv.out; omega) (by have := Hmv.out; omega) (by omega) y2 Hy2.out _ (Nat.le_refl _) VB t cb (placesW (s + D) t) (Reads.of_own Hrb11.out) (places_length _ _) hcb1 (by omega) (by
        intro a ha
        obtain ⟨i, hi, rfl⟩ := List.mem_map.1 ha
        have := List.mem_range.1 hi
        unfold U64; omega) none 0 0 [] Reads.none_ rfl (Nat.le_refl _) (by omega) nofun).mono ?_
      rintro e w12 hpost
      obtain ⟨rfl, sv2, regs2, h12, hk12, hr2⟩ : e = .returned (.int .i64 0) ∧ ∃ sv' regs', ChipAt w12 w.heap.size p (.slice none 0 0) sv' regs' 0 1048576 WS ∧ Keeps (fun i => i = p) w11 w12 ∧ regs'.getD 14 0 = s := by
        rcases hpost with ⟨_, he, sv', hc, hk, _⟩ | ⟨hno, _⟩
        · rw [Hback.out] at hc
          refine ⟨he, sv', _, hc, hk, ?_⟩
          rw [regsW_sp, Hr1.out, IntKind.wrap_u64]
          have := Hy2v.out
          omega
        · refine absurd ⟨?_, ?_, Hm2.out⟩ hno
          · intro a ha
            obtain ⟨i, hi, rfl⟩ := List.mem_map.1 ha
            have := List.mem_range.1 hi
            have h1 := Hsv.out
            have h2 := Hmv.out
            have h3 := HDv.out
            have h4 := Hz1N.out
            rw [HE2.out, Hr1.out]
            unfold okA
            omega
          · intro r hr; cases hr
      have hb12 := Hb11.out.trans (H11.out.keepB hk12)
      have hown12 := hk12.own Hown11.out fun k3 e1 e2 => by subst e2; exact own_blk_ne Hown11.out H11.out.blk (by decide) e1
      have H12 := Lib.hid h12
      have Hb12 := Lib.hid hb12
      have Hown12 := Lib.hid hown12
      have Hr2 := Lib.hid hr2
      clear hr2 hown12 hb12 h12
      clear hk12 hpost
      go_wp2_with fail
      refine (stack_in H12.out).mono ?_
      rintro e w13 ⟨uv, rfl, hown13, hb13⟩
      have h13 := H12.out.below hb13
      have hb13' := Hb12.out.trans (hb13.mono H12.out.loLt)
      have hown12' := own_kept' Hown12.out (only_of_below hb13 none) nofun
      obtain ⟨UA, uc, rfl, huc1, huc2, _⟩ := own_any hown13
      have hsp13 := h13.sp.1
      rw [Hr2.out] at hsp13
      have cv1 := conv_readsS w13 (c := uc) (Reads.of_own hown13)
      have cv2 := conv_readsS w13 (c := tc) (Reads.of_own hown12')
      have H13 := Lib.hid h13
      have Hb13' := Lib.hid hb13'
      have Hsp13 := Lib.hid hsp13
      clear hsp13 hb13' h13
      clear hown13 hb13 hown12'
      go_wp2_with fail
      refine (reg_in H13.out 14 s Hsp13.out 14 rfl).mono ?_
      rintro e w14 ⟨rfl, rfl⟩
      go_wp2_with fail
      go_ret
      exact ⟨rfl, Hb13'.out⟩
end Go.Proofs.Ytndmhnmclogpcaa
