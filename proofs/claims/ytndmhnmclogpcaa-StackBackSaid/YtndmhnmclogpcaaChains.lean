/- The law StackChains: a chain of pointers through a stack is the same chain behind any moves. Condition: the list lies in memory. -/
import Derived.Test.YtndmhnmclogpcaaUsedL
set_option linter.unusedVariables false
set_option linter.unusedSimpArgs false
namespace Go.Proofs.Ytndmhnmclogpcaa
open Go.RowKit

/-- a chain: each word points at the next, the last one at none -/
def chainW (s : Int) (k : Nat) : List Int := (List.range k).map fun i => if i + 1 < k then s + 8 * ((i : Int) + 1) else 0
def placesW (s : Int) (k : Nat) : List Int := (List.range k).map fun i : Nat => s + 8 * (i : Int)
theorem chain_length (s : Int) (k : Nat) : (chainW s k).length = k := by simp [chainW]
theorem chain_get (s : Int) (k i : Nat) (h : i < k) : (chainW s k)[i]? = some (if i + 1 < k then s + 8 * ((i : Int) + 1) else 0) := by
  unfold chainW; rw [List.getElem?_map, List.getElem?_range h]; rfl
theorem chain_tail {base E y s s' : Int} {z k : Nat} (hs : s = base + 8 * z) (hE : E = s + 8 * k) (hb : 8 ≤ base) (hy : (s + y) % 18446744073709551616 = s') (h1 : s' + 8 * k < 18446744073709551616) :
    tailW base E y (placesW s k) (List.replicate z 0 ++ chainW s k) z = chainW s' k := by
  apply List.ext_getElem?
  intro i
  rw [tail_get, List.length_append, List.length_replicate, chain_length, Nat.add_sub_cancel_left]
  by_cases hi : i < k
  · rw [if_pos hi, chain_get _ _ _ hi]
    have hg : (List.replicate z 0 ++ chainW s k).getD (z + i) 0 = if i + 1 < k then s + 8 * ((i : Int) + 1) else 0 := by
      rw [List.getD_eq_getElem?_getD, List.getElem?_append_right (by simp), List.length_replicate, Nat.add_sub_cancel_left, chain_get _ _ _ hi]; rfl
    rw [hg, mvW]
    have hmem : base + 8 * ((z + i : Nat) : Int) ∈ placesW s k := List.mem_map.2 ⟨i, List.mem_range.2 hi, by omega⟩
    by_cases hlast : i + 1 < k
    · rw [if_pos hlast, if_pos hlast, if_pos ⟨hmem, by omega, by omega⟩, IntKind.wrap_u64]
      congr 1
      omega
    · rw [if_neg hlast, if_neg hlast, if_neg (by intro h; omega)]
  · rw [if_neg hi, List.getElem?_eq_none (by rw [chain_length]; omega)]
/-- what stands: a chain of so many words at the end of a machine's stack -/
def ChainSt (w : World) (lo p k : Nat) : Prop :=
  ∃ sv regs base z, ChipAt w lo p (.slice none 0 0) sv regs 0 base (List.replicate z 0 ++ chainW (base + 8 * (z : Int)) k) ∧ regs.getD 14 0 = base + 8 * z ∧ regs.getD 3 0 = base + 8 * z
theorem infoU64 : (Try.prog.info? 29).map (fun i => (i.zero, i.size, i.bytes)) = some (some (.int .u64 0), 1, 8) := by kernel_rfl
theorem u64Vals_one (l : List Int) : ∀ u ∈ l.map (Value.int .u64), u.oneCell' = true := by
  intro u hu
  simp only [List.mem_map] at hu
  obtain ⟨x, _, rfl⟩ := hu
  rfl
theorem places_snoc (s : Int) (t : Nat) : placesW s (t + 1) = placesW s t ++ [s + 8 * (t : Int)] := by simp [placesW, List.range_succ]
theorem chainSet (s : Int) (k t : Nat) (ht : t + 1 < k) : ((chainW s k).take t ++ List.replicate (k - t) 0).set t (s + 8 * ((t : Int) + 1)) = (chainW s k).take (t + 1) ++ List.replicate (k - (t + 1)) 0 := by
  have hl : ((chainW s k).take t).length = t := by rw [List.length_take, chain_length]; omega
  rw [List.set_append_right _ _ (by omega), hl, Nat.sub_self, show k - t = (k - (t + 1)) + 1 by omega, List.replicate_succ, List.set_cons_zero, List.take_add_one, chain_get s k t (by omega), if_pos ht]
  simp
theorem chain_full (s : Int) (k : Nat) (hk : 0 < k) : (chainW s k).take (k - 1) ++ List.replicate 1 0 = chainW s k := by
  have h := List.take_append_drop (k - 1) (chainW s k)
  have hd : (chainW s k).drop (k - 1) = [0] := by
    have hl := chain_length s k
    rw [List.drop_eq_getElem_cons (by omega)]
    have he := chain_get s k (k - 1) (by omega)
    rw [if_neg (by omega)] at he
    obtain ⟨h1, h2⟩ := List.getElem?_eq_some_iff.1 he
    rw [h2, List.drop_of_length_le (by omega)]
  rw [hd] at h
  exact h
set_option maxRecDepth 100000 in
set_option maxHeartbeats 4000000 in
theorem walk_StackChains (w : World) (a0 : Int) (w0 : (Lit.int .i64 a0).wf = true) (A1 : Option Addr) (n1 c1 : Nat) (z1 : List Int) (r1 : Reads w w.heap.size 1 A1 n1 (z1.map (Value.int .i64))) (l1 : z1.length = n1) (nc1 : n1 ≤ c1) (cm1 : c1 ≤ maxLen) (rc1 : c1 * 8 ≤ 140737488351232) (w1 : ∀ z ∈ z1, (Lit.int .i64 z).wf = true) :
    Calls Try.prog 3 #[.int .i64 a0, .slice A1 n1 c1] w fun e w' => e = .returned (.bool true) ∧ Below w.heap.size w w' := by
  obtain ⟨i0, hi0, hz0, hz1, hz2⟩ := info_parts infoU64
  obtain ⟨k1, hk1, q0⟩ := cut_at a0 60 (by omega) (by omega)
  have q0' : wrap64 ((IntKind.u64.wrap a0).tmod 60) = (k1 : Int) := q0
  obtain ⟨k, hk⟩ : ∃ k : Nat, 1 + (k1 : Int) = k := ⟨1 + k1, by omega⟩
  have hk0 : 0 < k := by omega
  have hk60 : k ≤ 60 := by omega
  have hm0 : MayP 1048576 (8 * (k : Int)) := by unfold MayP; omega
  have hz : (List.replicate (8 * (k : Int) / 8).toNat (0 : Int)) = List.replicate k 0 := by congr 1; omega
  unfold maxLen at cm1
  have Hm0 := Lib.hid hm0
  have Hz := Lib.hid hz
  have HR := Lib.hid r1
  have HL := Lib.hid l1
  have HW := Lib.hid w1
  clear w1 l1 r1 hz hm0
  clear w0 q0 hk1
  go_enter Try.func3, Try.ntmps3
  go_wp2_with fail
  refine (first_any _).mono ?_
  rintro e w3 ⟨rfl, hb3⟩
  have hs3 := hb3.size
  have Hb3 := Lib.hid hb3
  clear hb3
  go_wp2_with fail
  refine (new_in w3 1048576 (8 * (k : Int)) Hm0.out).mono ?_
  rintro e w4 ⟨p, sv, rfl, h4, hb4⟩
  rw [Hz.out] at h4
  have h4' := h4.lower hs3
  have hb4' := Hb3.out.trans (hb4.mono hs3)
  have H4' := Lib.hid h4'
  have Hb4' := Lib.hid hb4'
  clear hb4' h4'
  clear h4 hb4
  go_wp2_with fail
  refine (set_in H4'.out 14 1048576 (by omega) (by unfold U64; omega) _ rfl).mono ?_
  rintro e w5 ⟨rfl, h5, hk5⟩
  have h5' : ChipAt w5 w.heap.size p (.slice none 0 0) sv (regs0 1048576) 0 1048576 ((chainW 1048576 k).take 0 ++ List.replicate (k - 0) 0) := by rw [List.take_zero, Nat.sub_zero]; exact h5
  have hb5 := Hb4'.out.trans (H4'.out.keepB hk5)
  have H5' := Lib.hid h5'
  have Hb5 := Lib.hid hb5
  clear hb5 h5'
  clear h5 hk5
  go_wp2_with fail
  go_loopw [8] (fun i wr => ∃ t : Nat, t + 1 ≤ k ∧ i = .int .i64 t ∧ ChipAt wr w.heap.size p (.slice none 0 0) sv (regs0 1048576) 0 1048576 ((chainW 1048576 k).take t ++ List.replicate (k - t) 0) ∧ Below w.heap.size w wr) (fun i _ => k - (intOf i).toNat)
  case atStart => exact ⟨0, by omega, rfl, H5'.out, Hb5.out⟩
  case round =>
    obtain ⟨t, ht, rfl, hC, hbw⟩ := hrel
    by_cases hlt : t + 1 < k
    · have hlen : ((chainW 1048576 k).take t ++ List.replicate (k - t) 0).length = k := by rw [List.length_append, List.length_take, chain_length, List.length_replicate]; omega
      have hset := chainSet 1048576 k t hlt
      have HC := Lib.hid hC
      have Hbw := Lib.hid hbw
      have Hlen := Lib.hid hlen
      have Hset := Lib.hid hset
      clear hset hlen hbw hC
      go_wp2_with fail
      refine (store_in HC.out t (1048576 + 8 * ((t : Int) + 1)) (by rw [Hlen.out]; omega) (by unfold U64; omega) _ rfl).mono ?_
      rintro e w6 ⟨rfl, h6, hk6⟩
      rw [Hset.out] at h6
      have hb6 := Hbw.out.trans (HC.out.keepS hk6)
      have H6 := Lib.hid h6
      have Hb6 := Lib.hid hb6
      clear hb6 h6
      clear hk6
      go_wp2_with fail
      exact ⟨⟨t + 1, by omega, by go_num, H6.out, Hb6.out⟩, by simp [intOf]; omega⟩
    · have hC' : ChipAt wr w.heap.size p (.slice none 0 0) sv (regs0 1048576) 0 1048576 (chainW 1048576 k) := by
        have e : t = k - 1 := by omega
        rw [e, show k - (k - 1) = 1 by omega, chain_full _ _ hk0] at hC
        exact hC
      have HC' := Lib.hid hC'
      have Hbw := Lib.hid hbw
      clear hbw hC'
      clear hC
      go_wp2_with fail
      refine (set_in HC'.out 3 1048576 (by omega) (by unfold U64; omega) 3 rfl).mono ?_
      rintro e w6 ⟨rfl, h6, hk6⟩
      have hb6 := Hbw.out.trans (HC'.out.keepB hk6)
      have hst : ChainSt w6 w.heap.size p k := ⟨sv, _, 1048576, 0, h6, rfl, rfl⟩
      have Hst := Lib.hid hst
      have Hb6 := Lib.hid hb6
      clear hb6 hst
      clear h6 hk6
      go_wp2_with fail
      go_loopw [58] (fun i wr => ∃ j : Nat, j ≤ n1 ∧ i = .int .i64 j ∧ ChainSt wr w.heap.size p k ∧ Below w.heap.size w wr) (fun i _ => n1 - (intOf i).toNat)
      case atStart => exact ⟨0, by omega, rfl, Hst.out, Hb6.out⟩
      case round =>
        obtain ⟨j, hj, rfl, hst7, hb7⟩ := hrel
        clear hlt
        by_cases hjn : j < n1
        · obtain ⟨ad, u0, hA, _, hu0, hce⟩ := (HR.out.below hb7).at_ hjn
          subst hA
          obtain ⟨x, hxk, rfl⟩ : ∃ x, z1[j]? = some x ∧ u0 = .int .i64 x := by
            rw [List.getElem?_map, Option.map_eq_some_iff] at hu0
            obtain ⟨x, h1, h2⟩ := hu0
            exact ⟨x, h1, h2.symm⟩
          obtain ⟨d, hd, q1⟩ := cut_at x 100 (by omega) (by omega)
          have q1' : wrap64 ((IntKind.u64.wrap x).tmod 100) = (d : Int) := q1
          have Hst7 := Lib.hid hst7
          have Hb7 := Lib.hid hb7
          have Hxk := Lib.hid hxk
          clear hxk hb7 hst7
          clear hu0 q1
          by_cases hj8 : 8 ≤ j
          · have hj8' : (8 : Int) ≤ j := by omega
            obtain ⟨sv7, regs7, base7, z7, h7, hsp7, hr37⟩ := Hst7.out
            obtain ⟨s, hs⟩ : ∃ s : Int, s = base7 + 8 * z7 := ⟨_, rfl⟩
            rw [← hs] at hsp7 hr37
            have hf7 := h7.fit
            obtain ⟨hf1, hf2, hf3, hf4⟩ := hf7
            have hwl : (List.replicate z7 0 ++ chainW (base7 + 8 * (z7 : Int)) k).length = z7 + k := by rw [List.length_append, List.length_replicate, chain_length]
            have hs0 : 0 ≤ s := by omega
            have hs48 : s + 8 * k ≤ 281474976780000 := by omega
            have hsp := h7.sp.1
            rw [hsp7] at hsp
            have h3r : regs7[3]? = some s := by
              have hl3 : 3 < regs7.length := by rw [h7.len]; omega
              rw [← hr37, List.getD_eq_getElem?_getD, List.getElem?_eq_getElem hl3]; rfl
            have hgt : ∀ t : Nat, t < k → (List.replicate z7 0 ++ chainW (base7 + 8 * (z7 : Int)) k)[z7 + t]? = some (if t + 1 < k then s + 8 * ((t : Int) + 1) else 0) := fun t ht => by
              rw [List.getElem?_append_right (by simp), List.length_replicate, Nat.add_sub_cancel_left, chain_get _ _ _ ht, hs]
            have H7 := Lib.hid h7
            have Hsp7 := Lib.hid hsp7
            have Hr37 := Lib.hid hr37
            have Hs := Lib.hid hs
            have Hwl := Lib.hid hwl
            have Hsp := Lib.hid hsp
            have H3r := Lib.hid h3r
            have Hgt := Lib.hid hgt
            clear hgt h3r hsp hwl hs hr37 hsp7 h7
            clear hf4
            go_wp2_with fail
            refine (reg_in H7.out 3 s H3r.out 3 rfl).mono ?_
            rintro e w9 ⟨rfl, rfl⟩
            go_wp2_with fail
            refine (reg_in H7.out 14 s Hsp.out 14 rfl).mono ?_
            rintro e w9 ⟨rfl, rfl⟩
            go_wp2_with fail
            obtain ⟨W7, hW7⟩ : ∃ W7, W7 = wr := ⟨_, rfl⟩
            subst hW7
            go_loopw [16, 17] (fun a i wq => ∃ t : Nat, t ≤ k ∧ i = .int .i64 t ∧ (∃ v, a = .int .u64 v ∧ (t < k → v = s + 8 * t)) ∧ ∃ q, wq = W7.drewN q) (fun _ i _ => k - (intOf i).toNat)
            case atStart => exact ⟨0, by omega, rfl, ⟨s, rfl, by intro _; simp⟩, 0, rfl⟩
            case round =>
              obtain ⟨t4, ht4, rfl, ⟨v, rfl, hv⟩, q, hwr⟩ := hrel
              subst hwr
              by_cases hlt4 : t4 < k
              · have hv' := hv hlt4
                subst hv'
                have hld := Hgt.out t4 hlt4
                have haddr : s + 8 * (t4 : Int) = base7 + 8 * ((z7 + t4 : Nat) : Int) := by have := Hs.out; omega
                have hcq := H7.out.drewN q
                by_cases hl5 : t4 + 1 < k
                · rw [if_pos hl5] at hld
                  have d1 : (s + 8 * ((t4 : Int) + 1) != s + 8 * t4 + 8) = false := by rw [bne_eq_false_iff_eq]; omega
                  have d2 : (((t4 : Int) + 1) == k) = false := by rw [beq_eq_false_iff_ne]; omega
                  have d3 : (t4 : Int) + 1 < k := by omega
                  have Hld := Lib.hid hld
                  have Haddr := Lib.hid haddr
                  have Hcq := Lib.hid hcq
                  clear hcq haddr hld
                  clear hv
                  go_wp2_with fail
                  refine (load_in Hcq.out (z7 + t4) _ Hld.out _ Haddr.out).mono ?_
                  rintro e w10 ⟨rfl, q2, rfl⟩
                  go_wp2_with fail
                  exact ⟨⟨t4 + 1, by omega, by go_num, ⟨_, rfl, by intro _; simp⟩, q + q2, rfl⟩, by simp [intOf]; omega⟩
                · rw [if_neg hl5] at hld
                  have d2 : (((t4 : Int) + 1) == k) = true := by rw [beq_iff_eq]; omega
                  have d3 : ¬ (t4 : Int) + 1 < k := by omega
                  have Hld := Lib.hid hld
                  have Haddr := Lib.hid haddr
                  have Hcq := Lib.hid hcq
                  clear hcq haddr hld
                  clear hv
                  go_wp2_with fail
                  refine (load_in Hcq.out (z7 + t4) _ Hld.out _ Haddr.out).mono ?_
                  rintro e w10 ⟨rfl, q2, rfl⟩
                  go_wp2_with fail
                  exact ⟨⟨t4 + 1, by omega, by go_num, ⟨_, rfl, by intro h; omega⟩, q + q2, rfl⟩, by simp [intOf]; omega⟩
              · go_wp2_with fail
                go_ret
                exact ⟨rfl, below_drewN Hb7.out q⟩
          · obtain ⟨sv7, regs7, base7, z7, h7, hsp7, hr37⟩ := Hst7.out
            have hf7 := h7.fit
            obtain ⟨hf1, hf2, hf3, hf4⟩ := hf7
            obtain ⟨N, hN⟩ : ∃ N : Nat, 8 * (k : Int) + 8 * d = N := ⟨8 * k + 8 * d, by omega⟩
            have hwl : (List.replicate z7 0 ++ chainW (base7 + 8 * (z7 : Int)) k).length = z7 + k := by rw [List.length_append, List.length_replicate, chain_length]
            obtain ⟨n, hn⟩ : ∃ n, n = 8 * (List.replicate z7 0 ++ chainW (base7 + 8 * (z7 : Int)) k).length := ⟨_, rfl⟩
            have hn2 : (n : Int) = 8 * z7 + 8 * k := by omega
            have hn65 : n ≤ 65536 := by omega
            obtain ⟨s, hs⟩ : ∃ s : Int, s = base7 + 8 * z7 := ⟨_, rfl⟩
            rw [← hs] at hsp7 hr37
            have hs0 : 0 ≤ s := by omega
            have hsE : base7 + n = s + 8 * k := by omega
            have hs48 : s ≤ 281474976780000 := by omega
            have hsp := h7.sp
            rw [hsp7] at hsp
            have H7 := Lib.hid h7
            have Hsp7 := Lib.hid hsp7
            have Hr37 := Lib.hid hr37
            have Hn := Lib.hid hn
            have Hwl := Lib.hid hwl
            have Hsp := Lib.hid hsp
            have Hs := Lib.hid hs
            have Hn2 := Lib.hid hn2
            clear hn2 hs hsp hwl hn hr37 hsp7 h7
            clear hf4
            go_wp2_with fail
            refine (stack_in H7.out).mono ?_
            rintro e w8 ⟨tv, rfl, hown8, hb8⟩
            rw [← Hn.out] at hown8
            obtain ⟨A8, c8, rfl, _, hc8, _⟩ := own_any hown8
            unfold maxLen at hc8
            have h8 := H7.out.below hb8
            have hb8' := Hb7.out.trans (hb8.mono H7.out.loLt)
            have H8 := Lib.hid h8
            have Hb8' := Lib.hid hb8'
            clear hb8' h8
            clear hb8 hown8
            go_wp2_with fail
            refine (reg_in H8.out 14 s Hsp.out.1 14 rfl).mono ?_
            rintro e w9 ⟨rfl, rfl⟩
            go_wp2_with fail
            obtain ⟨M, hM⟩ : ∃ M, M = w8.heap.size := ⟨_, rfl⟩
            have hMl : M ≤ w8.heap.size := by omega
            have HM := Lib.hid hM
            clear hM
            go_loopw [12, 15] (fun v a wq => ∃ t : Nat, t ≤ k ∧ a = .int .u64 (s + 8 * t) ∧ wq.ownsRow M 29 1 v t ((placesW s t).map (Value.int .u64)) ∧ Below M w8 wq) (fun _ a _ => (s + 8 * k - intOf a).toNat)
            case atStart => exact ⟨0, by omega, by simp, World.ownsRow_nil _ _ _ _, Below.refl _ _⟩
            case round =>
              obtain ⟨t3, ht3, rfl, hown, hbq⟩ := hrel
              by_cases hlt3 : t3 < k
              · have hsq := hbq.size
                have hlt4 : s + 8 * (t3 : Int) < s + 8 * k := by omega
                go_wp2_with (first
                  | (at_builtin
                     refine wpList_append_any _ rfl (.tmp 89) (.tmp 91) _ rfl M 29 i0 _ 1 8 Try.underlying32 hi0 hz0 hz1 hz2 rfl (by omega) _ t3 _ rfl (hown.alloc _) (wr.heap.size + 1) (some ⟨wr.heap.size, 0, none⟩) 1 1 [.int .u64 (s + 8 * t3)] rfl (Reads.new1 _ _ _) ?c1 ?c2 ?c3 ?c4 ?_
                     case c1 => intro u hu; simp only [List.mem_singleton] at hu; subst hu; rfl
                     case c2 => simp only [maxLen]; omega
                     case c3 => omega
                     case c4 => simp; omega
                     intro v9 w9 hown9 hg9 hat9))
                have hb9 := (hbq.alloc (by omega) (.cells #[.int .u64 (s + 8 * (t3 : Int))] 29)).grown hg9 (by simp; omega) (fun g e => (hown.lt g e).1)
                refine ⟨⟨t3 + 1, by omega, ?_, ?_, hb9⟩, by simp [intOf]; omega⟩
                · have e : s + 8 * (t3 : Int) + 8 = s + 8 * ((t3 + 1 : Nat) : Int) := by omega
                  first | rw [e] | (congr 1; omega)
                · rw [places_snoc, List.map_append]
                  exact hown9
              · obtain rfl : t3 = k := by omega
                obtain ⟨gw, cw, rfl, _, _, hcw1, hcw2⟩ := own_form hown hk0
                have hbq' := hbq
                rw [HM.out] at hbq'
                have hbqw := Hb8'.out.trans (hbq'.mono H8.out.loLt)
                have Hown := Lib.hid hown
                have Hbq' := Lib.hid hbq'
                have Hbqw := Lib.hid hbqw
                clear hbqw hbq' hown
                clear hbq
                go_wp2_with fail
                obtain ⟨y, hy⟩ : ∃ y, y = IntKind.u64.wrap (((j : Int) + 2) * 1048576 + N - (base7 + 8 * (List.replicate z7 0 ++ chainW (base7 + 8 * (z7 : Int)) t3).length)) := ⟨_, rfl⟩
                obtain ⟨E, hE⟩ : ∃ E : Int, E = base7 + 8 * (List.replicate z7 0 ++ chainW (base7 + 8 * (z7 : Int)) t3).length := ⟨_, rfl⟩
                have hE2 : E = s + 8 * t3 := by have := Hwl.out; have := Hs.out; omega
                obtain ⟨s', hs'⟩ : ∃ s' : Int, s' = ((j : Int) + 2) * 1048576 + 8 * d := ⟨_, rfl⟩
                have hsy : (s + y) % 18446744073709551616 = s' := by rw [hy, ← hE, hE2, IntKind.wrap_u64]; omega
                have hm9 : MayP (((j : Int) + 2) * 1048576) N := by unfold MayP; omega
                have h10 := (H8.out.below Hbq'.out).below ((Below.refl wr.heap.size wr).alloc (Nat.le_refl _) (.cells #[.int .i64 3] 3))
                have hrw := Reads.of_own (Hown.out.alloc (.cells #[.int .i64 3] 3))
                have hrr : Reads (wr.alloc (.cells #[.int .i64 3] 3)) (wr.alloc (.cells #[.int .i64 3] 3)).heap.size 1 (some ⟨wr.heap.size, 0, none⟩) 1 (([3] : List Int).map (Value.int .i64)) := by
                  rw [World.size_alloc]; exact Reads.new1 _ _ _
                have hb10 := Hbqw.out.alloc (by have := (H8.out.below Hbq'.out).loLt; exact this) (.cells #[.int .i64 3] 3)
                have hpw : p < wr.heap.size := (H8.out.below Hbq'.out).lt
                have Hy := Lib.hid hy
                have HE := Lib.hid hE
                have HE2 := Lib.hid hE2
                have Hs' := Lib.hid hs'
                have Hsy := Lib.hid hsy
                have Hm9 := Lib.hid hm9
                have H10 := Lib.hid h10
                have Hrw := Lib.hid hrw
                have Hrr := Lib.hid hrr
                have Hb10 := Lib.hid hb10
                clear hb10 hrr hrw h10 hm9 hsy hs' hE2 hE hy
                refine (move_any H10.out (((j : Int) + 2) * 1048576) N (by unfold U64; omega) z7 t3 Hwl.out (by have := Hsp7.out; have := Hs.out; omega) (by omega) (by omega) y Hy.out _ (Nat.le_refl _) _ t3 cw (placesW s t3) Hrw.out (by simp [placesW]) hcw1 (by omega) (by
                  intro a ha
                  obtain ⟨i, hi, rfl⟩ := List.mem_map.1 ha
                  have := List.mem_range.1 hi
                  unfold U64; omega) _ 1 1 [3] Hrr.out rfl (Nat.le_refl _) (by omega) (by intro ad he; injection he with he; subst he; simp only; omega)).mono ?_
                rintro e w11 hpost
                obtain ⟨rfl, hst11, hb11⟩ : e = .returned (.int .i64 0) ∧ ChainSt w11 w.heap.size p t3 ∧ Below w.heap.size w w11 := by
                  rcases hpost with ⟨_, he, sv', hc, hk, _⟩ | ⟨hno, _⟩
                  · refine ⟨he, ⟨sv', regsW base7 (base7 + 8 * (List.replicate z7 0 ++ chainW (base7 + 8 * (z7 : Int)) t3).length) y [3] regs7 (regs7.getD 14 0), ((j : Int) + 2) * 1048576, d, ?_, ?_, ?_⟩, Hb10.out.trans (H10.out.keepB hk)⟩
                    · have e1 : movedW base7 (base7 + 8 * (List.replicate z7 0 ++ chainW (base7 + 8 * (z7 : Int)) t3).length) y (placesW s t3) (List.replicate z7 0 ++ chainW (base7 + 8 * (z7 : Int)) t3) z7 ((N - 8 * t3) / 8) = List.replicate d 0 ++ chainW (((j : Int) + 2) * 1048576 + 8 * (d : Int)) t3 := by
                        have hd : (N - 8 * t3) / 8 = d := by omega
                        rw [movedW, hd, ← Hs.out, chain_tail Hs.out (by rw [List.length_append, List.length_replicate, chain_length]; have := Hs.out; omega) hf1 Hsy.out (by have := Hs'.out; omega), Hs'.out]
                      rw [e1] at hc
                      exact hc
                    · rw [regsW_sp, Hsp7.out, IntKind.wrap_u64, Hsy.out, Hs'.out]
                    · have hE3 := HE2.out
                      rw [HE.out] at hE3
                      have h3 : (regsW base7 (base7 + 8 * (List.replicate z7 0 ++ chainW (base7 + 8 * (z7 : Int)) t3).length) y [3] regs7 (regs7.getD 14 0)).getD 3 0 = IntKind.u64.wrap (regs7.getD 3 0 + y) := by
                        show regW base7 (base7 + 8 * (List.replicate z7 0 ++ chainW (base7 + 8 * (z7 : Int)) t3).length) y [3] regs7 (regs7.getD 14 0) 3 = _
                        rw [regW, if_neg (by omega), if_pos ⟨by simp, by rw [Hr37.out]; have := Hs.out; omega, by rw [Hr37.out]; omega⟩]
                      rw [h3, Hr37.out, IntKind.wrap_u64, Hsy.out, Hs'.out]
                  · refine absurd ⟨?_, ?_, Hm9.out⟩ hno
                    · intro a ha
                      obtain ⟨i, hi, rfl⟩ := List.mem_map.1 ha
                      have := List.mem_range.1 hi
                      have hE3 := HE2.out
                      rw [HE.out] at hE3
                      have := Hs.out
                      rw [Hsp7.out]
                      unfold okA
                      omega
                    · intro r hr
                      simp only [List.mem_singleton] at hr
                      omega
                have Hst11 := Lib.hid hst11
                have Hb11 := Lib.hid hb11
                clear hb11 hst11
                clear hpost
                go_wp2_with fail
                exact ⟨⟨j + 1, by omega, by go_num, Hst11.out, Hb11.out⟩, by simp [intOf]; omega⟩
        · obtain ⟨sv7, regs7, base7, z7, h7, hsp7, hr37⟩ := hst7
          obtain ⟨s, hs⟩ : ∃ s : Int, s = base7 + 8 * z7 := ⟨_, rfl⟩
          rw [← hs] at hsp7 hr37
          have hf7 := h7.fit
          obtain ⟨hf1, hf2, hf3, hf4⟩ := hf7
          have hwl : (List.replicate z7 0 ++ chainW (base7 + 8 * (z7 : Int)) k).length = z7 + k := by rw [List.length_append, List.length_replicate, chain_length]
          have hs0 : 0 ≤ s := by omega
          have hs48 : s + 8 * k ≤ 281474976780000 := by omega
          have hsp := h7.sp.1
          rw [hsp7] at hsp
          have h3r : regs7[3]? = some s := by
            have hl3 : 3 < regs7.length := by rw [h7.len]; omega
            rw [← hr37, List.getD_eq_getElem?_getD, List.getElem?_eq_getElem hl3]; rfl
          have hgt : ∀ t : Nat, t < k → (List.replicate z7 0 ++ chainW (base7 + 8 * (z7 : Int)) k)[z7 + t]? = some (if t + 1 < k then s + 8 * ((t : Int) + 1) else 0) := fun t ht => by
            rw [List.getElem?_append_right (by simp), List.length_replicate, Nat.add_sub_cancel_left, chain_get _ _ _ ht, hs]
          have H7 := Lib.hid h7
          have Hsp7 := Lib.hid hsp7
          have Hr37 := Lib.hid hr37
          have Hs := Lib.hid hs
          have Hwl := Lib.hid hwl
          have Hsp := Lib.hid hsp
          have H3r := Lib.hid h3r
          have Hgt := Lib.hid hgt
          clear hgt h3r hsp hwl hs hr37 hsp7 h7
          clear hf4
          go_wp2_with fail
          refine (reg_in H7.out 3 s H3r.out 3 rfl).mono ?_
          rintro e w9 ⟨rfl, rfl⟩
          go_wp2_with fail
          refine (reg_in H7.out 14 s Hsp.out 14 rfl).mono ?_
          rintro e w9 ⟨rfl, rfl⟩
          go_wp2_with fail
          obtain ⟨W7, hW7⟩ : ∃ W7, W7 = wr := ⟨_, rfl⟩
          subst hW7
          go_loopw [16, 17] (fun a i wq => ∃ t : Nat, t ≤ k ∧ i = .int .i64 t ∧ (∃ v, a = .int .u64 v ∧ (t < k → v = s + 8 * t)) ∧ ∃ q, wq = W7.drewN q) (fun _ i _ => k - (intOf i).toNat)
          case atStart => exact ⟨0, by omega, rfl, ⟨s, rfl, by intro _; simp⟩, 0, rfl⟩
          case round =>
            obtain ⟨t4, ht4, rfl, ⟨v, rfl, hv⟩, q, hwr⟩ := hrel
            subst hwr
            by_cases hlt4 : t4 < k
            · have hv' := hv hlt4
              subst hv'
              have hld := Hgt.out t4 hlt4
              have haddr : s + 8 * (t4 : Int) = base7 + 8 * ((z7 + t4 : Nat) : Int) := by have := Hs.out; omega
              have hcq := H7.out.drewN q
              by_cases hl5 : t4 + 1 < k
              · rw [if_pos hl5] at hld
                have d1 : (s + 8 * ((t4 : Int) + 1) != s + 8 * t4 + 8) = false := by rw [bne_eq_false_iff_eq]; omega
                have d2 : (((t4 : Int) + 1) == k) = false := by rw [beq_eq_false_iff_ne]; omega
                have d3 : (t4 : Int) + 1 < k := by omega
                have Hld := Lib.hid hld
                have Haddr := Lib.hid haddr
                have Hcq := Lib.hid hcq
                clear hcq haddr hld
                clear hv
                go_wp2_with fail
                refine (load_in Hcq.out (z7 + t4) _ Hld.out _ Haddr.out).mono ?_
                rintro e w10 ⟨rfl, q2, rfl⟩
                go_wp2_with fail
                exact ⟨⟨t4 + 1, by omega, by go_num, ⟨_, rfl, by intro _; simp⟩, q + q2, rfl⟩, by simp [intOf]; omega⟩
              · rw [if_neg hl5] at hld
                have d2 : (((t4 : Int) + 1) == k) = true := by rw [beq_iff_eq]; omega
                have d3 : ¬ (t4 : Int) + 1 < k := by omega
                have Hld := Lib.hid hld
                have Haddr := Lib.hid haddr
                have Hcq := Lib.hid hcq
                clear hcq haddr hld
                clear hv
                go_wp2_with fail
                refine (load_in Hcq.out (z7 + t4) _ Hld.out _ Haddr.out).mono ?_
                rintro e w10 ⟨rfl, q2, rfl⟩
                go_wp2_with fail
                exact ⟨⟨t4 + 1, by omega, by go_num, ⟨_, rfl, by intro h; omega⟩, q + q2, rfl⟩, by simp [intOf]; omega⟩
            · go_wp2_with fail
              go_ret
              exact ⟨rfl, below_drewN hb7 q⟩
end Go.Proofs.Ytndmhnmclogpcaa
