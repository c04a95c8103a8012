/- Walk of ChipWords: words laid in the stack are loaded again. No condition. -/
import Derived.Test.YtnnlhhokljjghaaFirstM
import Derived.Test.YtnnlhhokljjghaaOpen
set_option linter.unusedVariables false
set_option linter.unusedSimpArgs false
namespace Go.Proofs.Ytnnlhhokljjghaa
open Go.RowKit

/-- a word of the stack is another: where, and nowhere else -/
theorem infoU64 : (Try.prog.info? 39).map (fun i => (i.zero, i.size, i.bytes)) = some (some (.int .u64 0), 1, 8) := by kernel_rfl
set_option maxRecDepth 100000 in
set_option maxHeartbeats 4000000 in
theorem walk_ChipWords (w : World) (a0 : Int) (w0 : (Lit.int .i64 a0).wf = true) (A1 : Option Addr) (n1 c1 : Nat) (z1 : List Int) (r1 : Reads w w.heap.size 1 A1 n1 (z1.map (Value.int .i64))) (l1 : z1.length = n1) (nc1 : n1 ≤ c1) (cm1 : c1 ≤ maxLen) (rc1 : c1 * 8 ≤ 140737488351232) (w1 : ∀ z ∈ z1, (Lit.int .i64 z).wf = true) (A2 : Option Addr) (n2 c2 : Nat) (z2 : List Int) (r2 : Reads w w.heap.size 1 A2 n2 (z2.map (Value.int .u64))) (l2 : z2.length = n2) (nc2 : n2 ≤ c2) (cm2 : c2 ≤ maxLen) (rc2 : c2 * 8 ≤ 140737488351232) (w2 : ∀ z ∈ z2, (Lit.int .u64 z).wf = true) :
    Calls Try.prog 5 #[.int .i64 a0, .slice A1 n1 c1, .slice A2 n2 c2] w fun e w' => e = .returned (.bool true) ∧ Below w.heap.size w w' := by
  obtain ⟨i0, hi0, hz0, hz1, hz2⟩ := info_parts infoU64
  have hn1 : n1 ≤ 140737488351232 := by omega
  have hn2 : n2 ≤ 140737488351232 := by omega
  obtain ⟨m, hm⟩ : ∃ m : Nat, IntKind.i64.wrap ((IntKind.u64.wrap a0).tmod 50) = m ∧ m < 50 := by
    have h0 : 0 ≤ IntKind.u64.wrap a0 := by rw [IntKind.wrap_u64]; omega
    refine ⟨((IntKind.u64.wrap a0) % 50).toNat, ?_, by omega⟩
    rw [Int.tmod_eq_emod_of_nonneg h0, IntKind.wrap_i64]
    omega
  obtain ⟨hm, hm5⟩ := hm
  obtain ⟨n, hn⟩ : ∃ n : Nat, n = 1 + m := ⟨_, rfl⟩
  have hmay : MayP 4096 (8 * n) := by unfold MayP; omega
  have hmk : ∀ W : World, (Instr.makeSlice 52 (.int .i64 (n : Int)) (.int .i64 (n : Int))).run Try.prog W = .ok (.slice (some ⟨W.heap.size, 0, none⟩) n n) (W.alloc (.cells (madeCells #[.int .u64 0] n) 39)) := fun W => by
    have h := run_make_rowN (P := Try.prog) 52 39 i0 _ Try.underlying52 hi0 hz0 .i64 .i64 n n (Nat.le_refl _) (by rw [hz2]; omega) (by omega) W
    rw [hz1, Nat.mul_one] at h
    exact h
  have hwz2 : ∀ (k : Nat) (v : Int), z2[k]? = some v → U64 v := fun k v hv => by
    have := w2 v (List.mem_of_getElem? hv)
    exact u64_of_wf this
  have hN : 1 + (m : Int) = n := by omega
  have hn0 : 0 < n ∧ n ≤ 50 := by omega
  obtain ⟨hn0, hn50⟩ := hn0
  have hz8 : (List.replicate (8 * (n : Int) / 8).toNat (0 : Int)) = List.replicate n 0 := by congr 1; omega
  have Hn := Lib.hid hn
  have Hmay := Lib.hid hmay
  have Hr1 := Lib.hid r1
  have Hr2 := Lib.hid r2
  have Hl1 := Lib.hid l1
  have Hl2 := Lib.hid l2
  have Hw1 := Lib.hid w1
  have Hw2 := Lib.hid w2
  have Hwz2 := Lib.hid hwz2
  clear hwz2 w2 w1 l2 l1 r2 r1 hmay hn
  go_enter Try.func5, Try.ntmps5
  go_wp2_with fail
  refine (first_any w).mono ?_
  rintro e u1 ⟨rfl, hb1⟩
  have Hb1 := Lib.hid hb1
  clear hb1
  go_wp2_with fail
  refine (new_in u1 4096 (8 * n) Hmay.out).mono ?_
  rintro e u2 ⟨p, sv, rfl, hC, hb2⟩
  rw [hz8] at hC
  have hB := Blk.new u2 39 (madeCells #[.int .u64 0] n)
  have hL : (madeCells #[.int .u64 0] n) = ((List.replicate n (0 : Int)).map (Value.int .u64)).toArray := by
    apply Array.toList_inj.1
    rw [toList_madeCells_one]
    simp
  rw [hL] at hB
  have hC3 := hC.alloc (.cells (madeCells #[.int .u64 0] n) 39)
  have hb3 := (Hb1.out.trans (hb2.mono Hb1.out.size)).alloc (Nat.le_trans Hb1.out.size hb2.size) (.cells (madeCells #[.int .u64 0] n) 39)
  have hpg : p < u2.heap.size := hC.lt
  rw [hL] at hC3 hb3
  obtain ⟨g, hg⟩ : ∃ g, g = u2.heap.size := ⟨_, rfl⟩
  rw [← hg] at hB hpg
  have hwlo : w.heap.size ≤ u1.heap.size := Hb1.out.size
  have hwg : w.heap.size ≤ g := by rw [hg]; exact Nat.le_trans Hb1.out.size hb2.size
  obtain ⟨lo, hlo⟩ : ∃ lo, lo = u1.heap.size := ⟨_, rfl⟩
  rw [← hlo] at hC3 hwlo
  have HC3 := Lib.hid hC3
  have HB := Lib.hid hB
  have Hb3 := Lib.hid hb3
  have Hwlo := Lib.hid hwlo
  have Hlo := Lib.hid hlo
  have HL := Lib.hid hL
  clear hL hlo hwlo hb3 hB hC3
  clear hC hb2
  go_wp2_with fail
  rw [HL.out, ← hg]
  have Hg := Lib.hid hg
  clear hg
  go_loopw [47] (fun i wr => ∃ j : Nat, j ≤ n1 ∧ i = .int .i64 j ∧ ∃ L : List Int, L.length = n ∧ ChipAt wr lo p (.slice none 0 0) sv (regs0 (4096 + 8 * n)) 0 4096 L ∧ Blk wr g 39 (L.map (Value.int .u64)).toArray ∧ Below w.heap.size w wr) (fun i _ => n1 - (intOf i).toNat)
  case atStart => exact ⟨0, by omega, rfl, _, by simp, HC3.out, HB.out, Hb3.out⟩
  case round =>
    obtain ⟨j, hj, rfl, L, hL, hC, hB, hbw⟩ := hrel
    have HL := Lib.hid hL
    have HC := Lib.hid hC
    have HB := Lib.hid hB
    have Hbw := Lib.hid hbw
    clear hbw hB hC hL
    have hCr := HC.out
    have hBr := HB.out
    have HCr := Lib.hid hCr
    have HBr := Lib.hid hBr
    clear hBr hCr
    by_cases hjn : j < n1
    · obtain ⟨ad, u0, hA, _, hu0, hce⟩ := (Hr1.out.below Hbw.out).at_ hjn
      subst hA
      obtain ⟨x, hxk, rfl⟩ : ∃ x, z1[j]? = some x ∧ u0 = .int .i64 x := by
        rw [List.getElem?_map, Option.map_eq_some_iff] at hu0
        obtain ⟨x, h1, h2⟩ := hu0
        exact ⟨x, h1, h2.symm⟩
      clear hu0 hxk
      by_cases hj40 : 40 ≤ j
      · have hj40' : (40 : Int) ≤ j := by omega
        go_wp2_with fail
        go_loopw [87] (fun i wq => ∃ k : Nat, k ≤ n ∧ i = .int .i64 k ∧ ∃ q, wq = wr.drewN q) (fun i _ => n - (intOf i).toNat)
        case atStart => exact ⟨0, by omega, rfl, 0, rfl⟩
        case round =>
          obtain ⟨k, hk, rfl, q, hwr⟩ := hrel
          subst hwr
          have hCq := HCr.out.drewN q
          have hBq := HBr.out.drewN q
          have HCq := Lib.hid hCq
          clear hCq
          by_cases hkn : k < n
          · have kk := hBq.cell k
            obtain ⟨y, hy⟩ : ∃ y, L[k]? = some y := ⟨_, List.getElem?_eq_getElem (by rw [HL.out]; exact hkn)⟩
            rw [List.getElem?_toArray, List.getElem?_map, hy, Option.map_some] at kk
            have Hy := Lib.hid hy
            clear hy
            clear hBq
            go_wp2_with fail
            refine (load_in HCq.out k y Hy.out (4096 + 8 * (k : Int)) rfl).mono ?_
            rintro e u9 ⟨rfl, q2, rfl⟩
            go_wp2_with fail
            exact ⟨⟨k + 1, by omega, by go_num, q + q2, rfl⟩, by simp [intOf]; omega⟩
          · clear hBq
            go_wp2_with fail
            refine (load_out HCq.out (4096 + 8 * (n : Int)) (by unfold U64; omega) (by intro t ht; rw [HL.out] at ht; omega)).mono ?_
            rintro e u9 ⟨rfl, q2, rfl⟩
            go_wp2_with fail
            refine (load_out (HCr.out.drewN _) 4088 (by unfold U64; omega) (by intro t ht; omega)).mono ?_
            rintro e u9 ⟨rfl, q3, rfl⟩
            go_wp2_with fail
            refine (load_out (HCr.out.drewN _) 4097 (by unfold U64; omega) (by intro t ht; omega)).mono ?_
            rintro e u9 ⟨rfl, q4, rfl⟩
            go_wp2_with fail
            refine (store_out (HCr.out.drewN _) 4100 1 (by unfold U64; omega) (by intro t ht; omega)).mono ?_
            rintro e u9 ⟨rfl, q5, rfl⟩
            go_wp2_with fail
            go_ret
            exact ⟨rfl, below_drewN Hbw.out _⟩
      · have hj40' : ¬ (40 : Int) ≤ j := by omega
        by_cases hj2 : n2 ≤ j
        · have hj2' : (n2 : Int) ≤ j := by omega
          go_wp2_with fail
          go_loopw [87] (fun i wq => ∃ k : Nat, k ≤ n ∧ i = .int .i64 k ∧ ∃ q, wq = wr.drewN q) (fun i _ => n - (intOf i).toNat)
          case atStart => exact ⟨0, by omega, rfl, 0, rfl⟩
          case round =>
            obtain ⟨k, hk, rfl, q, hwr⟩ := hrel
            subst hwr
            have hCq := HCr.out.drewN q
            have hBq := HBr.out.drewN q
            have HCq := Lib.hid hCq
            clear hCq
            by_cases hkn : k < n
            · have kk := hBq.cell k
              obtain ⟨y, hy⟩ : ∃ y, L[k]? = some y := ⟨_, List.getElem?_eq_getElem (by rw [HL.out]; exact hkn)⟩
              rw [List.getElem?_toArray, List.getElem?_map, hy, Option.map_some] at kk
              have Hy := Lib.hid hy
              clear hy
              clear hBq
              go_wp2_with fail
              refine (load_in HCq.out k y Hy.out (4096 + 8 * (k : Int)) rfl).mono ?_
              rintro e u9 ⟨rfl, q2, rfl⟩
              go_wp2_with fail
              exact ⟨⟨k + 1, by omega, by go_num, q + q2, rfl⟩, by simp [intOf]; omega⟩
            · clear hBq
              go_wp2_with fail
              refine (load_out HCq.out (4096 + 8 * (n : Int)) (by unfold U64; omega) (by intro t ht; rw [HL.out] at ht; omega)).mono ?_
              rintro e u9 ⟨rfl, q2, rfl⟩
              go_wp2_with fail
              refine (load_out (HCr.out.drewN _) 4088 (by unfold U64; omega) (by intro t ht; omega)).mono ?_
              rintro e u9 ⟨rfl, q3, rfl⟩
              go_wp2_with fail
              refine (load_out (HCr.out.drewN _) 4097 (by unfold U64; omega) (by intro t ht; omega)).mono ?_
              rintro e u9 ⟨rfl, q4, rfl⟩
              go_wp2_with fail
              refine (store_out (HCr.out.drewN _) 4100 1 (by unfold U64; omega) (by intro t ht; omega)).mono ?_
              rintro e u9 ⟨rfl, q5, rfl⟩
              go_wp2_with fail
              go_ret
              exact ⟨rfl, below_drewN Hbw.out _⟩
        · have hj2' : ¬ (n2 : Int) ≤ j := by omega
          obtain ⟨ad2, u2', hA2, _, hu2, hce2⟩ := (Hr2.out.below Hbw.out).at_ (show j < n2 by omega)
          subst hA2
          obtain ⟨v, hvk, rfl⟩ : ∃ v, z2[j]? = some v ∧ u2' = .int .u64 v := by
            rw [List.getElem?_map, Option.map_eq_some_iff] at hu2
            obtain ⟨v, h1, h2⟩ := hu2
            exact ⟨v, h1, h2.symm⟩
          have hv64 := Hwz2.out j v hvk
          obtain ⟨d, hdn, hdq⟩ : ∃ d : Nat, d < n ∧ IntKind.i64.wrap ((IntKind.u64.wrap x).tmod n) = d := by
            have h0 : 0 ≤ IntKind.u64.wrap x := by rw [IntKind.wrap_u64]; omega
            have h1 := Int.emod_nonneg (IntKind.u64.wrap x) (show (n : Int) ≠ 0 by omega)
            have h2 := Int.emod_lt_of_pos (IntKind.u64.wrap x) (show (0 : Int) < n by omega)
            refine ⟨((IntKind.u64.wrap x) % n).toNat, by omega, ?_⟩
            rw [Int.tmod_eq_emod_of_nonneg h0, IntKind.wrap_i64]
            omega
          have hdL : d < L.length := by rw [HL.out]; exact hdn
          have Hv64 := Lib.hid hv64
          have HdL := Lib.hid hdL
          have Hvk := Lib.hid hvk
          clear hvk hdL hv64
          clear hu2
          go_wp2_with fail
          refine (store_in HC.out d v HdL.out Hv64.out (4096 + 8 * (d : Int)) rfl).mono ?_
          rintro e u7 ⟨rfl, hC7, hK7⟩
          have hB7 := hK7.blk HB.out (own_blk_ne HC.out.row HB.out (by decide))
          have hbw7 := Hbw.out.trans ((HC.out.keepS hK7).mono Hwlo.out)
          have hce7 : u7.cell? (ad2.add j) = some (.int .u64 v) := by
            obtain ⟨ad', u', hA', _, hu', hce'⟩ := (Hr2.out.below hbw7).at_ (show j < n2 by omega)
            injection hA' with hA'
            subst hA'
            rw [List.getElem?_map, Hvk.out] at hu'
            simp only [Option.map_some, Option.some.injEq] at hu'
            rw [← hu'] at hce'
            exact hce'
          have kd := hB7.cell d
          have fd := hB7.frozen d
          rw [List.getElem?_toArray, List.getElem?_map, List.getElem?_eq_getElem HdL.out, Option.map_some] at kd
          have hB8 := hB7.set_ d (.int .u64 v)
          rw [show (L.map (Value.int .u64)).toArray.setIfInBounds d (.int .u64 v) = ((L.set d v).map (Value.int .u64)).toArray by simp [List.map_set]] at hB8
          have hK8 : Keeps (fun i => i = g) u7 (u7.setCell ⟨g, d, none⟩ (.int .u64 v)) := (Keeps.refl (fun i => i = g) u7).setCell (p := ⟨g, d, none⟩) (Or.inl (Eq.refl g)) _
          have hC8 := hC7.keep hK8 (fun e => by omega) (fun k h1 h2 => own_blk_ne HC.out.row HB.out (by decide) (by rw [h1, h2]))
          have hb8 := hbw7.setCell (p := ⟨g, d, none⟩) hwg (.int .u64 v)
          have HC8 := Lib.hid hC8
          have HB8 := Lib.hid hB8
          have Hb8 := Lib.hid hb8
          clear hb8 hB8 hC8
          clear hC7 hK7 hB7 hbw7 hK8 hce2
          go_wp2_with fail
          exact ⟨⟨j + 1, by omega, by go_num, _, by rw [List.length_set]; exact HL.out, HC8.out, HB8.out, Hb8.out⟩, by simp [intOf]; omega⟩
    · go_wp2_with fail
      go_loopw [87] (fun i wq => ∃ k : Nat, k ≤ n ∧ i = .int .i64 k ∧ ∃ q, wq = wr.drewN q) (fun i _ => n - (intOf i).toNat)
      case atStart => exact ⟨0, by omega, rfl, 0, rfl⟩
      case round =>
        obtain ⟨k, hk, rfl, q, hwr⟩ := hrel
        subst hwr
        have hCq := HCr.out.drewN q
        have hBq := HBr.out.drewN q
        have HCq := Lib.hid hCq
        clear hCq
        by_cases hkn : k < n
        · have kk := hBq.cell k
          obtain ⟨y, hy⟩ : ∃ y, L[k]? = some y := ⟨_, List.getElem?_eq_getElem (by rw [HL.out]; exact hkn)⟩
          rw [List.getElem?_toArray, List.getElem?_map, hy, Option.map_some] at kk
          have Hy := Lib.hid hy
          clear hy
          clear hBq
          go_wp2_with fail
          refine (load_in HCq.out k y Hy.out (4096 + 8 * (k : Int)) rfl).mono ?_
          rintro e u9 ⟨rfl, q2, rfl⟩
          go_wp2_with fail
          exact ⟨⟨k + 1, by omega, by go_num, q + q2, rfl⟩, by simp [intOf]; omega⟩
        · clear hBq
          go_wp2_with fail
          refine (load_out HCq.out (4096 + 8 * (n : Int)) (by unfold U64; omega) (by intro t ht; rw [HL.out] at ht; omega)).mono ?_
          rintro e u9 ⟨rfl, q2, rfl⟩
          go_wp2_with fail
          refine (load_out (HCr.out.drewN _) 4088 (by unfold U64; omega) (by intro t ht; omega)).mono ?_
          rintro e u9 ⟨rfl, q3, rfl⟩
          go_wp2_with fail
          refine (load_out (HCr.out.drewN _) 4097 (by unfold U64; omega) (by intro t ht; omega)).mono ?_
          rintro e u9 ⟨rfl, q4, rfl⟩
          go_wp2_with fail
          refine (store_out (HCr.out.drewN _) 4100 1 (by unfold U64; omega) (by intro t ht; omega)).mono ?_
          rintro e u9 ⟨rfl, q5, rfl⟩
          go_wp2_with fail
          go_ret
          exact ⟨rfl, below_drewN Hbw.out _⟩
end Go.Proofs.Ytnnlhhokljjghaa
