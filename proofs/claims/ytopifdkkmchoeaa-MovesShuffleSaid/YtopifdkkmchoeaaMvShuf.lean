/- The walk of the law MovesShuffle. Conditions: what the law's argument is read as. -/
import Derived.Test.YtopifdkkmchoeaaMvFirst
import Derived.Test.YtopifdkkmchoeaaMvShP
import Derived.Test.YtopifdkkmchoeaaLate
import Derived.Deep.QuietTactic
import Derived.Deep.RegionHeld3
set_option linter.unusedVariables false
set_option linter.unusedSimpArgs false
namespace Go.Proofs.Ytopifdkkmchoeaa
open Go.RowKit

theorem infoInt3 : (Try.prog.info? 3).map (fun i => (i.zero, i.size, i.bytes)) = some (some (.int .i64 0), 1, 8) := by kernel_rfl
def wcells (N : Nat) (W : Int → Int) : List Value := (List.range (N + 1)).map fun j : Nat => .int .i64 (W j)
theorem wcells_len (N : Nat) (W : Int → Int) : (wcells N W).length = N + 1 := by simp [wcells]
theorem wcells_get (N : Nat) (W : Int → Int) (a : Nat) (h : a ≤ N) : (wcells N W)[a]? = some (.int .i64 (W a)) := by
  unfold wcells
  rw [List.getElem?_map, List.getElem?_range (by omega)]; rfl
theorem wcells_set (N : Nat) (W : Int → Int) (a : Nat) (v : Int) : (wcells N W).set a (.int .i64 v) = wcells N (updM W a v) := by
  apply List.ext_getElem?
  intro i
  rw [List.getElem?_set]
  unfold wcells updM
  by_cases hi : i < N + 1
  · simp only [List.getElem?_map, List.getElem?_range hi, List.length_map, List.length_range]
    by_cases e : a = i
    · subst e; simp [hi]
    · simp [e, show ¬ (i : Int) = a by omega]
  · have h2 : (List.range (N + 1))[i]? = none := List.getElem?_eq_none (by simp; omega)
    simp only [List.getElem?_map, h2, List.length_map, List.length_range]
    split
    · rw [if_neg (by omega)]; rfl
    · rfl
def wIni (k : Nat) : Int → Int := fun j => if j < k then 1000 + j else 0
theorem wIni_zero (N : Nat) : (madeCells #[Value.int .i64 0] (N + 1)).toList = wcells N (wIni 0) := by
  rw [toList_madeCells_one]
  apply List.ext_getElem?
  intro i
  unfold wcells wIni
  by_cases hi : i < N + 1
  · simp [hi]; omega
  · rw [List.getElem?_eq_none (by simp; omega), List.getElem?_eq_none (by simp; omega)]
theorem wIni_step (k : Nat) : updM (wIni k) k (1000 + k) = wIni (k + 1) := by
  funext j
  unfold updM wIni
  by_cases e : j = k
  · rw [if_pos e, if_pos (by omega), e]
  · rw [if_neg e]
    by_cases h : j < k
    · rw [if_pos h, if_pos (by omega)]
    · rw [if_neg h, if_neg (by omega)]
theorem shuf_snoc (fs : List Int) (k : Nat) : shufM fs (k + 1) = shufM fs k ++ [((k : Int), fs.getD k 0)] := by simp [shufM, List.range_succ]
theorem shuf_len (fs : List Int) (k : Nat) : (shufM fs k).length = k := by simp [shufM]
def fromM (N : Nat) (z : List Int) : List Int := z.map fun x => IntKind.u64.wrap x % N
theorem fromM_get {N : Nat} {z : List Int} {k : Nat} {x : Int} (h : z[k]? = some x) : (fromM N z).getD k 0 = IntKind.u64.wrap x % N := by
  unfold fromM
  rw [List.getD_eq_getElem?_getD, List.getElem?_map, h]; rfl
theorem wrap_mod (x : Int) (N : Nat) (h0 : 0 < N) (h1 : N ≤ 1000) : IntKind.i64.wrap ((IntKind.u64.wrap x).tmod N) = IntKind.u64.wrap x % N ∧ 0 ≤ IntKind.u64.wrap x % N ∧ IntKind.u64.wrap x % N < N := by
  have h2 : 0 ≤ IntKind.u64.wrap x := by rw [IntKind.wrap_u64]; omega
  have h3 := Int.emod_nonneg (IntKind.u64.wrap x) (show (N : Int) ≠ 0 by omega)
  have h4 := Int.emod_lt_of_pos (IntKind.u64.wrap x) (show 0 < (N : Int) by omega)
  refine ⟨?_, h3, h4⟩
  rw [Int.tmod_eq_emod_of_nonneg h2, IntKind.wrap_i64]
  omega
set_option maxRecDepth 100000 in
set_option maxHeartbeats 4000000 in
theorem walk_MovesShuffle (w : World) (A0 : Option Addr) (n0 c0 : Nat) (z0 : List Int) (r0 : Reads w w.heap.size 1 A0 n0 (z0.map (Value.int .i64))) (l0 : z0.length = n0) (nc0 : n0 ≤ c0) (cm0 : c0 ≤ maxLen) (rc0 : c0 * 8 ≤ 140737488351232) (w0 : ∀ z ∈ z0, (Lit.int .i64 z).wf = true) :
    Calls Try.prog 3 #[.slice A0 n0 c0] w fun e w' => e = .returned (.bool true) ∧ Below w.heap.size w w' := by
  obtain ⟨i0, hi0, hz0, hz1, hz2⟩ := info_parts infoInt3
  obtain ⟨im, him, hmz0, hmz1, hmz2⟩ := info_parts infoMv
  obtain ⟨N, hN30, hNn, hmin⟩ : ∃ N : Nat, N ≤ 30 ∧ N ≤ n0 ∧ (if (30 : Int) < n0 then (30 : Int) else n0) = N := by
    by_cases h : 30 < n0
    · exact ⟨30, by omega, by omega, by rw [if_pos (by omega)]; rfl⟩
    · exact ⟨n0, by omega, by omega, by rw [if_neg (by omega)]⟩
  have hmk : ∀ W : World, (Instr.makeSlice 22 (.int .i64 ((N : Int) + 1)) (.int .i64 ((N : Int) + 1))).run Try.prog W = .ok (.slice (some ⟨W.heap.size, 0, none⟩) (N + 1) (N + 1)) (W.alloc (.cells (madeCells #[.int .i64 0] (N + 1)) 3)) := fun W => by
    have h := run_make_rowN (P := Try.prog) 22 3 i0 _ Try.underlying22 hi0 hz0 .i64 .i64 (N + 1) (N + 1) (Nat.le_refl _) (by rw [hz2]; omega) (by omega) W
    rw [hz1, Nat.mul_one] at h
    exact h
  clear cm0
  have R0 := Lib.hid r0
  have L0 := Lib.hid l0
  have W0 := Lib.hid w0
  clear w0 l0 r0
  go_enter Try.func3, Try.ntmps3
  go_wp2_with fail
  refine (firstM_any w).mono ?_
  rintro e w1 ⟨rfl, hb1⟩
  have hr1 := R0.out.below hb1
  have hB1 := hb1.size
  obtain ⟨Wb, hWb⟩ : ∃ Wb, Wb = w1.heap.size := ⟨_, rfl⟩
  have hW1 := Blk.new w1 3 (madeCells #[.int .i64 0] (N + 1))
  have hb2 := hb1.alloc hB1 (.cells (madeCells #[.int .i64 0] (N + 1)) 3)
  have hO1 := own_of_blk hW1 (base := w.heap.size) (n := N + 1) (size := 1) hB1 (wIni_zero N) (by rw [wcells_len]; omega) (by unfold maxLen; omega)
  rw [← hWb] at hO1
  have hWl : w.heap.size ≤ Wb := by omega
  obtain ⟨V2, hV2⟩ : ∃ V2, V2 = w1.alloc (.cells (madeCells #[.int .i64 0] (N + 1)) 3) := ⟨_, rfl⟩
  rw [← hV2] at hb2 hO1
  have Hb1 := Lib.hid hb1
  have Hr1 := Lib.hid hr1
  have HW1 := Lib.hid hW1
  have Hb2 := Lib.hid hb2
  have HO1 := Lib.hid hO1
  have HWb := Lib.hid hWb
  have HV2 := Lib.hid hV2
  clear hV2 hWb hO1 hb2 hW1 hr1 hb1
  go_upto_region 6 with fail
  rw [← HWb.out, ← HV2.out]
  have Hmin := Lib.hid hmin
  clear hmin
  clear hmk
  go_wp2_with fail
  have hfok : ∀ i, i < N → 0 ≤ (fromM N z0).getD i 0 ∧ (fromM N z0).getD i 0 < N := fun i hi => by
    obtain ⟨x, hx⟩ : ∃ x, z0[i]? = some x := ⟨_, List.getElem?_eq_getElem (by have := L0.out; omega)⟩
    rw [fromM_get hx]
    exact (wrap_mod x N (by omega) (by omega)).2
  have Hfok := Lib.hid hfok
  clear hfok
  go_loopw [4, 6] (fun ov i wr => ∃ (k : Nat) (LA : Option Addr) (lc : Nat), k ≤ N ∧ i = .int .i64 k ∧ ov = .slice LA k lc ∧ wr.ownsRow w.heap.size 26 2 (.slice LA k lc) k (mcells (shufM (fromM N z0) k)) ∧ wr.ownsRow w.heap.size 3 1 (.slice (some ⟨Wb, 0, none⟩) (N + 1) (N + 1)) (N + 1) (wcells N (wIni k)) ∧ Below w.heap.size w wr) (fun _ i _ => N - (intOf i).toNat)
  case atStart => exact ⟨0, none, 0, by omega, rfl, rfl, World.ownsRow_nil _ _ _ _, HO1.out, Hb2.out⟩
  case round =>
    obtain ⟨k, LA, lc, hk, rfl, rfl, hl, hw, hb⟩ := hrel
    have hsz := hb.size
    by_cases hlt : k < N
    · have hltI : (k : Int) < N := by omega
      obtain ⟨x, hx⟩ : ∃ x, z0[k]? = some x := ⟨_, List.getElem?_eq_getElem (by have := L0.out; omega)⟩
      obtain ⟨ad, u0, hA, _, hu0, hce⟩ := (R0.out.below hb).at_ (show k < n0 by omega)
      subst hA
      rw [List.getElem?_map, hx] at hu0
      injection hu0 with hu0
      subst hu0
      obtain ⟨hq, hq0, hq1⟩ := wrap_mod x N (by omega) (by omega)
      have hfg := fromM_get (N := N) hx
      obtain ⟨q, hqq⟩ : ∃ q, IntKind.u64.wrap x % (N : Int) = q := ⟨_, rfl⟩
      rw [hqq] at hq hq0 hq1 hfg
      have hss := shuf_snoc (fromM N z0) k
      rw [hfg] at hss
      have hlA := hl.alloc (.cells #[.int .i64 (k : Int), .int .i64 q] 26)
      have hNew : Reads (wr.alloc (.cells #[.int .i64 (k : Int), .int .i64 q] 26)) (wr.heap.size + 1) 2 (some ⟨wr.heap.size, 0, none⟩) 1 (mcells [((k : Int), q)]) := Reads.newS _ rfl _ _ _ _ _ rfl rfl
      obtain ⟨wcs, hwB⟩ := own_blk hw rfl
      have Hl := Lib.hid hl
      have Hw := Lib.hid hw
      have Hb := Lib.hid hb
      have Hx := Lib.hid hx
      have Hqq := Lib.hid hqq
      have Hfg := Lib.hid hfg
      have Hss := Lib.hid hss
      have HlA := Lib.hid hlA
      have HNew := Lib.hid hNew
      have HwB := Lib.hid hwB
      clear hwB hNew hlA hss hfg hqq hx hb hw hl
      go_upto_region 10 with (first
        | (at_builtin
           refine wpList_append_any _ rfl (.tmp 25) (.tmp 37) _ rfl w.heap.size 26 im _ 2 16 Try.underlying24 him hmz0 hmz1 hmz2 rfl (by omega) (.slice (LA) k lc) k (mcells (shufM (fromM N z0) k)) rfl HlA.out (wr.heap.size + 1) (some ⟨wr.heap.size, 0, none⟩) 1 1 (mcells [((k : Int), q)]) rfl HNew.out ?c1 ?c2 ?c3 ?c4 ?_
           case c1 => exact mcells_one _
           case c2 => unfold maxLen; omega
           case c3 => omega
           case c4 => simp; omega
           intro v7 w7 hown7 hg7 hat7))
      obtain ⟨LA', lc', e7, _, _, _⟩ := own_any hown7
      subst e7
      have hl7 : w7.ownsRow w.heap.size 26 2 (.slice LA' (k + 1) lc') (k + 1) (mcells (shufM (fromM N z0) (k + 1))) := by rw [Hss.out, mcells_append]; exact hown7
      have hw7 := own_kept' (Hw.out.alloc (.cells #[.int .i64 (k : Int), .int .i64 q] 26)) hg7 (fun b e => by
        obtain ⟨cs, hcs⟩ := own_blk HlA.out e
        exact .inr ⟨_, cs, hcs, by decide⟩)
      have hb7 : Below w.heap.size w w7 := (Hb.out.alloc hsz (.cells #[.int .i64 (k : Int), .int .i64 q] 26)).grown hg7 (by simp; omega) (fun b e => (World.ownsRow.lt HlA.out b e).1)
      obtain ⟨wc7, hwB7⟩ := own_blk hw7 rfl
      have cw := hw7.cells (g := Wb) rfl k _ (wcells_get N (wIni k) k hk)
      rw [addr_zero] at cw
      have fw := Blk.frozen hwB7 k
      have hset := own_set_at (u := .int .i64 (1000 + (k : Int))) hw7 (j := k) (by omega)
      rw [wcells_set, wIni_step] at hset
      have hl8 := ownsRow_setCell_other hl7 (a := ⟨Wb, k, none⟩) (own_blk_ne hl7 hwB7 (by decide)) (.int .i64 (1000 + (k : Int)))
      have hb8 := hb7.setCell (p := ⟨Wb, k, none⟩) hWl (.int .i64 (1000 + (k : Int)))
      have Hl7 := Lib.hid hl7
      have Hw7 := Lib.hid hw7
      have Hb7 := Lib.hid hb7
      have HwB7 := Lib.hid hwB7
      have Hset := Lib.hid hset
      have Hl8 := Lib.hid hl8
      have Hb8 := Lib.hid hb8
      clear hb8 hl8 hset hwB7 hb7 hw7 hl7
      clear hown7 hg7 hat7 hce
      go_wp2_with fail
      exact ⟨⟨k + 1, LA', lc', by omega, by go_num, by go_num, Hl8.out, Hset.out, Hb8.out⟩, by simp [intOf]; omega⟩
    · obtain rfl : k = N := by omega
      have hltI : ¬ (k : Int) < k := by omega
      obtain ⟨_, _, e4, hq1, hq2, hrd⟩ := own_any hl
      injection e4 with e4 _ e6
      subst e4 e6
      have hln := line_any LA k lc (shufM (fromM k z0) k) k wr wr.heap.size hrd (shuf_len _ _) hq1 hq2 (by omega) (Nat.le_refl _) (fun m hm => by
        obtain ⟨i, hi, rfl⟩ := shuf_get m hm
        have := Hfok.out i hi
        unfold I64
        simp only
        omega) (shuf_ok Hfok.out)
      obtain ⟨hlw1, hlw2⟩ := shuf_law Hfok.out (wIni k) (fun i hi => by unfold wIni; rw [if_pos (by omega)])
      obtain ⟨out, hout⟩ : ∃ out, lineAll (shufM (fromM k z0) k) k = out := ⟨_, rfl⟩
      rw [hout] at hlw1 hlw2
      have Hl := Lib.hid hl
      have Hw := Lib.hid hw
      have Hb := Lib.hid hb
      have Hrd := Lib.hid hrd
      have Hln := Lib.hid hln
      have Hlw1 := Lib.hid hlw1
      have Hlw2 := Lib.hid hlw2
      clear hlw2 hlw1 hln hrd hb hw hl
      clear hq2
      go_wp2_with fail
      refine Hln.out.mono ?_
      rintro e w3 ⟨hb3, V, x, rfl, hO⟩
      rw [hout] at hO ⊢
      obtain ⟨on, hon⟩ : ∃ on, out.length = on := ⟨_, rfl⟩
      rw [hon] at hO ⊢
      obtain ⟨_, _, e4, ho1, ho2, _⟩ := own_any hO
      injection e4 with e4 _ e6
      subst e4 e6
      have hw3 := own_kept' Hw.out (only_of_below hb3 none) nofun
      have hb3' := Hb.out.trans (hb3.mono hsz)
      have hO3 := own_base hO hsz
      unfold maxLen at ho2
      have Hb3 := Lib.hid hb3
      have HO := Lib.hid hO
      have Hw3 := Lib.hid hw3
      have Hb3' := Lib.hid hb3'
      have HO3 := Lib.hid hO3
      have Hout := Lib.hid hout
      have Hon := Lib.hid hon
      clear hon hout hO3 hb3' hw3 hO hb3
      go_wp2_with fail
      go_loopw [54] (fun i wr => ∃ t : Nat, t ≤ on ∧ i = .int .i64 t ∧ wr.ownsRow w.heap.size 26 2 (.slice V on x) on (mcells out) ∧ wr.ownsRow w.heap.size 3 1 (.slice (some ⟨Wb, 0, none⟩) (k + 1) (k + 1)) (k + 1) (wcells k (execM (wIni k) (out.take t))) ∧ Below w.heap.size w wr) (fun i _ => on - (intOf i).toNat)
      case atStart => exact ⟨0, by omega, rfl, HO3.out, by simpa [execM] using Hw3.out, Hb3'.out⟩
      case round =>
        obtain ⟨t, ht, rfl, hl, hw, hb⟩ := hrel
        have hsz := hb.size
        by_cases hlt : t < on
        · have hltI2 : (t : Int) < on := by omega
          obtain ⟨m, hm⟩ : ∃ m, out[t]? = some m := ⟨_, List.getElem?_eq_getElem (by have := Hon.out; omega)⟩
          obtain ⟨a, b⟩ := m
          obtain ⟨ha0, ha1, hb0, hb1⟩ := Hlw1.out _ (List.mem_of_getElem? hm)
          simp only at ha0 ha1 hb0 hb1
          obtain ⟨_, g, hV, hgw, ⟨gcs, hgB⟩, _⟩ := own_row hl (by omega)
          subst hV
          obtain ⟨q1, q2⟩ := mcells_get _ t _ hm
          have c0 := hl.cells (g := g) rfl _ _ q1
          have c1 := hl.cells (g := g) rfl _ _ q2
          rw [addr_zero] at c0 c1
          obtain ⟨A, rfl⟩ := Int.eq_ofNat_of_zero_le ha0
          obtain ⟨B, rfl⟩ := Int.eq_ofNat_of_zero_le hb0
          have hT := Blk.new wr 26 #[.int .i64 (A : Int), .int .i64 (B : Int)]
          have hal := (Below.refl wr.heap.size wr).alloc (Nat.le_refl _) (.cells #[.int .i64 (A : Int), .int .i64 (B : Int)] 26)
          have hlV := own_kept' hl (only_of_below hal none) nofun
          have hwV := own_kept' hw (only_of_below hal none) nofun
          have hbV := hb.trans (hal.mono hsz)
          obtain ⟨U, hU⟩ : ∃ U, U = wr.alloc (.cells #[.int .i64 (A : Int), .int .i64 (B : Int)] 26) := ⟨_, rfl⟩
          obtain ⟨T, hTT⟩ : ∃ T, T = wr.heap.size := ⟨_, rfl⟩
          rw [← hU] at hT hlV hwV hbV hal
          rw [← hTT] at hT
          obtain ⟨wcs, hwB⟩ := own_blk hwV rfl
          obtain ⟨E, hE⟩ : ∃ E, execM (wIni k) (out.take t) = E := ⟨_, rfl⟩
          rw [hE] at hwV
          have cA := hwV.cells (g := Wb) rfl A _ (wcells_get k E A (by omega))
          have cB := hwV.cells (g := Wb) rfl B _ (wcells_get k E B (by omega))
          rw [addr_zero] at cA cB
          have fA := Blk.frozen hwB A
          have htk : out.take (t + 1) = out.take t ++ [((A : Int), (B : Int))] := by rw [List.take_add_one, hm]; rfl
          have hset := own_set_at (u := .int .i64 (E B)) hwV (j := A) (by omega)
          rw [wcells_set, show updM E A (E B) = execM (wIni k) (out.take (t + 1)) by rw [htk, exec_snoc, hE]] at hset
          have hl8 := ownsRow_setCell_other hlV (a := ⟨Wb, A, none⟩) (own_blk_ne hlV hwB (by decide)) (.int .i64 (E B))
          have hb8 := hbV.setCell (p := ⟨Wb, A, none⟩) hWl (.int .i64 (E B))
          have hA1 : A ≤ k := by omega
          have hB1' : B ≤ k := by omega
          have hTW : T ≠ Wb := fun e => Blk.ne_ hT hwB (by decide) e
          have hT8 := hT.far (p := ⟨Wb, A, none⟩) hTW (.int .i64 (E B))
          have kt0 := Blk.cell hT 0
          have kt1 := Blk.cell hT 1
          simp only [List.getElem?_toArray, List.getElem?_cons_zero, List.getElem?_cons_succ] at kt0 kt1
          have Hl := Lib.hid hl
          have Hw := Lib.hid hw
          have Hb := Lib.hid hb
          have Hm := Lib.hid hm
          have HgB := Lib.hid hgB
          have Q1 := Lib.hid q1
          have Q2 := Lib.hid q2
          have HT := Lib.hid hT
          have Hal := Lib.hid hal
          have HlV := Lib.hid hlV
          have HwV := Lib.hid hwV
          have HbV := Lib.hid hbV
          have HU := Lib.hid hU
          have HTT := Lib.hid hTT
          have HwB := Lib.hid hwB
          have HE := Lib.hid hE
          have Htk := Lib.hid htk
          have Hset := Lib.hid hset
          have Hl8 := Lib.hid hl8
          have Hb8 := Lib.hid hb8
          have HT8 := Lib.hid hT8
          clear hT8 hb8 hl8 hset htk hE hwB hTT hU hbV hwV hlV hal hT q2 q1 hgB hm hb hw hl
          go_upto_region 17 with fail
          rw [← HU.out, ← HTT.out]
          clear c0 c1
          go_upto_region 19 with fail
          have hBk : (B : Int) < (k : Int) + 1 := by omega
          have hAk : (A : Int) < (k : Int) + 1 := by omega
          have cAd : U.drew.cell? ⟨Wb, A, none⟩ = some (.int .i64 (E A)) := cA
          have fAd : U.drew.frozen? ⟨Wb, A, none⟩ = false := fA
          refine wp_region_late (S := fun W => W.cell? ⟨T, 0, none⟩ = some (.int .i64 (A : Int)) ∧ W.cell? ⟨T, 1, none⟩ = some (.int .i64 (B : Int)) ∧ W.cell? ⟨Wb, B, none⟩ = some (.int .i64 (E B))) #[false, false, false, false, false, false, false, false, false, true] (by kernel_rfl) ⟨kt0, kt1, cB⟩ (fun hHeld => ?_)
          refine wpAnyL_take (i := 0) (v := ?_) rfl (by kernel_rfl) (by kernel_rfl) (by kernel_rfl) (by kernel_rfl) (fun _ _ _ h => h) (Or.inl ⟨by rfl, ?_⟩) (by assumption) ?_
          rotate_left
          · intro w hSw; (try dsimp only at hSw); go_simp; try with_reducible rfl
          simp only [Act.put, List.getElem_toArray, List.getElem_cons_zero, List.getElem_cons_succ, List.setIfInBounds_toArray, List.set_cons_zero, List.set_cons_succ]
          refine wpAnyL_take (i := 1) (v := ?_) rfl (by kernel_rfl) (by kernel_rfl) (by kernel_rfl) (by kernel_rfl) (fun _ _ _ h => h) (Or.inl ⟨by rfl, ?_⟩) (by assumption) ?_
          rotate_left
          · intro w hSw; (try dsimp only at hSw); go_simp; try with_reducible rfl
          simp only [Act.put, List.getElem_toArray, List.getElem_cons_zero, List.getElem_cons_succ, List.setIfInBounds_toArray, List.set_cons_zero, List.set_cons_succ]
          refine wpAnyL_take (i := 2) (v := ?_) rfl (by kernel_rfl) (by kernel_rfl) (by kernel_rfl) (by kernel_rfl) (fun _ _ _ h => h) (Or.inl ⟨by rfl, ?_⟩) (by assumption) ?_
          rotate_left
          · intro w hSw; (try dsimp only at hSw); go_simp; try with_reducible rfl
          simp only [Act.put, List.getElem_toArray, List.getElem_cons_zero, List.getElem_cons_succ, List.setIfInBounds_toArray, List.set_cons_zero, List.set_cons_succ]
          refine wpAnyL_take (i := 3) (v := ?_) rfl (by kernel_rfl) (by kernel_rfl) (by kernel_rfl) (by kernel_rfl) (fun _ _ _ h => h) (Or.inl ⟨by rfl, ?_⟩) (by assumption) ?_
          rotate_left
          · intro w hSw; (try dsimp only at hSw); go_simp; try with_reducible rfl
          simp only [Act.put, List.getElem_toArray, List.getElem_cons_zero, List.getElem_cons_succ, List.setIfInBounds_toArray, List.set_cons_zero, List.set_cons_succ]
          refine wpAnyL_take (i := 4) (v := ?_) rfl (by kernel_rfl) (by kernel_rfl) (by kernel_rfl) (by kernel_rfl) (fun _ _ _ h => h) (Or.inl ⟨by rfl, ?_⟩) (by assumption) ?_
          rotate_left
          · intro w hSw; (try dsimp only at hSw); go_simp; try with_reducible rfl
          simp only [Act.put, List.getElem_toArray, List.getElem_cons_zero, List.getElem_cons_succ, List.setIfInBounds_toArray, List.set_cons_zero, List.set_cons_succ]
          refine wpAnyL_take (i := 5) (v := ?_) rfl (by kernel_rfl) (by kernel_rfl) (by kernel_rfl) (by kernel_rfl) (fun _ _ _ h => h) (Or.inl ⟨by rfl, ?_⟩) (by assumption) ?_
          rotate_left
          · intro w hSw; (try dsimp only at hSw); go_simp; try with_reducible rfl
          simp only [Act.put, List.getElem_toArray, List.getElem_cons_zero, List.getElem_cons_succ, List.setIfInBounds_toArray, List.set_cons_zero, List.set_cons_succ]
          refine wpAnyL_take (i := 6) (v := ?_) rfl (by kernel_rfl) (by kernel_rfl) (by kernel_rfl) (by kernel_rfl) (fun _ _ _ h => h) (Or.inl ⟨by rfl, ?_⟩) (by assumption) ?_
          rotate_left
          · intro w hSw; (try dsimp only at hSw); go_simp; try with_reducible rfl
          simp only [Act.put, List.getElem_toArray, List.getElem_cons_zero, List.getElem_cons_succ, List.setIfInBounds_toArray, List.set_cons_zero, List.set_cons_succ]
          refine wpAnyL_take (i := 7) (v := ?_) rfl (by kernel_rfl) (by kernel_rfl) (by kernel_rfl) (by kernel_rfl) (fun _ _ _ h => h) (Or.inl ⟨by rfl, ?_⟩) (by assumption) ?_
          rotate_left
          · intro w hSw; (try dsimp only at hSw); go_simp; try with_reducible rfl
          simp only [Act.put, List.getElem_toArray, List.getElem_cons_zero, List.getElem_cons_succ, List.setIfInBounds_toArray, List.set_cons_zero, List.set_cons_succ]
          refine wpAnyL_take (i := 8) (v := ?_) rfl (by kernel_rfl) (by kernel_rfl) (by kernel_rfl) (by kernel_rfl) (fun _ _ _ h => h) (Or.inl ⟨by rfl, ?_⟩) (by assumption) ?_
          rotate_left
          · intro w hSw; (try dsimp only at hSw); go_simp; try with_reducible rfl
          simp only [Act.put, List.getElem_toArray, List.getElem_cons_zero, List.getElem_cons_succ, List.setIfInBounds_toArray, List.set_cons_zero, List.set_cons_succ]
          refine wpAnyL_ready (rs := [9]) (by kernel_rfl) (by simp) ?_
          refine AllReadyL.last rfl (by kernel_rfl) (fun K hK => ?_) AllReadyL.nil
          go_simp
          refine hK.out _ _ ?_
          clear hK K hHeld
          refine wpAnyL_done (by kernel_rfl) ?_ _
          clear kt0 kt1 cA cB cAd fAd
          go_wp2_with fail
          exact ⟨⟨t + 1, by omega, by go_num, Hl8.out, Hset.out, ⟨Hb8.out.os, Hb8.out.tape, Hb8.out.output, Hb8.out.size, Hb8.out.block⟩⟩, by simp [intOf]; omega⟩
        · obtain rfl : t = on := by omega
          have hltI2 : ¬ (t : Int) < t := by omega
          rw [List.take_of_length_le (by have := Hon.out; omega)] at hw
          obtain ⟨E, hE⟩ : ∃ E, execM (wIni k) out = E := ⟨_, rfl⟩
          have hfin := Hlw2.out
          rw [hE] at hw hfin
          have Hl := Lib.hid hl
          have Hw := Lib.hid hw
          have Hb := Lib.hid hb
          have HE := Lib.hid hE
          have Hfin := Lib.hid hfin
          clear hfin hE hb hw hl
          go_wp2_with fail
          go_loopw [11] (fun i wr => ∃ j : Nat, j ≤ k ∧ i = .int .i64 j ∧ wr.ownsRow w.heap.size 3 1 (.slice (some ⟨Wb, 0, none⟩) (k + 1) (k + 1)) (k + 1) (wcells k E) ∧ Below w.heap.size w wr) (fun i _ => k - (intOf i).toNat)
          case atStart => exact ⟨0, by omega, rfl, Hw.out, Hb.out⟩
          case round =>
            obtain ⟨j, hj, rfl, hw, hb⟩ := hrel
            by_cases hlt : j < k
            · have hltI3 : (j : Int) < k := by omega
              obtain ⟨x, hx⟩ : ∃ x, z0[j]? = some x := ⟨_, List.getElem?_eq_getElem (by have := L0.out; omega)⟩
              obtain ⟨ad, u0, hA, _, hu0, hce⟩ := (R0.out.below hb).at_ (show j < n0 by omega)
              subst hA
              rw [List.getElem?_map, hx] at hu0
              injection hu0 with hu0
              subst hu0
              obtain ⟨hq, hq0, hq1⟩ := wrap_mod x k (by omega) (by omega)
              have hfg := fromM_get (N := k) hx
              obtain ⟨q, hqq⟩ : ∃ q, IntKind.u64.wrap x % (k : Int) = q := ⟨_, rfl⟩
              rw [hqq] at hq hq0 hq1 hfg
              have hEj := Hfin.out j hlt
              rw [hfg] at hEj
              have cw := hw.cells (g := Wb) rfl j _ (wcells_get k E j hj)
              rw [addr_zero, hEj] at cw
              have hjn0 : (j : Int) < n0 := by omega
              have hjk1 : (j : Int) < (k : Int) + 1 := by omega
              have hwr : IntKind.i64.wrap (1000 + q) = 1000 + q := by rw [IntKind.wrap_i64]; omega
              have hwk : IntKind.u64.wrap (k : Int) = k := by rw [IntKind.wrap_u64]; omega
              have hk0 : (k : Int) ≠ 0 := by omega
              have Hw := Lib.hid hw
              have Hb := Lib.hid hb
              have Hx := Lib.hid hx
              have Hqq := Lib.hid hqq
              have Hfg := Lib.hid hfg
              have HEj := Lib.hid hEj
              clear hEj hfg hqq hx hb hw
              go_upto_region 24 with fail
              go_quiet (fail)
              clear cw hce
              go_wp2_with fail
              exact ⟨⟨j + 1, by omega, by go_num, Hw.out, ⟨Hb.out.os, Hb.out.tape, Hb.out.output, Hb.out.size, Hb.out.block⟩⟩, by simp [intOf]; omega⟩
            · have hltI3 : ¬ (j : Int) < k := by omega
              have Hw := Lib.hid hw
              have Hb := Lib.hid hb
              clear hb hw
              go_wp2_with fail
              go_ret
              exact ⟨rfl, Hb.out⟩
end Go.Proofs.Ytopifdkkmchoeaa
