/- What is answered ahead of the laws of nodes in a line. No condition. -/
import Derived.Test.YtncpehhfjkncoaaLinRingP
import Derived.Test.YtncpehhfjkncoaaIrRight
set_option linter.unusedVariables false
set_option linter.unusedSimpArgs false
namespace Go.Proofs.Ytncpehhfjkncoaa
open Go.RowKit

theorem infoKindL : (Try.prog.info? 79).map (fun i => (i.zero, i.size, i.bytes)) = some (some (.int .u8 0), 1, 1) := by kernel_rfl
def kzero (n : Nat) : Array Value := madeCells #[.int .u8 0] n
theorem kzero_list (n : Nat) : (kzero n).toList = (List.replicate n (0 : Int)).map (Value.int .u8) := by
  unfold kzero
  rw [toList_madeCells_one]; simp
theorem nums_kzero {w : World} {K n : Nat} {t : TypeId} (h : Blk w K t (kzero n)) (hn : n ≤ maxLen) : NumsAt .u8 w w.heap.size (.slice (some ⟨K, 0, none⟩) n n) (List.replicate n 0) :=
  ⟨_, _, _, rfl, Nat.le_refl _, hn, by simp, Reads.of_blk h (kzero_list n) (by simp)⟩
theorem make_kinds (n : Nat) (hn : n ≤ 1000000) (W : World) : (Instr.makeSlice 44 (.int .i64 (n : Int)) (.int .i64 (n : Int))).run Try.prog W = .ok (.slice (some ⟨W.heap.size, 0, none⟩) n n) (W.alloc (.cells (kzero n) 79)) := by
  obtain ⟨ik, hik, hkz0, hkz1, hkz2⟩ := info_parts infoKindL
  have h := run_make_rowN (P := Try.prog) 44 79 ik _ Try.underlying44 hik hkz0 .i64 .i64 n n (Nat.le_refl _) (by rw [hkz2]; omega) (by omega) W
  rw [hkz1, Nat.mul_one] at h
  exact h
theorem nums_nil (k : IntKind) (w : World) (B : Nat) : NumsAt k w B (.slice none 0 0) [] := ⟨none, 0, 0, rfl, Nat.le_refl _, by unfold maxLen; omega, rfl, Reads.none_⟩
def grL : GraphD := ⟨[], List.replicate 16 0, 0, [], false, -1, [ndR (-1)], 0⟩
set_option maxRecDepth 100000 in
set_option maxHeartbeats 4000000 in
theorem inline_one (w : World) (pv kv iv nv : Value) (hN : RowsAt 12 NodeAt w w.heap.size nv [ndR (-1)]) :
    Calls Try.prog 11 #[.agg (gcells grL pv kv iv nv).toArray] w fun e w' => e = .returned (.bool true) ∧ Below w.heap.size w w' := by
  obtain ⟨NA, nc, rfl, hnc, _⟩ := hN.slice
  obtain ⟨K, hK⟩ : ∃ K, ([ndR (-1)] : List NodeD).length = K := ⟨_, rfl⟩
  have hK1 : K = 1 := hK.symm
  have hK0 : 0 < K := by omega
  have hKl : K ≤ 1 := by omega
  simp only [hK] at hnc hN
  rw [show (gcells grL pv kv iv (.slice NA ([ndR (-1)] : List NodeD).length nc)) = gcells grL pv kv iv (.slice NA K nc) by rw [hK]]
  have hb := (Below.refl w.heap.size w).alloc (Nat.le_refl _) (.cells #[pv, kv, .int .i64 0, iv, .bool false, .int .i64 (-1), .slice NA K nc, .int .i64 0] 48)
  have hB := Blk.new w 48 #[pv, kv, .int .i64 0, iv, .bool false, .int .i64 (-1), .slice NA K nc, .int .i64 0]
  have hN' := hN
  have kb6 := Blk.cell hB 6
  have kb7 := Blk.cell hB 7
  simp only [List.getElem?_toArray, List.getElem?_cons_zero, List.getElem?_cons_succ] at kb6 kb7
  simp only [gcells, grL]
  have HK := Lib.hid hK
  have HK1 := Lib.hid hK1
  have HN := Lib.hid hN
  have Hb := Lib.hid hb
  have HB := Lib.hid hB
  clear hB hb hN hK1 hK
  go_enter Try.func11, Try.ntmps11
  go_wp2_with fail
  go_loopg [11] K (fun gk iv wr => ∃ j : Nat, j + gk = K ∧ iv = .int .i64 j ∧ Hid (Below w.heap.size w wr))
  case atStart => exact ⟨0, by omega, rfl, Hb⟩
  case round =>
    obtain ⟨j, hj, rfl, hbj⟩ := hrel
    by_cases hjK : j < K
    · obtain rfl : j = 0 := by omega
      obtain ⟨ad, cs, hA, _, _, _, hNode, n0, nj⟩ := RowsAt.at_ (hN'.keep (fun p hp => hbj.out.cell hp) (fun _ _ h => h.keep fun p hp => hbj.out.cell hp)) (k := 0) (x := ndR (-1)) rfl
      obtain ⟨av, rfl, hav⟩ := hNode
      obtain ⟨AA, ac, rfl, _⟩ := hav.slice
      subst hA
      have c0 := n0 _ rfl
      have e0 : ad.add (0 * 12) = ad := by rw [Nat.zero_mul]; first | rfl | simp [Addr.add]
      have c1 := nj 1 _ (by omega) rfl
      have c2 := nj 2 _ (by omega) rfl
      have c3 := nj 3 _ (by omega) rfl
      have c4 := nj 4 _ (by omega) rfl
      have c5 := nj 5 _ (by omega) rfl
      have c6 := nj 6 _ (by omega) rfl
      have c7 := nj 7 _ (by omega) rfl
      have c8 := nj 8 _ (by omega) rfl
      have c9 := nj 9 _ (by omega) rfl
      have c10 := nj 10 _ (by omega) rfl
      have c11 := nj 11 _ (by omega) rfl
      rw [e0] at c0 c1 c2 c3 c4 c5 c6 c7 c8 c9 c10 c11
      simp only [ndR] at c0 c1 c2 c3 c4 c5 c6 c7 c8 c9 c10 c11
      have hbj2 := hbj.out.alloc hbj.out.size (.cells (ncells (ndR (-1)) (.slice AA ([] : List Int).length ac)).toArray 52)
      have hX := Blk.new wr 52 (ncells (ndR (-1)) (.slice AA ([] : List Int).length ac)).toArray
      simp only [ncells, ndR] at hX hbj2
      have kx0 := Blk.cell hX 0
      have kx10 := Blk.cell hX 10
      simp only [List.getElem?_toArray, List.getElem?_cons_zero, List.getElem?_cons_succ] at kx0 kx10
      clear n0 nj
      have Hav := Lib.hid hav
      have HX := Lib.hid hX
      have Hbj2 := Lib.hid hbj2
      have He0 := Lib.hid e0
      clear e0 hbj2 hX hav
      go_wp2_with fail
      go_roundg (gk - 1)
      case measure => omega
      case rel => exact ⟨1, by omega, rfl, Hbj2⟩
    · go_wp2_with fail
      go_ret
      exact ⟨rfl, hbj.out⟩
set_option maxRecDepth 100000 in
set_option maxHeartbeats 4000000 in
theorem first_any (w : World) : Calls Try.prog 5 #[] w fun e w' => e = .returned (.bool true) ∧ Below w.heap.size w w' := by
  have hmk : ∀ W : World, (Instr.makeSlice 44 (.int .i64 16) (.int .i64 16)).run Try.prog W = .ok (.slice (some ⟨W.heap.size, 0, none⟩) 16 16) (W.alloc (.cells (kzero 16) 79)) := make_kinds 16 (by omega)
  obtain ⟨ka, hka⟩ : ∃ ka, ka = kzero 16 := ⟨_, rfl⟩
  obtain ⟨na, hna⟩ : ∃ na : Array Value, na = (ncells (nopD 2) (.slice none 0 0) ++ ncells (ndR (-1)) (.slice none 0 0) ++ ncells (nopD 1) (.slice none 0 0)).toArray := ⟨_, rfl⟩
  obtain ⟨H, hH⟩ : ∃ H, H = w.heap.size := ⟨_, rfl⟩
  obtain ⟨ga, hga⟩ : ∃ ga : Array Value, ga = (gcells grF (.slice none 0 0) (.slice (some ⟨H, 0, none⟩) 16 16) (.slice none 0 0) (.slice (some ⟨H + 1, 0, none⟩) 3 3)).toArray := ⟨_, rfl⟩
  have hK := (((Blk.new w 79 ka).alloc (.cells na 52)).alloc (.cells ga 48))
  have hN := ((Blk.new2 w (.cells ka 79) 52 na).alloc (.cells ga 48))
  have hG := (Blk.new ((w.alloc (.cells ka 79)).alloc (.cells na 52)) 48 ga)
  have hb := (((Below.refl w.heap.size w).alloc (Nat.le_refl _) (.cells ka 79)).alloc (by simp) (.cells na 52)).alloc (by simp; omega) (.cells ga 48)
  simp only [World.size_alloc] at hG
  obtain ⟨V, hV⟩ : ∃ V, V = ((w.alloc (.cells ka 79)).alloc (.cells na 52)).alloc (.cells ga 48) := ⟨_, rfl⟩
  rw [← hV] at hK hN hG hb
  rw [← hH] at hK hN hG
  have hgs : GraphsAt V V.heap.size (.slice (some ⟨H + 1 + 1, 0, none⟩) 1 1) [grF] := by
    refine ⟨_, _, _, [gcells grF (.slice none 0 0) (.slice (some ⟨H, 0, none⟩) 16 16) (.slice none 0 0) (.slice (some ⟨H + 1, 0, none⟩) 3 3)], rfl, Nat.le_refl _, by unfold maxLen; omega, rfl, rfl, by simp [gcells], Reads.of_blk hG (by rw [hga]; simp) (by simp [gcells]), fun i z hz => ?_⟩
    match i, hz with
    | 0, hz =>
      simp only [List.getElem?_cons_zero, Option.some.injEq] at hz
      subst hz
      refine ⟨_, rfl, _, _, _, _, rfl, nums_nil _ _ _, nums_kzero (by rw [← hka]; exact hK) (by unfold maxLen; omega), nums_nil _ _ _, ?_⟩
      refine ⟨_, _, _, [ncells (nopD 2) (.slice none 0 0), ncells (ndR (-1)) (.slice none 0 0), ncells (nopD 1) (.slice none 0 0)], rfl, Nat.le_refl _, by unfold maxLen; omega, rfl, rfl, by simp [ncells], Reads.of_blk hN (by rw [hna]; simp) (by simp [ncells]), fun i z hz => ?_⟩
      match i, hz with
      | 0, hz =>
        simp only [grF, List.getElem?_cons_zero, Option.some.injEq] at hz
        subst hz
        exact ⟨_, rfl, _, rfl, nums_nil _ _ _⟩
      | 1, hz =>
        simp only [grF, List.getElem?_cons_zero, List.getElem?_cons_succ, Option.some.injEq] at hz
        subst hz
        exact ⟨_, rfl, _, rfl, nums_nil _ _ _⟩
      | 2, hz =>
        simp only [grF, List.getElem?_cons_zero, List.getElem?_cons_succ, Option.some.injEq] at hz
        subst hz
        exact ⟨_, rfl, _, rfl, nums_nil _ _ _⟩
  have hlin := linear_any hgs (Nat.le_refl _) ⟨by intro g hg; simp at hg; rw [hg]; simp [grF]; refine ⟨?_, ?_, ?_⟩ <;> simp [nopD, ndR], by simp⟩
  have hna' : (#[.int .u8 10, .int .u8 0, .int .i64 0, .int .i64 0, .int .i64 0, .int .i64 0, .int .i64 0, .int .i64 0, .int .u64 0, .slice none 0 0, .int .i64 2, .int .i64 0, .int .u8 12, .int .u8 0, .int .i64 0, .int .i64 0, .int .i64 (-1), .int .i64 0, .int .i64 0, .int .i64 0, .int .u64 0, .slice none 0 0, .int .i64 0, .int .i64 0, .int .u8 10, .int .u8 0, .int .i64 0, .int .i64 0, .int .i64 0, .int .i64 0, .int .i64 0, .int .i64 0, .int .u64 0, .slice none 0 0, .int .i64 1, .int .i64 0] : Array Value) = na := by rw [hna]; rfl
  have hga' : (#[.slice none 0 0, .slice (some ⟨H, 0, none⟩) 16 16, .int .i64 0, .slice none 0 0, .bool false, .int .i64 (-1), .slice (some ⟨H + 1, 0, none⟩) 3 3, .int .i64 0] : Array Value) = ga := by rw [hga]; rfl
  have hzV := hb.size
  have HK := Lib.hid hK
  have HN := Lib.hid hN
  have HG := Lib.hid hG
  have Hb := Lib.hid hb
  have Hgs := Lib.hid hgs
  have Hlin := Lib.hid hlin
  have Hka := Lib.hid hka
  have Hna := Lib.hid hna
  have Hga := Lib.hid hga
  have HV := Lib.hid hV
  have HHH := Lib.hid hH
  have HNA := Lib.hid hna'
  have HGA := Lib.hid hga'
  clear hga' hna' hH hV hga hna hka hlin hgs hb hG hN hK
  go_enter Try.func5, Try.ntmps5
  go_wp2_with fail
  rw [← HHH.out, ← Hka.out, HNA.out, HGA.out, ← HV.out]
  refine Hlin.out.mono ?_
  rintro e w2 ⟨hb2, hpost⟩
  rcases hpost with ⟨h0, _⟩ | ⟨_, pv, css, rfl, hown, hgs2⟩
  · exact absurd errF h0
  rw [List.map_cons, lineF, List.map_nil] at hgs2
  have hbe := Hb.out.trans (hb2.mono hzV)
  obtain ⟨PV, pvc, hpv, _⟩ := own_any hown
  rw [show ([grF] : List GraphD).length = 1 from rfl] at hpv hown
  subst hpv
  have hga2 := hgs2.at_ hown
  have hga3 := (hga2.below ((Below.refl _ w2).alloc (Nat.le_refl _) (.cells #[.slice PV 1 pvc] 24)))
  have hright := right_any hga3 (by simp) ⟨by intro g hg; simp at hg; rw [hg]; simp, by intro g hg; simp at hg; rw [hg]; intro x hx; simp at hx; rw [hx]; simp [ndR]⟩ true
  rw [checkF] at hright
  have hB3 := Blk.new w2 24 #[.slice PV 1 pvc]
  have hb3 := hbe.alloc hbe.size (.cells #[.slice PV 1 pvc] 24)
  obtain ⟨T, hT⟩ : ∃ T, T = w2.heap.size := ⟨_, rfl⟩
  obtain ⟨w3, hw3⟩ : ∃ w3, w3 = w2.alloc (.cells #[.slice PV 1 pvc] 24) := ⟨_, rfl⟩
  rw [← hw3] at hga3 hright hB3 hb3
  rw [← hT] at hB3
  have kb0 := Blk.cell hB3 0
  simp only [List.getElem?_toArray, List.getElem?_cons_zero, List.getElem?_cons_succ] at kb0
  have Hga2 := Lib.hid hga2
  have Hga3 := Lib.hid hga3
  have Hright := Lib.hid hright
  have HB3 := Lib.hid hB3
  have Hb3 := Lib.hid hb3
  have Hgs2 := Lib.hid hgs2
  have Hown := Lib.hid hown
  have Hb2 := Lib.hid hb2
  have Hbe := Lib.hid hbe
  have HT := Lib.hid hT
  have Hw3 := Lib.hid hw3
  clear hw3 hT hbe hb2 hown hgs2 hb3 hB3 hright hga3 hga2
  go_upto_region 2 with fail
  rw [← Hw3.out, ← HT.out]
  go_wp2_with fail
  refine Hright.out.mono ?_
  rintro e w4 ⟨rfl, hb34⟩
  have hsz3 := Hb3.out.size
  have hb4 := Hb3.out.trans (hb34.mono hsz3)
  have hB4 := HB3.out.below hb34 HB3.out.lt
  have hga4 := Hga3.out.keep (w' := w4) (fun p hp => hb34.cell (Nat.lt_of_lt_of_le hp (by rw [Hw3.out]; simp)))
  clear kb0
  have kb0 := Blk.cell hB4 0
  simp only [List.getElem?_toArray, List.getElem?_cons_zero, List.getElem?_cons_succ] at kb0
  obtain ⟨ad, pv5, kv5, iv5, nv5, hA, _, hM⟩ := hga4.at_ (k := 0) rfl
  subst hA
  obtain ⟨PA, pc, hp5, _⟩ := hM.params.slice
  obtain ⟨KA, kc, hk5, _⟩ := hM.kinds.slice
  obtain ⟨IA, ic, hi5, _⟩ := hM.init.slice
  obtain ⟨NA, nc, hn5, _⟩ := hM.nodes.slice
  have hp5 : pv5 = .slice PA 0 pc := hp5
  have hk5 : kv5 = .slice KA 16 kc := hk5
  have hi5 : iv5 = .slice IA 0 ic := hi5
  have hn5 : nv5 = .slice NA 1 nc := hn5
  subst hp5 hk5 hi5 hn5
  have hin := inline_one w4 (.slice PA 0 pc) (.slice KA 16 kc) (.slice IA 0 ic) (.slice NA 1 nc) (hM.nodes.more (B' := w4.heap.size) (by have := hb34.size; rw [Hw3.out] at this; simp at this; omega) fun _ _ h => h.more (by have := hb34.size; rw [Hw3.out] at this; simp at this; omega))
  have e0 : ad.add (0 * 8) = ad := by rw [Nat.zero_mul]; first | rfl | simp [Addr.add]
  rw [e0] at hM
  have m0 := hM.c0
  have m1 := hM.c1
  have m2 := hM.c2
  have m3 := hM.c3
  have m4 := hM.c4
  have m5 := hM.c5
  have m6 := hM.c6
  have m7 := hM.c7
  simp only at m2 m4 m5 m7
  have Hga4 := Lib.hid hga4
  have HB4 := Lib.hid hB4
  have HM := Lib.hid hM
  have Hin := Lib.hid hin
  have Hb4 := Lib.hid hb4
  have Hb34 := Lib.hid hb34
  clear hb34 hb4 hin hM hB4 hga4
  go_wp2_with fail
  refine Hin.out.mono ?_
  rintro e w5 ⟨rfl, hb45⟩
  have hb5 := Hb4.out.trans (hb45.mono Hb4.out.size)
  have Hb45 := Lib.hid hb45
  have Hb5 := Lib.hid hb5
  clear hb5 hb45
  clear m0 m1 m2 m3 m4 m5 m6 m7 kb0
  go_wp2_with fail
  go_ret
  exact ⟨rfl, Hb5.out⟩
end Go.Proofs.Ytncpehhfjkncoaa
