/- Walks of ir.Same and what it calls. Conditions: the graphs lie in memory. -/
import Derived.Test.YtfjalejlbegkeaaIrSameP
import Derived.Test.YtfjalejlbegkeaaIrSameG
set_option linter.unusedVariables false
set_option linter.unusedSimpArgs false
namespace Go.Proofs.Ytfjalejlbegkeaa
open Go.RowKit


set_option maxRecDepth 100000 in
set_option maxHeartbeats 4000000 in
theorem eqNodes_any (v1 v2 : Value) (xs ys : List NodeD) (w : World) (B : Nat) (hB : B ≤ w.heap.size) (h1 : RowsAt 12 NodeAt w B v1 xs) (h2 : RowsAt 12 NodeAt w B v2 ys) :
    Calls Try.prog 36 #[v1, v2, .func (.func 37) #[] #[]] w fun e w' => e = .returned (.bool (decide (xs.map ncode = ys.map ncode))) ∧ Below w.heap.size w w' := by
  obtain ⟨A, n, c, css, rfl, hc1, hc2, hl, _⟩ := id h1
  obtain ⟨A', m, c', css', rfl, hc1', hc2', hl', _⟩ := id h2
  unfold maxLen at hc2 hc2'
  by_cases hnm : n = m
  case neg =>
    have hb : ((n : Int) != (m : Int)) = true := by rw [bne_iff_ne]; omega
    have hs : decide (xs.map ncode = ys.map ncode) = false := decide_eq_false fun h => hnm (by rw [← hl, ← hl', map_inj_of (fun _ _ => ncode_inj) h])
    have Hl := Lib.hid hl
    have Hl' := Lib.hid hl'
    have Hnm := Lib.hid hnm
    have HG1 := Lib.hid h1
    have HG2 := Lib.hid h2
    have Hs := Lib.hid hs
    clear hs h2 h1 hnm hl' hl
    go_enter Try.func36, Try.ntmps36
    go_wp2_with fail
    go_ret
    exact ⟨ret_b Hs.out.symm, Below.refl _ _⟩
  subst hnm
  have Hl := Lib.hid hl
  have Hl' := Lib.hid hl'
  have HG1 := Lib.hid h1
  have HG2 := Lib.hid h2
  clear h2 h1 hl' hl
  go_enter Try.func36, Try.ntmps36
  go_wp2_with fail
  go_loopw [17] (fun i wr => ∃ j : Nat, j ≤ n ∧ i = .int .i64 j ∧ Below w.heap.size w wr ∧ Hid (xs.take j = ys.take j)) (fun i _ => n - (intOf i).toNat)
  case atStart => exact ⟨0, by omega, rfl, Below.refl _ _, by show _ = _; simp⟩
  case round =>
    obtain ⟨j, hj, rfl, hbw, ht⟩ := hrel
    have hsz := hbw.size
    by_cases hlt : j < n
    · obtain ⟨x, hxk⟩ : ∃ x, xs[j]? = some x := ⟨_, List.getElem?_eq_getElem (by have := Hl.out; omega)⟩
      obtain ⟨y, hyk⟩ : ∃ y, ys[j]? = some y := ⟨_, List.getElem?_eq_getElem (by have := Hl'.out; omega)⟩
      obtain ⟨ad, cs, hA, hlt1, _, _, ⟨av, hcs, hav⟩, z0, nj⟩ := RowsAt.at_ (HG1.out.keep (fun p hp => (hbw.mono hB).cell hp) fun _ _ h => h.keep fun p hp => (hbw.mono hB).cell hp) hxk
      obtain ⟨ad', cs', hA', hlt2, _, _, ⟨av', hcs', hav'⟩, z0', nj'⟩ := RowsAt.at_ (HG2.out.keep (fun p hp => (hbw.mono hB).cell hp) fun _ _ h => h.keep fun p hp => (hbw.mono hB).cell hp) hyk
      subst hA hcs hA' hcs'
      obtain ⟨AA, aac, hava, _, _, _⟩ := hav.slice
      obtain ⟨AA', aac', hava', _, _, _⟩ := hav'.slice
      subst hava hava'
      have u0 : wr.cell? (ad.add (j * 12)) = some (.int .u8 x.op) := z0 _ rfl
      have v0 : wr.cell? (ad'.add (j * 12)) = some (.int .u8 y.op) := z0' _ rfl
      have u1 := nj 1 _ (by omega) rfl
      have v1 := nj' 1 _ (by omega) rfl
      have u2 := nj 2 _ (by omega) rfl
      have v2 := nj' 2 _ (by omega) rfl
      have u3 := nj 3 _ (by omega) rfl
      have v3 := nj' 3 _ (by omega) rfl
      have u4 := nj 4 _ (by omega) rfl
      have v4 := nj' 4 _ (by omega) rfl
      have u5 := nj 5 _ (by omega) rfl
      have v5 := nj' 5 _ (by omega) rfl
      have u6 := nj 6 _ (by omega) rfl
      have v6 := nj' 6 _ (by omega) rfl
      have u7 := nj 7 _ (by omega) rfl
      have v7 := nj' 7 _ (by omega) rfl
      have u8 := nj 8 _ (by omega) rfl
      have v8 := nj' 8 _ (by omega) rfl
      have u9 := nj 9 _ (by omega) rfl
      have v9 := nj' 9 _ (by omega) rfl
      have u10 := nj 10 _ (by omega) rfl
      have v10 := nj' 10 _ (by omega) rfl
      have u11 := nj 11 _ (by omega) rfl
      have v11 := nj' 11 _ (by omega) rfl
      clear z0 nj z0' nj'
      have l1 : (ad.add (j * 12)).block < wr.heap.size := by rw [block_add]; omega
      have l2 : (ad'.add (j * 12)).block < wr.heap.size := by rw [block_add]; omega
      have j1 : (j : Int) < (n : Int) := by omega
      have j0 : (0 : Int) ≤ (j : Int) := by omega
      have hal1 := (Below.refl wr.heap.size wr).alloc (Nat.le_refl _) (.cells #[.int .u8 x.op, .int .u8 x.byo, .int .i64 x.d, .int .i64 x.e, .int .i64 x.a, .int .i64 x.b, .int .i64 x.f, .int .i64 x.cell, .int .u64 x.imm, .slice AA x.args.length aac, .int .i64 x.next, .int .i64 x.els] 38)
      have hb1 := Blk.new wr 38 #[.int .u8 x.op, .int .u8 x.byo, .int .i64 x.d, .int .i64 x.e, .int .i64 x.a, .int .i64 x.b, .int .i64 x.f, .int .i64 x.cell, .int .u64 x.imm, .slice AA x.args.length aac, .int .i64 x.next, .int .i64 x.els]
      obtain ⟨W1, hW1⟩ : ∃ W1, W1 = wr.alloc (.cells #[.int .u8 x.op, .int .u8 x.byo, .int .i64 x.d, .int .i64 x.e, .int .i64 x.a, .int .i64 x.b, .int .i64 x.f, .int .i64 x.cell, .int .u64 x.imm, .slice AA x.args.length aac, .int .i64 x.next, .int .i64 x.els] 38) := ⟨_, rfl⟩
      obtain ⟨G1, hG1⟩ : ∃ G1, G1 = wr.heap.size := ⟨_, rfl⟩
      rw [← hW1] at hal1 hb1
      rw [← hG1] at hb1
      have hal2 := hal1.alloc hal1.size (.cells #[.int .u8 y.op, .int .u8 y.byo, .int .i64 y.d, .int .i64 y.e, .int .i64 y.a, .int .i64 y.b, .int .i64 y.f, .int .i64 y.cell, .int .u64 y.imm, .slice AA' y.args.length aac', .int .i64 y.next, .int .i64 y.els] 38)
      have hb2 := Blk.new W1 38 #[.int .u8 y.op, .int .u8 y.byo, .int .i64 y.d, .int .i64 y.e, .int .i64 y.a, .int .i64 y.b, .int .i64 y.f, .int .i64 y.cell, .int .u64 y.imm, .slice AA' y.args.length aac', .int .i64 y.next, .int .i64 y.els]
      have hb12 := hb1.alloc (.cells #[.int .u8 y.op, .int .u8 y.byo, .int .i64 y.d, .int .i64 y.e, .int .i64 y.a, .int .i64 y.b, .int .i64 y.f, .int .i64 y.cell, .int .u64 y.imm, .slice AA' y.args.length aac', .int .i64 y.next, .int .i64 y.els] 38)
      obtain ⟨W2, hW2⟩ : ∃ W2, W2 = W1.alloc (.cells #[.int .u8 y.op, .int .u8 y.byo, .int .i64 y.d, .int .i64 y.e, .int .i64 y.a, .int .i64 y.b, .int .i64 y.f, .int .i64 y.cell, .int .u64 y.imm, .slice AA' y.args.length aac', .int .i64 y.next, .int .i64 y.els] 38) := ⟨_, rfl⟩
      obtain ⟨G2, hG2⟩ : ∃ G2, G2 = W1.heap.size := ⟨_, rfl⟩
      rw [← hW2] at hal2 hb2 hb12
      rw [← hG2] at hb2
      have q0 := (hal1.cell (p := ad'.add (j * 12)) l2).trans v0
      have q1 := (hal1.cell (p := ⟨(ad'.add (j * 12)).block, (ad'.add (j * 12)).off + 1, none⟩) l2).trans v1
      have q2 := (hal1.cell (p := ⟨(ad'.add (j * 12)).block, (ad'.add (j * 12)).off + 2, none⟩) l2).trans v2
      have q3 := (hal1.cell (p := ⟨(ad'.add (j * 12)).block, (ad'.add (j * 12)).off + 3, none⟩) l2).trans v3
      have q4 := (hal1.cell (p := ⟨(ad'.add (j * 12)).block, (ad'.add (j * 12)).off + 4, none⟩) l2).trans v4
      have q5 := (hal1.cell (p := ⟨(ad'.add (j * 12)).block, (ad'.add (j * 12)).off + 5, none⟩) l2).trans v5
      have q6 := (hal1.cell (p := ⟨(ad'.add (j * 12)).block, (ad'.add (j * 12)).off + 6, none⟩) l2).trans v6
      have q7 := (hal1.cell (p := ⟨(ad'.add (j * 12)).block, (ad'.add (j * 12)).off + 7, none⟩) l2).trans v7
      have q8 := (hal1.cell (p := ⟨(ad'.add (j * 12)).block, (ad'.add (j * 12)).off + 8, none⟩) l2).trans v8
      have q9 := (hal1.cell (p := ⟨(ad'.add (j * 12)).block, (ad'.add (j * 12)).off + 9, none⟩) l2).trans v9
      have q10 := (hal1.cell (p := ⟨(ad'.add (j * 12)).block, (ad'.add (j * 12)).off + 10, none⟩) l2).trans v10
      have q11 := (hal1.cell (p := ⟨(ad'.add (j * 12)).block, (ad'.add (j * 12)).off + 11, none⟩) l2).trans v11
      have hr1 : W2.rangeAt G1 0 (ncells x (.slice AA x.args.length aac)) := fun j v hv => by
        rw [hb12.cell (0 + j), Nat.zero_add]
        exact (List.getElem?_toArray ..).trans hv
      have hr2 : W2.rangeAt G2 0 (ncells y (.slice AA' y.args.length aac')) := fun j v hv => by
        rw [hb2.cell (0 + j), Nat.zero_add]
        exact (List.getElem?_toArray ..).trans hv
      obtain ⟨bn, hbn⟩ : ∃ bn, eqN x y = bn := ⟨_, rfl⟩
      have hcn := sameNode_any W2 x y (.slice AA x.args.length aac) (.slice AA' y.args.length aac') B (Nat.le_trans hB (Nat.le_trans hsz hal2.size)) (hav.below (hal2.mono (by omega))) (hav'.below (hal2.mono (by omega)))
      rw [hbn] at hcn
      have hbq := hbw.trans (hal2.mono hsz)
      have Hav := Lib.hid hav
      have Hav' := Lib.hid hav'
      have Hxk := Lib.hid hxk
      have Hyk := Lib.hid hyk
      have Hal1 := Lib.hid hal1
      have Hal2 := Lib.hid hal2
      have Hb1 := Lib.hid hb1
      have Hb2 := Lib.hid hb2
      have Hb12 := Lib.hid hb12
      have HW1 := Lib.hid hW1
      have HW2 := Lib.hid hW2
      have HGG1 := Lib.hid hG1
      have HGG2 := Lib.hid hG2
      have Hr1 := Lib.hid hr1
      have Hr2 := Lib.hid hr2
      have Hbn := Lib.hid hbn
      have Hcn := Lib.hid hcn
      have Hbq := Lib.hid hbq
      have Hbw := Lib.hid hbw
      have Ht := Lib.hid ht
      clear ht hbw hbq hcn hbn hr2 hr1 hG2 hG1 hW2 hW1 hb12 hb2 hb1 hal2 hal1 hyk hxk hav' hav
      go_upto_region 6 with fail
      rw [← HW1.out, ← HGG1.out]
      clear u0 u1 u2 u3 u4 u5 u6 u7 u8 u9 u10 u11 v0 v1 v2 v3 v4 v5 v6 v7 v8 v9 v10 v11
      go_upto_region 7 with fail
      rw [← HW2.out, ← HGG2.out]
      clear q0 q1 q2 q3 q4 q5 q6 q7 q8 q9 q10 q11
      go_wp2_with (first | (refine wpList_load_mid rfl 38 _ rfl G1 0 rfl (ncells x (.slice AA x.args.length aac)) _ Hr1.out Try.underlying38 rfl (by kernel_rfl) ?_) | (refine wpList_load_mid rfl 38 _ rfl G2 0 rfl (ncells y (.slice AA' y.args.length aac')) _ Hr2.out Try.underlying38 rfl (by kernel_rfl) ?_))
      refine Hcn.out.mono ?_
      rintro e w9 ⟨rfl, hb9⟩
      have hbe := Hbq.out.trans (hb9.mono Hbq.out.size)
      have Hbe := Lib.hid hbe
      clear hbe
      clear hb9
      cases bn
      · have hs : decide (xs.map ncode = ys.map ncode) = false := decide_eq_false fun h => by
          have h3 := map_inj_of (fun _ _ => ncode_inj) h
          have h1 := Hxk.out
          rw [h3, Hyk.out] at h1
          injection h1 with h1
          have h4 := Hbn.out
          rw [(eqN_iff _ _).2 h1.symm] at h4
          cases h4
        have Hs := Lib.hid hs
        clear hs
        go_wp2_with fail
        go_ret
        exact ⟨ret_b Hs.out.symm, Hbe.out⟩
      · have hxy := (eqN_iff _ _).1 Hbn.out
        have hs : xs.take (j + 1) = ys.take (j + 1) := take_snoc_eq Ht.out (by rw [Hxk.out, Hyk.out, hxy])
        have Hs := Lib.hid hs
        have Hxy := Lib.hid hxy
        clear hxy hs
        go_wp2_with fail
        exact ⟨⟨j + 1, by omega, by go_num, Hbe.out, Lib.hid Hs.out⟩, by simp [intOf]; omega⟩
    · have hfull : xs = ys := by
        have h1 := ht.out
        rwa [List.take_of_length_le (by rw [Hl.out]; omega), List.take_of_length_le (by rw [Hl'.out]; omega)] at h1
      have hs : decide (xs.map ncode = ys.map ncode) = true := decide_eq_true (by rw [hfull])
      have Hs := Lib.hid hs
      have Hfull := Lib.hid hfull
      have Hbw := Lib.hid hbw
      have Ht := Lib.hid ht
      clear ht hbw hfull hs
      go_wp2_with fail
      go_ret
      exact ⟨ret_b Hs.out.symm, Hbw.out⟩

set_option maxRecDepth 100000 in
set_option maxHeartbeats 4000000 in
theorem sameGraph_any (w : World) (f g : GraphD) (pv kv iv nv pv' kv' iv' nv' : Value) {ga ga' : Addr} (B : Nat) (hB : B ≤ w.heap.size) (h1 : GraphM w B ga f pv kv iv nv) (h2 : GraphM w B ga' g pv' kv' iv' nv') :
    Calls Try.prog 33 #[.agg (gcells f pv kv iv nv).toArray, .agg (gcells g pv' kv' iv' nv').toArray] w fun e w' => e = .returned (.bool (eqG f g)) ∧ Below w.heap.size w w' := by
  obtain ⟨G, hG⟩ : ∃ G, G = w.heap.size := ⟨_, rfl⟩
  obtain ⟨D, hD⟩ : ∃ D, D = w.heap.size + 1 := ⟨_, rfl⟩
  obtain ⟨NC, hNC⟩ : ∃ NC : Array Value, NC = (gcells f pv kv iv nv).toArray := ⟨_, rfl⟩
  obtain ⟨ND, hND⟩ : ∃ ND : Array Value, ND = (gcells g pv' kv' iv' nv').toArray := ⟨_, rfl⟩
  rw [← hNC, ← hND]
  have hBg := (Blk.new w 45 NC).alloc (.cells ND 45)
  have hBn := Blk.new2 w (.cells NC 45) 45 ND
  have hb := ((Below.refl w.heap.size w).alloc (Nat.le_refl _) (.cells NC 45)).alloc (by simp) (.cells ND 45)
  rw [← hG] at hBg
  rw [← hD] at hBn
  obtain ⟨V, hV⟩ : ∃ V, V = (w.alloc (.cells NC 45)).alloc (.cells ND 45) := ⟨_, rfl⟩
  rw [← hV] at hb hBg hBn
  have hM := h1.below (hb.mono hB)
  have hM' := h2.below (hb.mono hB)
  have hgc : ∀ W, Below V.heap.size V W → ∀ j v, (gcells f pv kv iv nv)[j]? = some v → W.cell? ⟨G, j, none⟩ = some v := fun W h j v hv => by
    rw [h.cell (p := ⟨G, j, none⟩) hBg.lt, hBg.cell j, hNC]
    exact (List.getElem?_toArray ..).trans hv
  have hnc : ∀ W, Below V.heap.size V W → ∀ j v, (gcells g pv' kv' iv' nv')[j]? = some v → W.cell? ⟨D, j, none⟩ = some v := fun W h j v hv => by
    rw [h.cell (p := ⟨D, j, none⟩) hBn.lt, hBn.cell j, hND]
    exact (List.getElem?_toArray ..).trans hv
  have y0 := hgc V (Below.refl _ _) 0 _ rfl
  have z0 := hnc V (Below.refl _ _) 0 _ rfl
  have y1 := hgc V (Below.refl _ _) 1 _ rfl
  have z1 := hnc V (Below.refl _ _) 1 _ rfl
  have y2 := hgc V (Below.refl _ _) 2 _ rfl
  have z2 := hnc V (Below.refl _ _) 2 _ rfl
  have y3 := hgc V (Below.refl _ _) 3 _ rfl
  have z3 := hnc V (Below.refl _ _) 3 _ rfl
  have y4 := hgc V (Below.refl _ _) 4 _ rfl
  have z4 := hnc V (Below.refl _ _) 4 _ rfl
  have y5 := hgc V (Below.refl _ _) 5 _ rfl
  have z5 := hnc V (Below.refl _ _) 5 _ rfl
  have y6 := hgc V (Below.refl _ _) 6 _ rfl
  have z6 := hnc V (Below.refl _ _) 6 _ rfl
  have y7 := hgc V (Below.refl _ _) 7 _ rfl
  have z7 := hnc V (Below.refl _ _) 7 _ rfl
  have hBV : B ≤ V.heap.size := Nat.le_trans hB hb.size
  have hc1 := eqInts_any _ _ _ _ V B B hM.params hM'.params
  have H1 := Lib.hid h1
  have H2 := Lib.hid h2
  have HNC := Lib.hid hNC
  have HND := Lib.hid hND
  have HBg := Lib.hid hBg
  have HBn := Lib.hid hBn
  have Hb := Lib.hid hb
  have HV := Lib.hid hV
  have HG := Lib.hid hG
  have HD := Lib.hid hD
  have HM := Lib.hid hM
  have HM' := Lib.hid hM'
  have HGC := Lib.hid hgc
  have HNX := Lib.hid hnc
  have Hc1 := Lib.hid hc1
  clear hc1 hnc hgc hM' hM hD hG hV hb hBn hBg hND hNC h2 h1
  go_enter Try.func33, Try.ntmps33
  go_upto_region 1 with fail
  rw [← HV.out, ← HD.out, ← HG.out]
  go_wp2_with fail
  refine Hc1.out.mono ?_
  rintro e w1 ⟨rfl, q1, rfl⟩
  by_cases e1 : f.params = g.params
  case neg =>
    have hs : decide (f.params = g.params) = false := decide_eq_false e1
    have hfg : eqG f g = false := eqG_not fun h => e1 (by rw [h])
    rw [hs]
    have Hs := Lib.hid hs
    have He1 := Lib.hid e1
    have Hfg := Lib.hid hfg
    clear hfg e1 hs
    go_wp2_with fail
    go_ret
    exact ⟨ret_b Hfg.out.symm, below_drewN Hb.out _⟩
  have hs : decide (f.params = g.params) = true := decide_eq_true e1
  rw [hs]
  have hc2 := eqKinds_any _ _ _ _ (V.drewN q1) B B (show NumsAt .u8 V B _ _ from HM.out.kinds) (show NumsAt .u8 V B _ _ from HM'.out.kinds)
  have Hs := Lib.hid hs
  have He1 := Lib.hid e1
  have Hc2 := Lib.hid hc2
  clear hc2 e1 hs
  go_wp2_with fail
  refine Hc2.out.mono ?_
  rintro e w1 ⟨rfl, q2, rfl⟩
  by_cases e2 : f.kinds = g.kinds
  case neg =>
    have hs : decide (f.kinds = g.kinds) = false := decide_eq_false e2
    have hfg : eqG f g = false := eqG_not fun h => e2 (by rw [h])
    rw [hs]
    have HS2 := Lib.hid hs
    have He2 := Lib.hid e2
    have Hfg := Lib.hid hfg
    clear hfg e2 hs
    go_wp2_with fail
    go_ret
    exact ⟨ret_b Hfg.out.symm, below_drewN Hb.out _⟩
  have hs : decide (f.kinds = g.kinds) = true := decide_eq_true e2
  rw [hs]
  have HS2 := Lib.hid hs
  have He2 := Lib.hid e2
  clear e2 hs
  by_cases e3 : f.cells = g.cells
  case neg =>
    have hb3 : (f.cells == g.cells) = false := by simpa using e3
    have hfg : eqG f g = false := eqG_not fun h => e3 (by rw [h])
    have He3 := Lib.hid e3
    have Hfg := Lib.hid hfg
    clear hfg e3
    go_wp2_with fail
    go_ret
    exact ⟨ret_b Hfg.out.symm, below_drewN Hb.out _⟩
  have hb3 : (f.cells == g.cells) = true := by simpa using e3
  have hc3 := eqInts_any _ _ _ _ (V.drewN (q1 + q2)) B B (show NumsAt .i64 V B _ _ from HM.out.init) (show NumsAt .i64 V B _ _ from HM'.out.init)
  have He3 := Lib.hid e3
  have Hc3 := Lib.hid hc3
  clear hc3 e3
  go_wp2_with fail
  refine Hc3.out.mono ?_
  rintro e w1 ⟨rfl, q3, rfl⟩
  clear hb3
  by_cases e4 : f.init = g.init
  case neg =>
    have hs : decide (f.init = g.init) = false := decide_eq_false e4
    have hfg : eqG f g = false := eqG_not fun h => e4 (by rw [h])
    rw [hs]
    have HS4 := Lib.hid hs
    have He4 := Lib.hid e4
    have Hfg := Lib.hid hfg
    clear hfg e4 hs
    go_wp2_with fail
    go_ret
    exact ⟨ret_b Hfg.out.symm, below_drewN Hb.out _⟩
  have hs : decide (f.init = g.init) = true := decide_eq_true e4
  rw [hs]
  have HS4 := Lib.hid hs
  have He4 := Lib.hid e4
  clear e4 hs
  by_cases e5 : f.result = g.result
  case neg =>
    have hfg : eqG f g = false := eqG_not fun h => e5 (by rw [h])
    obtain ⟨b1, hb1⟩ : ∃ b1, f.result = b1 := ⟨_, rfl⟩
    obtain ⟨b2, hb2⟩ : ∃ b2, g.result = b2 := ⟨_, rfl⟩
    rw [hb1] at y4 e5
    rw [hb2] at z4 e5
    have Hfg := Lib.hid hfg
    have Hb1 := Lib.hid hb1
    have Hb2 := Lib.hid hb2
    clear hb2 hb1 hfg
    cases b1 <;> cases b2
    · exact absurd rfl e5
    · have He5 := Lib.hid e5
      clear e5
      go_wp2_with fail
      go_ret
      exact ⟨ret_b Hfg.out.symm, below_drewN Hb.out _⟩
    · have He5 := Lib.hid e5
      clear e5
      go_wp2_with fail
      go_ret
      exact ⟨ret_b Hfg.out.symm, below_drewN Hb.out _⟩
    · exact absurd rfl e5
  obtain ⟨b2, hb2⟩ : ∃ b2, g.result = b2 := ⟨_, rfl⟩
  rw [e5, hb2] at y4
  rw [hb2] at z4
  have He5 := Lib.hid e5
  have Hb2 := Lib.hid hb2
  clear hb2 e5
  by_cases e6 : f.keep = g.keep
  case neg =>
    have hb3 : (f.keep == g.keep) = false := by simpa using e6
    have hfg : eqG f g = false := eqG_not fun h => e6 (by rw [h])
    have He6 := Lib.hid e6
    have Hfg := Lib.hid hfg
    clear hfg e6
    cases b2
    all_goals
      go_wp2_with fail
      go_ret
      exact ⟨ret_b Hfg.out.symm, below_drewN Hb.out _⟩
  have hb6 : (f.keep == g.keep) = true := by simpa using e6
  have He6 := Lib.hid e6
  clear e6
  by_cases e7 : f.entry = g.entry
  case neg =>
    have hb3 : (f.entry == g.entry) = false := by simpa using e7
    have hfg : eqG f g = false := eqG_not fun h => e7 (by rw [h])
    have He7 := Lib.hid e7
    have Hfg := Lib.hid hfg
    clear hfg e7
    cases b2
    all_goals
      go_wp2_with fail
      go_ret
      exact ⟨ret_b Hfg.out.symm, below_drewN Hb.out _⟩
  have hb7 : (f.entry == g.entry) = true := by simpa using e7
  have He7 := Lib.hid e7
  clear e7
  have hc4 := eqNodes_any nv nv' f.nodes g.nodes (V.drewN (q1 + q2 + q3)) B (show B ≤ V.heap.size from hBV) (show RowsAt 12 NodeAt V B _ _ from HM.out.nodes) (show RowsAt 12 NodeAt V B _ _ from HM'.out.nodes)
  obtain ⟨bn, hbn⟩ : ∃ bn, decide (f.nodes.map ncode = g.nodes.map ncode) = bn := ⟨_, rfl⟩
  rw [hbn] at hc4
  have hfin : eqG f g = bn := by
    rw [← hbn]
    obtain ⟨a1, a2, a3, a4, a5, a6, a7, a8⟩ := f
    obtain ⟨b1, b2, b3, b4, b5, b6, b7, b8⟩ := g
    have e1 := He1.out
    have e2 := He2.out
    have e3 := He3.out
    have e4 := He4.out
    have e5 := He5.out
    have e6 := He6.out
    have e7 := He7.out
    simp only at e1 e2 e3 e4 e5 e6 e7
    subst e1 e2 e3 e4 e5 e6 e7
    unfold eqG gcode
    simp
  have Hc4 := Lib.hid hc4
  have Hbn := Lib.hid hbn
  have Hfin := Lib.hid hfin
  clear hfin hbn hc4
  cases b2
  all_goals
    go_wp2_with fail
    refine Hc4.out.mono ?_
    rintro e w9 ⟨rfl, hb9⟩
    have hbe : Below w.heap.size w w9 := (below_drewN Hb.out (q1 + q2 + q3)).trans (hb9.mono Hb.out.size)
    have Hbe := Lib.hid hbe
    clear hbe
    clear hb9
    go_wp2_with fail
    go_ret
    exact ⟨ret_b Hfin.out.symm, Hbe.out⟩

set_option maxRecDepth 100000 in
set_option maxHeartbeats 4000000 in
theorem eqGraphs_any (v1 v2 : Value) (xs ys : List GraphD) (w : World) (B : Nat) (hB : B ≤ w.heap.size) (h1 : GraphsAt w B v1 xs) (h2 : GraphsAt w B v2 ys) :
    Calls Try.prog 32 #[v1, v2, .func (.func 33) #[] #[]] w fun e w' => e = .returned (.bool (decide (xs.map gcode = ys.map gcode))) ∧ Below w.heap.size w w' := by
  obtain ⟨A, n, c, css, rfl, hc1, hc2, hl, _⟩ := id h1
  obtain ⟨A', m, c', css', rfl, hc1', hc2', hl', _⟩ := id h2
  unfold maxLen at hc2 hc2'
  by_cases hnm : n = m
  case neg =>
    have hb : ((n : Int) != (m : Int)) = true := by rw [bne_iff_ne]; omega
    have hs : decide (xs.map gcode = ys.map gcode) = false := decide_eq_false fun h => hnm (by rw [← hl, ← hl', map_inj_of (fun _ _ => gcode_inj) h])
    have Hl := Lib.hid hl
    have Hl' := Lib.hid hl'
    have Hnm := Lib.hid hnm
    have HG1 := Lib.hid h1
    have HG2 := Lib.hid h2
    have Hs := Lib.hid hs
    clear hs h2 h1 hnm hl' hl
    go_enter Try.func32, Try.ntmps32
    go_wp2_with fail
    go_ret
    exact ⟨ret_b Hs.out.symm, Below.refl _ _⟩
  subst hnm
  have Hl := Lib.hid hl
  have Hl' := Lib.hid hl'
  have HG1 := Lib.hid h1
  have HG2 := Lib.hid h2
  clear h2 h1 hl' hl
  go_enter Try.func32, Try.ntmps32
  go_wp2_with fail
  go_loopw [17] (fun i wr => ∃ j : Nat, j ≤ n ∧ i = .int .i64 j ∧ Below w.heap.size w wr ∧ Hid (xs.take j = ys.take j)) (fun i _ => n - (intOf i).toNat)
  case atStart => exact ⟨0, by omega, rfl, Below.refl _ _, by show _ = _; simp⟩
  case round =>
    obtain ⟨j, hj, rfl, hbw, ht⟩ := hrel
    have hsz := hbw.size
    by_cases hlt : j < n
    · obtain ⟨x, hxk⟩ : ∃ x, xs[j]? = some x := ⟨_, List.getElem?_eq_getElem (by have := Hl.out; omega)⟩
      obtain ⟨y, hyk⟩ : ∃ y, ys[j]? = some y := ⟨_, List.getElem?_eq_getElem (by have := Hl'.out; omega)⟩
      obtain ⟨ad, pv, kv, iv, nv, hA, _, hM⟩ := (HG1.out.below (hbw.mono hB)).at_ hxk
      obtain ⟨ad', pv', kv', iv', nv', hA', _, hM'⟩ := (HG2.out.below (hbw.mono hB)).at_ hyk
      subst hA hA'
      obtain ⟨PA, pn, pc, KA, kn, kc, IA, il, ic, NA, nn, nc, rfl, rfl, rfl, rfl, hpn, hkn, hil, hnn⟩ := hM.forms
      obtain ⟨PA', pn', pc', KA', kn', kc', IA', il', ic', NA', nn', nc', rfl, rfl, rfl, rfl, hpn', hkn', hil', hnn'⟩ := hM'.forms
      have u0 := hM.c0
      have v0 := hM'.c0
      have u1 := hM.c1
      have v1 := hM'.c1
      have u2 := hM.c2
      have v2 := hM'.c2
      have u3 := hM.c3
      have v3 := hM'.c3
      have u4 := hM.c4
      have v4 := hM'.c4
      have u5 := hM.c5
      have v5 := hM'.c5
      have u6 := hM.c6
      have v6 := hM'.c6
      have u7 := hM.c7
      have v7 := hM'.c7
      have l1 : (ad.add (j * 8)).block < wr.heap.size := Nat.lt_of_lt_of_le hM.lt (by omega)
      have l2 : (ad'.add (j * 8)).block < wr.heap.size := Nat.lt_of_lt_of_le hM'.lt (by omega)
      have j1 : (j : Int) < (n : Int) := by omega
      have j0 : (0 : Int) ≤ (j : Int) := by omega
      have hal1 := (Below.refl wr.heap.size wr).alloc (Nat.le_refl _) (.cells #[.slice PA pn pc, .slice KA kn kc, .int .i64 x.cells, .slice IA il ic, .bool x.result, .int .i64 x.keep, .slice NA nn nc, .int .i64 x.entry] 45)
      have hb1 := Blk.new wr 45 #[.slice PA pn pc, .slice KA kn kc, .int .i64 x.cells, .slice IA il ic, .bool x.result, .int .i64 x.keep, .slice NA nn nc, .int .i64 x.entry]
      obtain ⟨W1, hW1⟩ : ∃ W1, W1 = wr.alloc (.cells #[.slice PA pn pc, .slice KA kn kc, .int .i64 x.cells, .slice IA il ic, .bool x.result, .int .i64 x.keep, .slice NA nn nc, .int .i64 x.entry] 45) := ⟨_, rfl⟩
      obtain ⟨G1, hG1⟩ : ∃ G1, G1 = wr.heap.size := ⟨_, rfl⟩
      rw [← hW1] at hal1 hb1
      rw [← hG1] at hb1
      have hal2 := hal1.alloc hal1.size (.cells #[.slice PA' pn' pc', .slice KA' kn' kc', .int .i64 y.cells, .slice IA' il' ic', .bool y.result, .int .i64 y.keep, .slice NA' nn' nc', .int .i64 y.entry] 45)
      have hb2 := Blk.new W1 45 #[.slice PA' pn' pc', .slice KA' kn' kc', .int .i64 y.cells, .slice IA' il' ic', .bool y.result, .int .i64 y.keep, .slice NA' nn' nc', .int .i64 y.entry]
      have hb12 := hb1.alloc (.cells #[.slice PA' pn' pc', .slice KA' kn' kc', .int .i64 y.cells, .slice IA' il' ic', .bool y.result, .int .i64 y.keep, .slice NA' nn' nc', .int .i64 y.entry] 45)
      obtain ⟨W2, hW2⟩ : ∃ W2, W2 = W1.alloc (.cells #[.slice PA' pn' pc', .slice KA' kn' kc', .int .i64 y.cells, .slice IA' il' ic', .bool y.result, .int .i64 y.keep, .slice NA' nn' nc', .int .i64 y.entry] 45) := ⟨_, rfl⟩
      obtain ⟨G2, hG2⟩ : ∃ G2, G2 = W1.heap.size := ⟨_, rfl⟩
      rw [← hW2] at hal2 hb2 hb12
      rw [← hG2] at hb2
      have q0 := (hal1.cell (p := ad'.add (j * 8)) l2).trans v0
      have q1 := (hal1.cell (p := ⟨(ad'.add (j * 8)).block, (ad'.add (j * 8)).off + 1, none⟩) l2).trans v1
      have q2 := (hal1.cell (p := ⟨(ad'.add (j * 8)).block, (ad'.add (j * 8)).off + 2, none⟩) l2).trans v2
      have q3 := (hal1.cell (p := ⟨(ad'.add (j * 8)).block, (ad'.add (j * 8)).off + 3, none⟩) l2).trans v3
      have q4 := (hal1.cell (p := ⟨(ad'.add (j * 8)).block, (ad'.add (j * 8)).off + 4, none⟩) l2).trans v4
      have q5 := (hal1.cell (p := ⟨(ad'.add (j * 8)).block, (ad'.add (j * 8)).off + 5, none⟩) l2).trans v5
      have q6 := (hal1.cell (p := ⟨(ad'.add (j * 8)).block, (ad'.add (j * 8)).off + 6, none⟩) l2).trans v6
      have q7 := (hal1.cell (p := ⟨(ad'.add (j * 8)).block, (ad'.add (j * 8)).off + 7, none⟩) l2).trans v7
      have hr1 : W2.rangeAt G1 0 (gcells x (.slice PA pn pc) (.slice KA kn kc) (.slice IA il ic) (.slice NA nn nc)) := fun j v hv => by
        rw [hb12.cell (0 + j), Nat.zero_add]
        exact (List.getElem?_toArray ..).trans hv
      have hr2 : W2.rangeAt G2 0 (gcells y (.slice PA' pn' pc') (.slice KA' kn' kc') (.slice IA' il' ic') (.slice NA' nn' nc')) := fun j v hv => by
        rw [hb2.cell (0 + j), Nat.zero_add]
        exact (List.getElem?_toArray ..).trans hv
      obtain ⟨bn, hbn⟩ : ∃ bn, eqG x y = bn := ⟨_, rfl⟩
      have hcn := sameGraph_any W2 x y _ _ _ _ _ _ _ _ B (Nat.le_trans hB (Nat.le_trans hsz hal2.size)) (hM.below (hal2.mono (by omega))) (hM'.below (hal2.mono (by omega)))
      rw [hbn] at hcn
      have hbq := hbw.trans (hal2.mono hsz)
      have HM := Lib.hid hM
      have HM' := Lib.hid hM'
      have Hpn := Lib.hid hpn
      have Hkn := Lib.hid hkn
      have Hil := Lib.hid hil
      have Hnn := Lib.hid hnn
      have Hpn' := Lib.hid hpn'
      have Hkn' := Lib.hid hkn'
      have Hil' := Lib.hid hil'
      have Hnn' := Lib.hid hnn'
      have Hxk := Lib.hid hxk
      have Hyk := Lib.hid hyk
      have Hal1 := Lib.hid hal1
      have Hal2 := Lib.hid hal2
      have Hb1 := Lib.hid hb1
      have Hb2 := Lib.hid hb2
      have Hb12 := Lib.hid hb12
      have HW1 := Lib.hid hW1
      have HW2 := Lib.hid hW2
      have HGG1 := Lib.hid hG1
      have HGG2 := Lib.hid hG2
      have Hr1 := Lib.hid hr1
      have Hr2 := Lib.hid hr2
      have Hbn := Lib.hid hbn
      have Hcn := Lib.hid hcn
      have Hbq := Lib.hid hbq
      have Hbw := Lib.hid hbw
      have Ht := Lib.hid ht
      clear ht hbw hbq hcn hbn hr2 hr1 hG2 hG1 hW2 hW1 hb12 hb2 hb1 hal2 hal1 hyk hxk hnn' hil' hkn' hpn' hnn hil hkn hpn hM' hM
      go_upto_region 6 with fail
      rw [← HW1.out, ← HGG1.out]
      clear u0 u1 u2 u3 u4 u5 u6 u7 v0 v1 v2 v3 v4 v5 v6 v7
      go_upto_region 7 with fail
      rw [← HW2.out, ← HGG2.out]
      clear q0 q1 q2 q3 q4 q5 q6 q7
      go_wp2_with (first | (refine wpList_load_mid rfl 45 _ rfl G1 0 rfl (gcells x (.slice PA pn pc) (.slice KA kn kc) (.slice IA il ic) (.slice NA nn nc)) _ Hr1.out Try.underlying45 rfl (by kernel_rfl) ?_) | (refine wpList_load_mid rfl 45 _ rfl G2 0 rfl (gcells y (.slice PA' pn' pc') (.slice KA' kn' kc') (.slice IA' il' ic') (.slice NA' nn' nc')) _ Hr2.out Try.underlying45 rfl (by kernel_rfl) ?_))
      refine Hcn.out.mono ?_
      rintro e w9 ⟨rfl, hb9⟩
      have hbe := Hbq.out.trans (hb9.mono Hbq.out.size)
      have Hbe := Lib.hid hbe
      clear hbe
      clear hb9
      cases bn
      · have hs : decide (xs.map gcode = ys.map gcode) = false := decide_eq_false fun h => by
          have h3 := map_inj_of (fun _ _ => gcode_inj) h
          have h1 := Hxk.out
          rw [h3, Hyk.out] at h1
          injection h1 with h1
          have h4 := Hbn.out
          rw [(eqG_iff _ _).2 h1.symm] at h4
          cases h4
        have Hs := Lib.hid hs
        clear hs
        go_wp2_with fail
        go_ret
        exact ⟨ret_b Hs.out.symm, Hbe.out⟩
      · have hxy := (eqG_iff _ _).1 Hbn.out
        have hs : xs.take (j + 1) = ys.take (j + 1) := take_snoc_eq Ht.out (by rw [Hxk.out, Hyk.out, hxy])
        have Hs := Lib.hid hs
        have Hxy := Lib.hid hxy
        clear hxy hs
        go_wp2_with fail
        exact ⟨⟨j + 1, by omega, by go_num, Hbe.out, Lib.hid Hs.out⟩, by simp [intOf]; omega⟩
    · have hfull : xs = ys := by
        have h1 := ht.out
        rwa [List.take_of_length_le (by rw [Hl.out]; omega), List.take_of_length_le (by rw [Hl'.out]; omega)] at h1
      have hs : decide (xs.map gcode = ys.map gcode) = true := decide_eq_true (by rw [hfull])
      have Hs := Lib.hid hs
      have Hfull := Lib.hid hfull
      have Hbw := Lib.hid hbw
      have Ht := Lib.hid ht
      clear ht hbw hfull hs
      go_wp2_with fail
      go_ret
      exact ⟨ret_b Hs.out.symm, Hbw.out⟩

set_option maxRecDepth 100000 in
set_option maxHeartbeats 1000000 in
theorem same_any (v1 v2 : Value) (fs gs : List GraphD) (w : World) (B : Nat) (hB : B ≤ w.heap.size) (h1 : GraphsAt w B v1 fs) (h2 : GraphsAt w B v2 gs) :
    Calls Try.prog 20 #[.agg #[v1], .agg #[v2]] w fun e w' => e = .returned (.bool (eqGs fs gs)) ∧ Below w.heap.size w w' := by
  have hb := ((Below.refl w.heap.size w).alloc (Nat.le_refl _) (.cells #[v1] 24)).alloc (by simp) (.cells #[v2] 24)
  have hcn := eqGraphs_any v1 v2 fs gs _ B (Nat.le_trans hB hb.size) (h1.below (hb.mono hB)) (h2.below (hb.mono hB))
  have Hb := Lib.hid hb
  have Hcn := Lib.hid hcn
  have H1 := Lib.hid h1
  have H2 := Lib.hid h2
  clear h2 h1 hcn hb
  go_enter Try.func20, Try.ntmps20
  go_wp2_with fail
  refine Hcn.out.mono ?_
  rintro e w9 ⟨rfl, hb9⟩
  have hbe := Hb.out.trans (hb9.mono Hb.out.size)
  have Hbe := Lib.hid hbe
  clear hbe
  clear hb9
  go_wp2_with fail
  go_ret
  exact ⟨rfl, Hbe.out⟩

end Go.Proofs.Ytfjalejlbegkeaa
