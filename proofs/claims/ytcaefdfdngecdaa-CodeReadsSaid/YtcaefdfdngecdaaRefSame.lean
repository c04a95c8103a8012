/- Walk of the document's Same. Conditions: both programs lie in memory. -/
import Derived.Test.YtcaefdfdngecdaaSame3
import Derived.Deep.RegionHeld3
import Derived.Deep.DeepCutAuto
set_option linter.unusedVariables false
set_option linter.unusedSimpArgs false
namespace Go.Proofs.Ytcaefdfdngecdaa
open Go.RowKit

set_option maxRecDepth 100000 in
set_option maxHeartbeats 2000000 in
theorem refsame_any (v1 v2 : Value) (fs gs : List FuncD) (w : World) (B : Nat) (hB : B ≤ w.heap.size) (h1 : FuncsAt w B v1 fs) (h2 : FuncsAt w B v2 gs) :
    Calls Try.prog 14 #[.agg #[v1], .agg #[v2]] w fun e w' => e = .returned (.bool (eqP fs gs)) ∧ Below w.heap.size w w' := by
  obtain ⟨A, n, c, css, rfl, hc1, hc2, hl, hcl, hr, hcs⟩ := id h1
  obtain ⟨A', m, c', css', rfl, hc1', hc2', hl', hcl', hr', hcs'⟩ := id h2
  have h5 := css_five hl hcl hcs
  have h5' := css_five hl' hcl' hcs'
  unfold maxLen at hc2 hc2'
  have hbb : Below w.heap.size w ((w.alloc (.cells #[.slice A n c] 26)).alloc (.cells #[.slice A' m c'] 26)) := ((Below.refl _ _).alloc (Nat.le_refl _) _).alloc (by simp) _
  by_cases hnm : n = m
  · subst hnm
    have hP := (Blk.new w 26 #[.slice A n c]).alloc (.cells #[.slice A' n c'] 26)
    have hQ := Blk.new (w.alloc (.cells #[.slice A n c] 26)) 26 #[.slice A' n c']
    rw [World.size_alloc] at hQ
    generalize hWW : (w.alloc (.cells #[.slice A n c] 26)).alloc (.cells #[.slice A' n c'] 26) = WW at hbb hP hQ
    have Hl := Lib.hid hl
    have Hl' := Lib.hid hl'
    have Hcl := Lib.hid hcl
    have Hcl' := Lib.hid hcl'
    have Hr := Lib.hid hr
    have Hr' := Lib.hid hr'
    have Hcs := Lib.hid hcs
    have Hcs' := Lib.hid hcs'
    have Hbb := Lib.hid hbb
    have HP := Lib.hid hP
    have HQ := Lib.hid hQ
    clear hQ hP hbb hcs' hcs hr' hr hcl' hcl hl' hl
    have HWW := Lib.hid hWW
    clear h1 h2 hWW
    go_enter Try.func14, Try.ntmps14
    go_wp2_with fail
    rw [HWW.out]
    go_loopw [20] (fun i wr => ∃ j : Nat, j ≤ n ∧ i = .int .i64 j ∧ Below w.heap.size w wr ∧ Blk wr w.heap.size 26 #[.slice A n c] ∧ Blk wr (w.heap.size + 1) 26 #[.slice A' n c'] ∧ Hid (fs.take j = gs.take j)) (fun i _ => n - (intOf i).toNat)
    case atStart => exact ⟨0, by omega, rfl, Hbb.out, HP.out, HQ.out, by show _ = _; simp⟩
    case round =>
      obtain ⟨j, hj, rfl, hbw, hP1, hQ1, ht⟩ := hrel
      by_cases hlt : j < n
      · have hsz := hbw.size
        have hQlt := hQ1.lt
        have hrw := Hr.out.below (hbw.mono hB)
        have hrw' := Hr'.out.below (hbw.mono hB)
        obtain ⟨ad, hA, hadb, _⟩ := Hr.out.2 (by omega)
        subst hA
        obtain ⟨ad', hA', hadb', _⟩ := Hr'.out.2 (by omega)
        subst hA'
        obtain ⟨f, hfk⟩ : ∃ f, fs[j]? = some f := ⟨_, List.getElem?_eq_getElem (by have := Hl.out; omega)⟩
        obtain ⟨g, hgk⟩ : ∃ g, gs[j]? = some g := ⟨_, List.getElem?_eq_getElem (by have := Hl'.out; omega)⟩
        obtain ⟨cs, hck, lv, cv, rfl, hlv, hcv⟩ := Hcs.out j f hfk
        obtain ⟨cs', hck', lv', cv', rfl, hlv', hcv'⟩ := Hcs'.out j g hgk
        obtain ⟨LA, ln, lc, rfl, hl1, hl2, hl3, hl4⟩ := hlv
        obtain ⟨CA, cn, cc, rfl, hm1, hm2, hm3, hm4⟩ := hcv
        obtain ⟨LA', ln', lc', rfl, hl1', hl2', hl3', hl4'⟩ := hlv'
        obtain ⟨CA', cn', cc', rfl, hm1', hm2', hm3', hm4'⟩ := hcv'
        obtain ⟨g0, g1, g2, g3, g4⟩ := func_cells hrw Hcl.out h5 j f _ _ hck
        obtain ⟨k0, k1, k2, k3, k4⟩ := func_cells hrw' Hcl'.out h5' j g _ _ hck'
        have i0 : (0 : Int) ≤ (j : Int) := by omega
        have i1 : (j : Int) < (n : Int) := by omega
        have n1 : wr.heap.size ≠ (ad.add (j * 5)).block := by rw [block_of_add]; omega
        have n2 : wr.heap.size + 1 ≠ (ad.add (j * 5)).block := by rw [block_of_add]; omega
        have n3 : wr.heap.size ≠ (ad'.add (j * 5)).block := by rw [block_of_add]; omega
        have n4 : wr.heap.size + 1 ≠ (ad'.add (j * 5)).block := by rw [block_of_add]; omega
        have n5 : wr.heap.size ≠ w.heap.size := by omega
        have n6 : wr.heap.size + 1 ≠ w.heap.size := by omega
        have n7 : wr.heap.size ≠ w.heap.size + 1 := by omega
        have n8 : wr.heap.size + 1 ≠ w.heap.size + 1 := by omega
        have kp0 := Blk.cell hP1 0
        simp only [List.getElem?_toArray, List.getElem?_cons_zero, List.getElem?_cons_succ] at kp0
        have kq0 := Blk.cell hQ1 0
        simp only [List.getElem?_toArray, List.getElem?_cons_zero, List.getElem?_cons_succ] at kq0
        have Hbw := Lib.hid hbw
        have HP1 := Lib.hid hP1
        have HQ1 := Lib.hid hQ1
        have Hfk := Lib.hid hfk
        have Hgk := Lib.hid hgk
        have Hl3 := Lib.hid hl3
        have Hl4 := Lib.hid hl4
        have Hm3 := Lib.hid hm3
        have Hm4 := Lib.hid hm4
        have Hl3' := Lib.hid hl3'
        have Hl4' := Lib.hid hl4'
        have Hm3' := Lib.hid hm3'
        have Hm4' := Lib.hid hm4'
        clear hm4' hm3' hl4' hl3' hm4 hm3 hl4 hl3 hgk hfk hQ1 hP1 hbw
        clear hrw hrw' hck hck'
        go_upto_region 6 with fail
        go_cut [6, 7] (fun a b wx => ∃ g6 g7, a = .pointer (some ⟨g6, 0, none⟩) ∧ b = .pointer (some ⟨g7, 0, none⟩) ∧ Blk wx g6 45 #[.int .i64 f.params, .slice LA ln lc, .bool f.result, .int .i64 f.keep, .slice CA cn cc] ∧ Blk wx g7 45 #[.int .i64 g.params, .slice LA' ln' lc', .bool g.result, .int .i64 g.keep, .slice CA' cn' cc'] ∧ Below wr.heap.size wr wx)
        case first =>
          go_region_held3 (fun W => W.cell? ⟨w.heap.size, 0, none⟩ = some (.slice (some ad) n c) ∧ W.cell? ⟨w.heap.size + 1, 0, none⟩ = some (.slice (some ad') n c') ∧ W.cell? (ad.add (j * 5)) = some (.int .i64 f.params) ∧ W.cell? ⟨(ad.add (j * 5)).block, (ad.add (j * 5)).off + 1, none⟩ = some (.slice LA ln lc) ∧ W.cell? ⟨(ad.add (j * 5)).block, (ad.add (j * 5)).off + 2, none⟩ = some (.bool f.result) ∧ W.cell? ⟨(ad.add (j * 5)).block, (ad.add (j * 5)).off + 3, none⟩ = some (.int .i64 f.keep) ∧ W.cell? ⟨(ad.add (j * 5)).block, (ad.add (j * 5)).off + 4, none⟩ = some (.slice CA cn cc)
            ∧ W.cell? (ad'.add (j * 5)) = some (.int .i64 g.params) ∧ W.cell? ⟨(ad'.add (j * 5)).block, (ad'.add (j * 5)).off + 1, none⟩ = some (.slice LA' ln' lc') ∧ W.cell? ⟨(ad'.add (j * 5)).block, (ad'.add (j * 5)).off + 2, none⟩ = some (.bool g.result) ∧ W.cell? ⟨(ad'.add (j * 5)).block, (ad'.add (j * 5)).off + 3, none⟩ = some (.int .i64 g.keep) ∧ W.cell? ⟨(ad'.add (j * 5)).block, (ad'.add (j * 5)).off + 4, none⟩ = some (.slice CA' cn' cc')) (go_keep) (fail)
          all_goals
            go_wp2_with fail
            go_meet
            first
              | exact ⟨_, _, rfl, rfl, ((Blk.new wr _ _).alloc _).drew, (Blk.new2 wr _ _ _).drew, (((Below.refl _ _).alloc (Nat.le_refl _) _).alloc (by simp) _).drew⟩
              | exact ⟨_, _, rfl, rfl, (Blk.new2 wr _ _ _).drew, ((Blk.new wr _ _).alloc _).drew, (((Below.refl _ _).alloc (Nat.le_refl _) _).alloc (by simp) _).drew⟩
        case rest =>
          obtain ⟨g6, g7, rfl, rfl, hF6, hG7, hbc⟩ := hcut
          have hbwc := Hbw.out.trans (hbc.mono hsz)
          have hP2 := HP1.out.below hbc (by omega)
          have hQ2 := HQ1.out.below hbc hQlt
          have hnot : f ≠ g → eqP fs gs = false := fun h => eqP_not (ne_of_at (j := j) (by rw [Hfk.out, Hgk.out]; simpa using h))
          have y0 := Blk.cell hF6 0
          have y1 := Blk.cell hF6 1
          have y2 := Blk.cell hF6 2
          have y3 := Blk.cell hF6 3
          have y4 := Blk.cell hF6 4
          simp only [List.getElem?_toArray, List.getElem?_cons_zero, List.getElem?_cons_succ] at y0 y1 y2 y3 y4
          have z0 := Blk.cell hG7 0
          have z1 := Blk.cell hG7 1
          have z2 := Blk.cell hG7 2
          have z3 := Blk.cell hG7 3
          have z4 := Blk.cell hG7 4
          simp only [List.getElem?_toArray, List.getElem?_cons_zero, List.getElem?_cons_succ] at z0 z1 z2 z3 z4
          have HF6 := Lib.hid hF6
          have HG7 := Lib.hid hG7
          have Hbwc := Lib.hid hbwc
          have HP2 := Lib.hid hP2
          have HQ2 := Lib.hid hQ2
          have Hnot := Lib.hid hnot
          clear hnot hQ2 hP2 hbwc hG7 hF6
          clear hbc g0 g1 g2 g3 g4 k0 k1 k2 k3 k4 n1 n2 n3 n4 n5 n6 n7 n8 kp0 kq0
          unfold maxLen at hl2 hl2' hm2 hm2'
          by_cases e1 : f.params = g.params
          · have b1 : (f.params != g.params) = false := by simpa using e1
            by_cases e2 : f.result = g.result
            · rw [e2] at y2
              by_cases e3 : f.keep = g.keep
              · have b3 : (f.keep != g.keep) = false := by simpa using e3
                by_cases e4 : (ln : Int) = ln'
                · have b4 : ((ln : Int) != ln') = false := by simpa using e4
                  by_cases e5 : (cn : Int) = cn'
                  · have b5 : ((cn : Int) != cn') = false := by simpa using e5
                    have E1 := Lib.hid e1
                    have E2 := Lib.hid e2
                    have E3 := Lib.hid e3
                    clear e3 e2 e1
                    have e4' : (ln : Int) ≤ ln' := by omega
                    have e4'' : (ln' : Int) ≤ ln := by omega
                    have e5' : (cn : Int) ≤ cn' := by omega
                    have e5'' : (cn' : Int) ≤ cn := by omega
                    clear e4 e5
                    go_wp2_with fail
                    clear b1 b3 b4 b5
                    go_loopw [73] (fun i wq => ∃ k q : Nat, k ≤ ln ∧ i = .int .i64 k ∧ wq = wc.drewN q ∧ Hid (f.locals.take k = g.locals.take k)) (fun i _ => ln - (intOf i).toNat)
                    case atStart => exact ⟨0, 0, by omega, rfl, rfl, by show _ = _; simp⟩
                    case round =>
                      obtain ⟨k, q, hk, rfl, rfl, htk⟩ := hrel
                      by_cases hlt2 : k < ln
                      · obtain ⟨ax, u, rfl, _, hu, hcell⟩ := (Hl4.out.below (Hbwc.out.mono hB)).at_ hlt2
                        obtain ⟨ax', u', rfl, _, hu', hcell'⟩ := (Hl4'.out.below (Hbwc.out.mono hB)).at_ (k := k) (by omega)
                        rw [kindVals, List.getElem?_map, Option.map_eq_some_iff] at hu hu'
                        obtain ⟨x, hx, rfl⟩ := hu
                        obtain ⟨y, hy, rfl⟩ := hu'
                        have j0 : (0 : Int) ≤ (k : Int) := by omega
                        have j1 : (k : Int) < (ln : Int) := by omega
                        have j2 : (k : Int) < (ln' : Int) := by omega
                        have HX := Lib.hid hx
                        have HY := Lib.hid hy
                        clear hy hx
                        by_cases hxy : x = y
                        · subst hxy
                          go_wp2_with fail
                          go_quiet (fail)
                          go_wp2_with fail
                          exact ⟨⟨k + 1, _, by omega, by go_num, rfl, take_snoc_eq htk.out (by rw [HX.out, HY.out])⟩, by simp [intOf]; omega⟩
                        · have hb : (x != y) = true := by simpa using hxy
                          have hfg : f ≠ g := by rintro rfl; rw [HX.out] at HY; exact hxy (by injection HY.out)
                          have Hxy := Lib.hid hxy
                          have Hfg := Lib.hid hfg
                          clear hfg hxy
                          go_wp2_with fail
                          go_quiet (fail)
                          go_wp2_with fail
                          go_ret
                          exact ⟨ret_b (Hnot.out Hfg.out).symm, below_drewN (below_drewN Hbwc.out _) _⟩
                      · have hloc : f.locals = g.locals := by
                          have := htk.out
                          rwa [List.take_of_length_le (by rw [Hl3.out]; omega), List.take_of_length_le (by rw [Hl3'.out]; omega)] at this
                        have Hloc := Lib.hid hloc
                        clear hloc
                        clear htk
                        go_wp2_with fail
                        go_loopw [91] (fun i wq => ∃ k q : Nat, k ≤ cn ∧ i = .int .i64 k ∧ wq = wc.drewN q ∧ Hid (f.code.take k = g.code.take k)) (fun i _ => cn - (intOf i).toNat)
                        case atStart => exact ⟨0, q, by omega, rfl, rfl, by show _ = _; simp⟩
                        case round =>
                          obtain ⟨k2, q2, hk2, rfl, rfl, htk⟩ := hrel
                          by_cases hlt3 : k2 < cn
                          · obtain ⟨ax, rfl, _, hcell⟩ := (Hm4.out.below (Hbwc.out.mono hB)).2 (by omega)
                            obtain ⟨ax', rfl, _, hcell'⟩ := (Hm4'.out.below (Hbwc.out.mono hB)).2 (by omega)
                            obtain ⟨x, hx⟩ : ∃ x, f.code[k2]? = some x := ⟨_, List.getElem?_eq_getElem (by have := Hm3.out; omega)⟩
                            obtain ⟨y, hy⟩ : ∃ y, g.code[k2]? = some y := ⟨_, List.getElem?_eq_getElem (by have := Hm3'.out; omega)⟩
                            obtain ⟨c0, c1, c2⟩ := flatMap_three f.code k2 x hx
                            obtain ⟨d0, d1, d2⟩ := flatMap_three g.code k2 y hy
                            have q0 := hcell _ _ c0
                            have q1 := hcell _ _ c1
                            have q3 := hcell _ _ c2
                            have r0 := hcell' _ _ d0
                            have r1 := hcell' _ _ d1
                            have r2 := hcell' _ _ d2
                            rw [← addr_sub ax _ 1 (by omega)] at q1
                            rw [← addr_sub ax _ 2 (by omega)] at q3
                            rw [← addr_sub ax' _ 1 (by omega)] at r1
                            rw [← addr_sub ax' _ 2 (by omega)] at r2
                            have j0 : (0 : Int) ≤ (k2 : Int) := by omega
                            have j1 : (k2 : Int) < (cn : Int) := by omega
                            have j2 : (k2 : Int) < (cn' : Int) := by omega
                            have HX := Lib.hid hx
                            have HY := Lib.hid hy
                            clear hy hx
                            clear hcell hcell' c0 c1 c2 d0 d1 d2
                            by_cases hxy : x = y
                            · subst hxy
                              have hb := fun W => run_neq_instr_same x W
                              go_wp2_with fail
                              go_quiet (fail)
                              go_wp2_with fail
                              exact ⟨⟨k2 + 1, _, by omega, by go_num, rfl, take_snoc_eq htk.out (by rw [HX.out, HY.out])⟩, by simp [intOf]; omega⟩
                            · have hb := fun W => run_neq_instr_other x y hxy W
                              have hfg : f ≠ g := by rintro rfl; rw [HX.out] at HY; exact hxy (by injection HY.out)
                              have Hxy := Lib.hid hxy
                              have Hfg := Lib.hid hfg
                              clear hfg hxy
                              go_wp2_with fail
                              go_quiet (fail)
                              go_wp2_with fail
                              go_ret
                              exact ⟨ret_b (Hnot.out Hfg.out).symm, below_drewN (below_drewN Hbwc.out _) _⟩
                          · have hcode : f.code = g.code := by
                              have := htk.out
                              rwa [List.take_of_length_le (by rw [Hm3.out]; omega), List.take_of_length_le (by rw [Hm3'.out]; omega)] at this
                            have hfg : f = g := by
                              obtain ⟨a, b, c, d, e⟩ := f
                              obtain ⟨a', b', c', d', e'⟩ := g
                              have e1 := E1.out
                              have e2 := E2.out
                              have e3 := E3.out
                              have e4 := Hloc.out
                              simp only at e1 e2 e3 e4 hcode
                              rw [e1, e2, e3, e4, hcode]
                            have Hfg := Lib.hid hfg
                            clear hfg
                            clear hcode htk
                            go_wp2_with fail
                            exact ⟨⟨j + 1, by omega, by go_num, below_drewN Hbwc.out _, HP2.out, HQ2.out, take_snoc_eq ht.out (by rw [Hfk.out, Hgk.out, Hfg.out])⟩, by simp [intOf]; omega⟩
                  · have b5 : ((cn : Int) != cn') = true := by simpa using e5
                    have hfg : f ≠ g := by rintro rfl; have h1 := Hm3.out; have h2 := Hm3'.out; omega
                    have Hfg := Lib.hid hfg
                    clear hfg
                    clear e1 e2 e3 e4 e5
                    go_wp2_with fail
                    go_ret
                    exact ⟨ret_b (Hnot.out Hfg.out).symm, Hbwc.out⟩
                · have b4 : ((ln : Int) != ln') = true := by simpa using e4
                  have hfg : f ≠ g := by rintro rfl; have h1 := Hl3.out; have h2 := Hl3'.out; omega
                  have Hfg := Lib.hid hfg
                  clear hfg
                  clear e1 e2 e3 e4
                  go_wp2_with fail
                  go_ret
                  exact ⟨ret_b (Hnot.out Hfg.out).symm, Hbwc.out⟩
              · have b3 : (f.keep != g.keep) = true := by simpa using e3
                have hfg : f ≠ g := by rintro rfl; exact e3 rfl
                have Hfg := Lib.hid hfg
                clear hfg
                clear e1 e2 e3
                go_wp2_with fail
                go_ret
                exact ⟨ret_b (Hnot.out Hfg.out).symm, Hbwc.out⟩
            · have hfg : f ≠ g := by rintro rfl; exact e2 rfl
              have hrr : f.result = true ∧ g.result = false ∨ f.result = false ∧ g.result = true := by
                cases hx : f.result <;> cases hy : g.result <;> simp [hx, hy] at e2 ⊢
              have Hfg := Lib.hid hfg
              clear hfg
              rcases hrr with ⟨h1, h2⟩ | ⟨h1, h2⟩
              all_goals
                rw [h1] at y2
                rw [h2] at z2
                clear e1 e2 h1 h2
                go_wp2_with fail
                go_ret
                exact ⟨ret_b (Hnot.out Hfg.out).symm, Hbwc.out⟩
          · have b1 : (f.params != g.params) = true := by simpa using e1
            have hfg : f ≠ g := by rintro rfl; exact e1 rfl
            have Hfg := Lib.hid hfg
            clear hfg
            clear e1
            go_wp2_with fail
            go_ret
            exact ⟨ret_b (Hnot.out Hfg.out).symm, Hbwc.out⟩
      · obtain rfl : n = j := by omega
        have Hbw := Lib.hid hbw
        clear hbw
        go_wp2_with fail
        go_ret
        refine ⟨ret_b ((eqP_iff _ _).2 ?_).symm, Hbw.out⟩
        have := ht.out
        rwa [List.take_of_length_le (by rw [Hl.out]; omega), List.take_of_length_le (by rw [Hl'.out]; omega)] at this
  · have hb : ((n : Int) != (m : Int)) = true := by rw [bne_iff_ne]; omega
    have Hl := Lib.hid hl
    have Hl' := Lib.hid hl'
    have Hnm := Lib.hid hnm
    have Hbb := Lib.hid hbb
    clear hbb hnm hl' hl
    clear h1 h2 hcl hcl' hr hr' hcs hcs'
    go_enter Try.func14, Try.ntmps14
    go_wp2_with fail
    go_ret
    exact ⟨ret_b (eqP_not (fun h => Hnm.out (by rw [← Hl.out, ← Hl'.out, h]))).symm, Hbb.out⟩
end Go.Proofs.Ytcaefdfdngecdaa
