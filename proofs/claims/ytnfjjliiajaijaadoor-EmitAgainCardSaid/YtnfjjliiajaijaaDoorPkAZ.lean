/- Walk of the document's Copy. Conditions: the graphs lie in memory, within the reach. -/
import Derived.Test.YtnfjjliiajaijaaDoorPkAA
import Derived.Test.YtnfjjliiajaijaaDoorPkAE
import Derived.Test.YtnfjjliiajaijaaDoorPkAY
set_option linter.unusedVariables false
set_option linter.unusedSimpArgs false
set_option maxRecDepth 100000
set_option maxHeartbeats 10000000
namespace Go.Proofs.YtnfjjliiajaijaaDoor
open Go.RowKit

theorem refcopy_any (gsv : Value) (gs : List GraphD) (w : World) (B : Nat) (hp : GraphsAt w B gsv gs) (hB : B ≤ w.heap.size) (hs : GsSmall gs) :
  Calls Tryd.prog 7 #[.agg #[gsv]] w fun e w' => CopyPost gs w e w' := by
 obtain ⟨i0, hi0, hz0, hz1, hz2⟩ := info_parts infoIntr
 obtain ⟨ik, hik, hkz0, hkz1, hkz2⟩ := info_parts infoKindr
 obtain ⟨i1, hi1, hv0, hv1, hv2⟩ := info_parts infoNode
 obtain ⟨ig, hig, hgz0, hgz1, hgz2⟩ := info_parts infoGraph
 obtain ⟨A, c, rfl, hc1, hc2⟩ := hp.slice
 obtain ⟨n, hl⟩ : ∃ n, gs.length = n := ⟨_, rfl⟩
 rw [hl] at hp hc1 ⊢
 unfold maxLen at hc2
 have hn128 := hs.len
 rw [hl] at hn128
 obtain ⟨HL, HP, HS⟩ := hd3 hl hp hs
 clear hs hp hl
 go_enter Tryd.func7, Tryd.ntmps7
 go_wp2_with fail
 obtain ⟨U, hU⟩ : ∃ U, U = w.heap.size + 1 := ⟨_, rfl⟩
 obtain ⟨T, hT⟩ : ∃ T, T = w.heap.size + 1 + 1 := ⟨_, rfl⟩
 rw [← hT, ← hU]
 obtain ⟨W0, hW0⟩ : ∃ W0, W0 = ((w.alloc (.cells #[.slice A n c] 24)).alloc (.cells #[.slice none 0 0] 24)).alloc (.cells #[.slice none 0 0] 24) := ⟨_, rfl⟩
 rw [← hW0]
 have hTb : Blk W0 T 24 #[.slice none 0 0] := by
  have := Blk.new ((w.alloc (.cells #[.slice A n c] 24)).alloc (.cells #[.slice none 0 0] 24)) 24 #[.slice none 0 0]
  simp only [World.size_alloc] at this
  rw [hW0, hT]; exact this
 have hUb : Blk W0 U 24 #[.slice none 0 0] := by
  have := (Blk.new (w.alloc (.cells #[.slice A n c] 24)) 24 #[.slice none 0 0]).alloc (.cells #[.slice none 0 0] 24)
  simp only [World.size_alloc] at this
  rw [hW0, hU]; exact this
 have hb0 : Below w.heap.size w W0 := by rw [hW0]; exact (((Below.refl _ _).alloc (Nat.le_refl _) _).alloc (by simp) _).alloc (by simp; omega) _
 have o1 : w.heap.size ≤ U := by omega
 have o2 : U < T := by omega
 obtain ⟨HTb, HUb, Hb0⟩ := hd3 hTb hUb hb0
 clear hb0 hUb hTb
 clear hW0 hT hU
 go_loopw [10] (fun i wr => ∃ j : Nat, j ≤ n ∧ i = .int .i64 j ∧ CopyRel w T U gs j wr) (fun i _ => n - (intOf i).toNat)
 case atStart => exact ⟨0, by omega, rfl, [], _, World.ownsRow_nil _ _ _ _, by simpa using GsOwn.nil _ _, HTb.out, HUb.out, Hb0.out⟩
 case round =>
  obtain ⟨j, hj, rfl, cs4, pv, hO4, hF4, hT4, hU4, hb4⟩ := hrel
  have hsz4 := hb4.size
  have hTl := hT4.lt
  by_cases hlt : j < n
  ·obtain ⟨g, hfk⟩ : ∃ g, gs[j]? = some g := ⟨_, List.getElem?_eq_getElem (by have := HL.out; omega)⟩
   obtain ⟨ad, pv0, kv0, iv0, nv0, hA, _, hM⟩ := (HP.out.below (hb4.mono hB)).at_ hfk
   subst hA
   obtain ⟨PA, pn, pc, KA, kn, kc, IA, il, ic, NA, nn, nc, rfl, rfl, rfl, rfl, hpn, hkn, hil, hnn⟩ := hM.forms
   have m0 := hM.c0
   have m1 := hM.c1
   have m2 := hM.c2
   have m3 := hM.c3
   have m4 := hM.c4
   have m5 := hM.c5
   have m6 := hM.c6
   have m7 := hM.c7
   obtain ⟨s1, s2, s3, s4, s5⟩ := HS.out.each g (List.mem_of_getElem? hfk)
   rw [hpn] at s1
   rw [hkn] at s2
   rw [hil] at s3
   rw [hnn] at s4
   have rP : Reads wr B 1 PA pn (g.params.map (Value.int .i64)) := by
    obtain ⟨_, _, _, e, _, _, h3, h4⟩ := hM.params
    injection e with e1 e2 e3
    subst e1 e2 e3
    exact h4
   have rK : Reads wr B 1 KA kn (g.kinds.map (Value.int .u8)) := by
    obtain ⟨_, _, _, e, _, _, h3, h4⟩ := hM.kinds
    injection e with e1 e2 e3
    subst e1 e2 e3
    exact h4
   have rI : Reads wr B 1 IA il (g.init.map (Value.int .i64)) := by
    obtain ⟨_, _, _, e, _, _, h3, h4⟩ := hM.init
    injection e with e1 e2 e3
    subst e1 e2 e3
    exact h4
   obtain ⟨css, hcl, rN, hcs, hnb⟩ : ∃ css : List (List Value), css.length = nn ∧ Reads wr B 12 NA nn css.flatten ∧ (∀ (i : Nat) x, g.nodes[i]? = some x → ∃ cs, css[i]? = some cs ∧ NodeAt wr B cs x) ∧ nn ≤ maxLen := by
    obtain ⟨_, _, _, css, e, q1, q2, h3, h4, h5, h6, h7⟩ := hM.nodes
    injection e with e1 e2 e3
    subst e1 e2 e3
    exact ⟨css, h4, h6, h7, Nat.le_trans q1 q2⟩
   unfold maxLen at hnb
   have hone := nodes_one (by rw [hcl, hnn]) hcs
   have hnT : pv.ownBlock ≠ some T := own_blk_ne hO4 hT4 (by decide)
   obtain ⟨F, hF⟩ : ∃ F, F = wr.heap.size := ⟨_, rfl⟩
   have hFb := Blk.new wr 44 #[.slice PA pn pc, .slice KA kn kc, .int .i64 g.cells, .slice IA il ic, .bool g.result, .int .i64 g.keep, .slice NA nn nc, .int .i64 g.entry]
   have hb1 := (Below.refl wr.heap.size wr).alloc (Nat.le_refl _) (.cells #[.slice PA pn pc, .slice KA kn kc, .int .i64 g.cells, .slice IA il ic, .bool g.result, .int .i64 g.keep, .slice NA nn nc, .int .i64 g.entry] 44)
   obtain ⟨W1, hW1⟩ : ∃ W1, W1 = wr.alloc (.cells #[.slice PA pn pc, .slice KA kn kc, .int .i64 g.cells, .slice IA il ic, .bool g.result, .int .i64 g.keep, .slice NA nn nc, .int .i64 g.entry] 44) := ⟨_, rfl⟩
   rw [← hW1] at hFb hb1
   rw [← hF] at hFb
   obtain ⟨HO4, HF4, HT4, HU4, Hb4, Hfk, HM, Hpn⟩ := hd8 hO4 hF4 hT4 hU4 hb4 hfk hM hpn
   obtain ⟨Hkn, Hil, Hnn, HrP, HrK, HrI, HrN, Hcs⟩ := hd8 hkn hil hnn rP rK rI rN hcs
   obtain ⟨Hcl, Hone, Hs5, HF, HW1, HF1, HB1⟩ := hd7 hcl hone s5 hF hW1 hFb hb1
   clear hb1 hFb hW1 hF s5 hone hcl hcs rN rI rK rP hnn hil hkn hpn hM hfk hb4 hU4 hT4 hF4 hO4
   go_upto_region 5 with fail
   rw [← HW1.out, ← HF.out]
   clear m0 m1 m2 m3 m4 m5 m6 m7
   have hsW1 : wr.heap.size ≤ W1.heap.size := HB1.out.size
   have hE := own_base (own_lit0 W1 3 1) (base' := wr.heap.size) (by omega)
   have hSrc : Reads (W1.alloc (.cells #[] 3)) B 1 PA pn (g.params.map (Value.int .i64)) := (HrP.out.below (HB1.out.mono (by omega))).alloc (by omega) _
   have hFl := HF1.out.lt
   have ka := HF1.out.cell 0
   simp only [List.getElem?_toArray, List.getElem?_cons_zero, List.getElem?_cons_succ] at ka
   obtain ⟨HE, HSrc⟩ := hd2 hE hSrc
   clear hSrc hE
   go_upto_region 6 with (first
   | (at_builtin
      refine wpList_append_any _ rfl (.tmp 14) (.tmp 16) _ rfl wr.heap.size 3 i0 _ 1 8 Tryd.underlying40 hi0 hz0 hz1 hz2 rfl (by omega) (.slice (some ⟨W1.heap.size, 0, none⟩) 0 0) 0 [] rfl HE.out B PA pn pc (g.params.map (Value.int .i64)) rfl HSrc.out ?c1 ?c2 ?c3 ?c4 ?_
      case c1 => exact nums_one _ _
      case c2 => unfold maxLen; omega
      case c3 => omega
      case c4 => simp; omega
      intro v5 w5 hown5 hg5 hat5
      have hO5 := own_app (ys := (g.params.map (Value.int .i64))) hown5 rfl
      obtain ⟨V0, x0, rfl, _⟩ := own_any hO5
      have hF5 := (HF1.out.alloc (.cells #[] 3)).grown hg5 (by intro e; injection e with e; simp only at e; omega)
      have k5 := Blk.cell hF5 0
      have f5 := Blk.frozen hF5 0
      simp only [List.getElem?_toArray, List.getElem?_cons_zero, List.getElem?_cons_succ] at k5))
   obtain ⟨W2, hW2⟩ : ∃ W2, W2 = w5.setCell ⟨F, 0, none⟩ (.slice V0 pn x0) := ⟨_, rfl⟩
   rw [← hW2]
   have hb5 : Below W1.heap.size W1 w5 := ((Below.refl _ _).alloc (Nat.le_refl _) _).grown hg5 (by simp) (fun k e => by injection e with e; simp only at e; omega)
   have hFn : Blk W2 F 44 #[.slice V0 pn x0, .slice KA kn kc, .int .i64 g.cells, .slice IA il ic, .bool g.result, .int .i64 g.keep, .slice NA nn nc, .int .i64 g.entry] := by rw [hW2]; exact hF5.set_ 0 _
   have hg6 : w5.grownBy W2 (some F) := by rw [hW2]; exact grown_setCell w5 ⟨F, 0, none⟩ _
   have hfar : Far w5 (some F) := Far.blk hF5 (by decide) (by decide) (by decide)
   have hbn : Below wr.heap.size wr W2 := by
    rw [hW2]
    exact (HB1.out.trans (hb5.mono hsW1)).setCell (p := ⟨F, 0, none⟩) (by have := HF.out; simp only; omega) _
   have own0 : IntsOwn W2 wr.heap.size (.slice V0 pn x0) g.params := by
    have h : IntsOwn w5 wr.heap.size (.slice V0 pn x0) g.params := by unfold IntsOwn; rw [Hpn.out]; exact hO5
    exact h.kept hg6 hfar
   obtain ⟨HF2, HB2, Hown00⟩ := hd3 hFn hbn own0
   clear own0 hbn hFn
   clear hW2 hown5 hO5 hg5 hat5 hb5 hF5 k5 f5 ka HE HSrc hFl hg6 hfar
   have hsW2 : wr.heap.size ≤ W2.heap.size := HB2.out.size
   have hE := own_base (own_lit0 W2 87 1) (base' := wr.heap.size) (by omega)
   have hSrc : Reads (W2.alloc (.cells #[] 87)) B 1 KA kn (g.kinds.map (Value.int .u8)) := (HrK.out.below (HB2.out.mono (by omega))).alloc (by omega) _
   have hFl := HF2.out.lt
   have ka := HF2.out.cell 1
   simp only [List.getElem?_toArray, List.getElem?_cons_zero, List.getElem?_cons_succ] at ka
   obtain ⟨HE, HSrc⟩ := hd2 hE hSrc
   clear hSrc hE
   go_upto_region 7 with (first
   | (at_builtin
      refine wpList_append_any _ rfl (.tmp 19) (.tmp 21) _ rfl wr.heap.size 87 ik _ 1 1 Tryd.underlying41 hik hkz0 hkz1 hkz2 rfl (by omega) (.slice (some ⟨W2.heap.size, 0, none⟩) 0 0) 0 [] rfl HE.out B KA kn kc (g.kinds.map (Value.int .u8)) rfl HSrc.out ?c1 ?c2 ?c3 ?c4 ?_
      case c1 => exact nums_one _ _
      case c2 => unfold maxLen; omega
      case c3 => omega
      case c4 => simp; omega
      intro v5 w5 hown5 hg5 hat5
      have hO5 := own_app (ys := (g.kinds.map (Value.int .u8))) hown5 rfl
      obtain ⟨V1, x1, rfl, _⟩ := own_any hO5
      have hF5 := (HF2.out.alloc (.cells #[] 87)).grown hg5 (by intro e; injection e with e; simp only at e; omega)
      have k5 := Blk.cell hF5 1
      have f5 := Blk.frozen hF5 1
      simp only [List.getElem?_toArray, List.getElem?_cons_zero, List.getElem?_cons_succ] at k5))
   obtain ⟨W3, hW3⟩ : ∃ W3, W3 = w5.setCell ⟨F, 1, none⟩ (.slice V1 kn x1) := ⟨_, rfl⟩
   rw [← hW3]
   have hb5 : Below W2.heap.size W2 w5 := ((Below.refl _ _).alloc (Nat.le_refl _) _).grown hg5 (by simp) (fun k e => by injection e with e; simp only at e; omega)
   have hFn : Blk W3 F 44 #[.slice V0 pn x0, .slice V1 kn x1, .int .i64 g.cells, .slice IA il ic, .bool g.result, .int .i64 g.keep, .slice NA nn nc, .int .i64 g.entry] := by rw [hW3]; exact hF5.set_ 1 _
   have hg6 : w5.grownBy W3 (some F) := by rw [hW3]; exact grown_setCell w5 ⟨F, 1, none⟩ _
   have hfar : Far w5 (some F) := Far.blk hF5 (by decide) (by decide) (by decide)
   have hbn : Below wr.heap.size wr W3 := by
    rw [hW3]
    exact (HB2.out.trans (hb5.mono hsW2)).setCell (p := ⟨F, 1, none⟩) (by have := HF.out; simp only; omega) _
   have own01 := (Hown00.out).kept (only_of_below hb5 none) (Far.none_ _) |>.kept hg6 hfar
   have own1 : KindsOwn W3 wr.heap.size (.slice V1 kn x1) g.kinds := by
    have h : KindsOwn w5 wr.heap.size (.slice V1 kn x1) g.kinds := by unfold KindsOwn; rw [Hkn.out]; exact hO5
    exact h.kept hg6 hfar
   obtain ⟨HF3, HB3, Hown01, Hown11⟩ := hd4 hFn hbn own01 own1
   clear own1 own01 hbn hFn
   clear hW3 hown5 hO5 hg5 hat5 hb5 hF5 k5 f5 ka HE HSrc hFl hg6 hfar
   have hsW3 : wr.heap.size ≤ W3.heap.size := HB3.out.size
   have hE := own_base (own_lit0 W3 3 1) (base' := wr.heap.size) (by omega)
   have hSrc : Reads (W3.alloc (.cells #[] 3)) B 1 IA il (g.init.map (Value.int .i64)) := (HrI.out.below (HB3.out.mono (by omega))).alloc (by omega) _
   have hFl := HF3.out.lt
   have ka := HF3.out.cell 3
   simp only [List.getElem?_toArray, List.getElem?_cons_zero, List.getElem?_cons_succ] at ka
   obtain ⟨HE, HSrc⟩ := hd2 hE hSrc
   clear hSrc hE
   go_upto_region 8 with (first
   | (at_builtin
      refine wpList_append_any _ rfl (.tmp 24) (.tmp 26) _ rfl wr.heap.size 3 i0 _ 1 8 Tryd.underlying40 hi0 hz0 hz1 hz2 rfl (by omega) (.slice (some ⟨W3.heap.size, 0, none⟩) 0 0) 0 [] rfl HE.out B IA il ic (g.init.map (Value.int .i64)) rfl HSrc.out ?c1 ?c2 ?c3 ?c4 ?_
      case c1 => exact nums_one _ _
      case c2 => unfold maxLen; omega
      case c3 => omega
      case c4 => simp; omega
      intro v5 w5 hown5 hg5 hat5
      have hO5 := own_app (ys := (g.init.map (Value.int .i64))) hown5 rfl
      obtain ⟨V2, x2, rfl, _⟩ := own_any hO5
      have hF5 := (HF3.out.alloc (.cells #[] 3)).grown hg5 (by intro e; injection e with e; simp only at e; omega)
      have k5 := Blk.cell hF5 3
      have f5 := Blk.frozen hF5 3
      simp only [List.getElem?_toArray, List.getElem?_cons_zero, List.getElem?_cons_succ] at k5))
   obtain ⟨W4, hW4⟩ : ∃ W4, W4 = w5.setCell ⟨F, 3, none⟩ (.slice V2 il x2) := ⟨_, rfl⟩
   rw [← hW4]
   have hb5 : Below W3.heap.size W3 w5 := ((Below.refl _ _).alloc (Nat.le_refl _) _).grown hg5 (by simp) (fun k e => by injection e with e; simp only at e; omega)
   have hFn : Blk W4 F 44 #[.slice V0 pn x0, .slice V1 kn x1, .int .i64 g.cells, .slice V2 il x2, .bool g.result, .int .i64 g.keep, .slice NA nn nc, .int .i64 g.entry] := by rw [hW4]; exact hF5.set_ 3 _
   have hg6 : w5.grownBy W4 (some F) := by rw [hW4]; exact grown_setCell w5 ⟨F, 3, none⟩ _
   have hfar : Far w5 (some F) := Far.blk hF5 (by decide) (by decide) (by decide)
   have hbn : Below wr.heap.size wr W4 := by
    rw [hW4]
    exact (HB3.out.trans (hb5.mono hsW3)).setCell (p := ⟨F, 3, none⟩) (by have := HF.out; simp only; omega) _
   have own02 := (Hown01.out).kept (only_of_below hb5 none) (Far.none_ _) |>.kept hg6 hfar
   have own12 := (Hown11.out).kept (only_of_below hb5 none) (Far.none_ _) |>.kept hg6 hfar
   have own2 : IntsOwn W4 wr.heap.size (.slice V2 il x2) g.init := by
    have h : IntsOwn w5 wr.heap.size (.slice V2 il x2) g.init := by unfold IntsOwn; rw [Hil.out]; exact hO5
    exact h.kept hg6 hfar
   obtain ⟨HF4, HB4, Hown02, Hown12, Hown22⟩ := hd5 hFn hbn own02 own12 own2
   clear own2 own12 own02 hbn hFn
   clear hW4 hown5 hO5 hg5 hat5 hb5 hF5 k5 f5 ka HE HSrc hFl hg6 hfar
   have hsW4 : wr.heap.size ≤ W4.heap.size := HB4.out.size
   have hE := own_base (own_lit0 W4 55 12) (base' := wr.heap.size) (by omega)
   have hSrc : Reads (W4.alloc (.cells #[] 55)) B 12 NA nn css.flatten := (HrN.out.below (HB4.out.mono (by omega))).alloc (by omega) _
   have hFl := HF4.out.lt
   have ka := HF4.out.cell 6
   simp only [List.getElem?_toArray, List.getElem?_cons_zero, List.getElem?_cons_succ] at ka
   obtain ⟨HE, HSrc⟩ := hd2 hE hSrc
   clear hSrc hE
   go_upto_region 9 with (first
   | (at_builtin
      refine wpList_append_any _ rfl (.tmp 29) (.tmp 31) _ rfl wr.heap.size 55 i1 _ 12 104 Tryd.underlying42 hi1 hv0 hv1 hv2 rfl (by omega) (.slice (some ⟨W4.heap.size, 0, none⟩) 0 0) 0 [] rfl HE.out B NA nn nc css.flatten rfl HSrc.out ?c1 ?c2 ?c3 ?c4 ?_
      case c1 => exact Hone.out
      case c2 => unfold maxLen; omega
      case c3 => omega
      case c4 => simp; omega
      intro v5 w5 hown5 hg5 hat5
      have hO5 := own_app (ys := css.flatten) hown5 rfl
      obtain ⟨V3, x3, rfl, _⟩ := own_any hO5
      have hF5 := (HF4.out.alloc (.cells #[] 55)).grown hg5 (by intro e; injection e with e; simp only at e; omega)
      have k5 := Blk.cell hF5 6
      have f5 := Blk.frozen hF5 6
      simp only [List.getElem?_toArray, List.getElem?_cons_zero, List.getElem?_cons_succ] at k5))
   obtain ⟨W5, hW5⟩ : ∃ W5, W5 = w5.setCell ⟨F, 6, none⟩ (.slice V3 nn x3) := ⟨_, rfl⟩
   rw [← hW5]
   have hb5 : Below W4.heap.size W4 w5 := ((Below.refl _ _).alloc (Nat.le_refl _) _).grown hg5 (by simp) (fun k e => by injection e with e; simp only at e; omega)
   have hFn : Blk W5 F 44 #[.slice V0 pn x0, .slice V1 kn x1, .int .i64 g.cells, .slice V2 il x2, .bool g.result, .int .i64 g.keep, .slice V3 nn x3, .int .i64 g.entry] := by rw [hW5]; exact hF5.set_ 6 _
   have hg6 : w5.grownBy W5 (some F) := by rw [hW5]; exact grown_setCell w5 ⟨F, 6, none⟩ _
   have hfar : Far w5 (some F) := Far.blk hF5 (by decide) (by decide) (by decide)
   have hbn : Below wr.heap.size wr W5 := by
    rw [hW5]
    exact (HB4.out.trans (hb5.mono hsW4)).setCell (p := ⟨F, 6, none⟩) (by have := HF.out; simp only; omega) _
   have own03 := (Hown02.out).kept (only_of_below hb5 none) (Far.none_ _) |>.kept hg6 hfar
   have own13 := (Hown12.out).kept (only_of_below hb5 none) (Far.none_ _) |>.kept hg6 hfar
   have own23 := (Hown22.out).kept (only_of_below hb5 none) (Far.none_ _) |>.kept hg6 hfar
   have mid : NodesMid W5 wr.heap.size B 0 (.slice V3 nn x3) g.nodes := by
    have h : NodesMid w5 wr.heap.size B 0 (.slice V3 nn x3) g.nodes := NodesMid.start (v0 := .slice none 0 0) Hnn.out Hcl.out hO5 fun i x hx => by
     obtain ⟨cs, q1, q2⟩ := Hcs.out i x hx
     exact ⟨cs, q1, q2.below ((HB4.out.trans (hb5.mono hsW4)).mono (by omega))⟩
    exact h.kept hg6 hfar (Nat.le_trans (by omega : B ≤ W4.heap.size) hb5.size) (fun g e => by injection e with e; subst e; have := HF.out; omega)
   obtain ⟨HF5, HB5, Hown03, Hown13, Hown23, Hmid⟩ := hd6 hFn hbn own03 own13 own23 mid
   clear mid own23 own13 own03 hbn hFn
   clear hW5 hown5 hO5 hg5 hat5 hb5 hF5 k5 f5 ka HE HSrc hFl hg6 hfar
   have hsW5 : wr.heap.size ≤ W5.heap.size := HB5.out.size
   have ka := HF5.out.cell 6
   simp only [List.getElem?_toArray, List.getElem?_cons_zero, List.getElem?_cons_succ] at ka
   go_wp2_with fail
   clear ka
   obtain ⟨wo, rfl⟩ : ∃ wo : World, wo = wr := ⟨_, rfl⟩
   go_loopw [37] (fun i wq => ∃ k : Nat, k ≤ nn ∧ i = .int .i64 k ∧ Below wo.heap.size wo wq ∧ Blk wq F 44 #[.slice V0 pn x0, .slice V1 kn x1, .int .i64 g.cells, .slice V2 il x2, .bool g.result, .int .i64 g.keep, .slice V3 nn x3, .int .i64 g.entry] ∧ IntsOwn wq wo.heap.size (.slice V0 pn x0) g.params ∧ KindsOwn wq wo.heap.size (.slice V1 kn x1) g.kinds ∧ IntsOwn wq wo.heap.size (.slice V2 il x2) g.init ∧ NodesMid wq wo.heap.size B k (.slice V3 nn x3) g.nodes) (fun i _ => nn - (intOf i).toNat)
   case atStart => exact ⟨0, by omega, rfl, HB5.out, HF5.out, Hown03.out, Hown13.out, Hown23.out, Hmid.out⟩
   case round =>
    obtain ⟨k, hk, rfl, hbq, hFq, hPq, hKq, hIq, hNq⟩ := hrel
    have hsq := hbq.size
    have hkn0 : nn ≤ 9223372036854775807 := by omega
    by_cases hlt2 : k < nn
    ·obtain ⟨nss, hnl, hno, hnx⟩ := id hNq
     have hjI : (k : Int) < nn := by omega
     obtain ⟨x, hxk⟩ : ∃ x, g.nodes[k]? = some x := ⟨_, List.getElem?_eq_getElem (by rw [Hnn.out]; exact hlt2)⟩
     obtain ⟨av, hav1, _, hav2⟩ := hnx k x hxk
     have hav := hav2 (Nat.le_refl _)
     have hl12 := ncells_len (P := fun _ _ _ => True) hnl fun i y hy => (hnx i y hy).imp fun a b => ⟨b.1, trivial⟩
     obtain ⟨AA, aac, rfl, _, _, hAr⟩ := hav.slice
     rw [Hnn.out] at hno hnl
     obtain ⟨GN, cN, eV, hGN, hGNl, _, _⟩ := own_form hno (by omega)
     injection eV with eV1 _ eV3
     subst eV1 eV3
     have hcell := hno.cells (g := GN) rfl
     have hc9 := hcell (k * 12 + 9) (.slice AA x.args.length aac) (by rw [flatten_get nss 12 k _ hav1 hl12 9 (by omega)]; rfl)
     rw [addr_zero] at hc9
     obtain ⟨NB, hNB⟩ := own_blk hno rfl
     have hfr := Blk.frozen hNB (k * 12 + 9)
     have kf6 := Blk.cell hFq 6
     simp only [List.getElem?_toArray, List.getElem?_cons_zero, List.getElem?_cons_succ] at kf6
     have hsx := Hs5.out x (List.mem_of_getElem? hxk)
     obtain ⟨xl, hxl⟩ : ∃ xl, x.args.length = xl := ⟨_, rfl⟩
     rw [hxl] at hc9 hAr hav1 hsx
     have hlF := hFq.lt
     have hlN := hNB.lt
     have hE := own_base (own_lit0 wr.drew 3 1) (base' := wo.heap.size) (show wo.heap.size ≤ wr.heap.size by omega)
     have hSrc : Reads (wr.drew.alloc (.cells #[] 3)) B 1 AA xl (x.args.map (Value.int .i64)) := (show Reads wr.drew B 1 AA xl (x.args.map (Value.int .i64)) from hAr).alloc (show B ≤ wr.heap.size by omega) _
     obtain ⟨Hbq, HFq, HPq, HKq, HIq, HNq, Hno, Hnl⟩ := hd8 hbq hFq hPq hKq hIq hNq hno hnl
     obtain ⟨Hnx, Hxk, Hav1, Hav, Hav2, Hl12, HAr, Hcell⟩ := hd8 hnx hxk hav1 hav hav2 hl12 hAr hcell
     obtain ⟨HNB, HE, HSrc, Hxl⟩ := hd4 hNB hE hSrc hxl
     clear hxl hSrc hE hNB hcell hAr hl12 hav2 hav hav1 hxk hnx hnl hno hNq hIq hKq hPq hFq hbq
     go_upto_region 12 with fail
     refine wp_region_late (S := fun W => W.cell? ⟨F, 6, none⟩ = some (.slice (some ⟨GN, 0, none⟩) nn x3) ∧ W.cell? ⟨GN, k * 12 + 9, none⟩ = some (.slice AA xl aac)) #[false, false, false, false, false, false, false, false, false, false, false, false, false, true] (by kernel_rfl) ⟨kf6, hc9⟩ (fun hHeld => ?_)
     refine wpAnyL_tk 0 ?_
     refine wpAnyL_tk 1 ?_
     refine wpAnyL_tk 2 ?_
     refine wpAnyL_tk 4 ?_
     refine wpAnyL_tk 5 ?_
     refine wpAnyL_tk 6 ?_
     refine wpAnyL_tk 7 ?_
     refine wpAnyL_tk 8 ?_
     refine wpAnyL_tk 9 ?_
     refine wpAnyL_ready (rs := [3]) (by kernel_rfl) (by simp) ?_
     refine AllReadyL.cons rfl (fun K hK => ?_) AllReadyL.nil
     go_simp
     have hal := (Below.refl wr.heap.size wr).drew.alloc (Nat.le_refl _) (.cells #[] 3)
     refine hK.out _ _ ⟨(hal.cell (p := ⟨F, 6, none⟩) hlF).trans kf6, (hal.cell (p := ⟨GN, k * 12 + 9, none⟩) hlN).trans hc9⟩ (fun hHeld2 => ?_)
     clear hK K hHeld
     try simp only [Act.put, List.getElem_toArray, List.getElem_cons_zero, List.getElem_cons_succ, List.setIfInBounds_toArray, List.set_cons_zero, List.set_cons_succ]
     refine wpAnyL_ready (rs := [10]) (by kernel_rfl) (by simp) ?_
     refine AllReadyL.cons rfl (fun K hK => ?_) AllReadyL.nil
     refine step_append_any _ rfl (.tmp 43) (.tmp 49) _ rfl wo.heap.size 3 i0 _ 1 8 Tryd.underlying40 hi0 hz0 hz1 hz2 rfl (by omega) (.slice (some ⟨wr.heap.size, 0, none⟩) 0 0) 0 [] rfl HE.out B AA xl aac (x.args.map (Value.int .i64)) rfl HSrc.out ?c1 ?c2 ?c3 ?c4 ?_
     case c1 => exact nums_one _ _
     case c2 => unfold maxLen; omega
     case c3 => omega
     case c4 => show wo.heap.size ≤ (wr.drew.alloc (.cells #[] 3)).heap.size; simp; omega
     intro v6 w6 hown6 hg6 hat6
     have hO6 := own_app (ys := x.args.map (Value.int .i64)) hown6 rfl
     obtain ⟨VX, vx, rfl, _⟩ := own_any hO6
     have hb6 : Below wr.heap.size wr w6 := hal.grown hg6 (by simp) (fun k e => by injection e with e; simp only at e; omega)
     have hc6 := (hb6.cell (p := ⟨F, 6, none⟩) hlF).trans kf6
     have hc69 := (hb6.cell (p := ⟨GN, k * 12 + 9, none⟩) hlN).trans hc9
     have hf69 := (hb6.frozen (p := ⟨GN, k * 12 + 9, none⟩) hlN).trans hfr
     refine hK.out _ _ ⟨hc6, hc69⟩ (fun hHeld3 => ?_)
     clear hK K hHeld2
     obtain ⟨Hown6, HO6, Hg6, Hat6, Hb6, Hal⟩ := hd6 hown6 hO6 hg6 hat6 hb6 hal
     clear hal hb6 hat6 hg6 hO6 hown6
     try simp only [Act.put, List.getElem_toArray, List.getElem_cons_zero, List.getElem_cons_succ, List.setIfInBounds_toArray, List.set_cons_zero, List.set_cons_succ]
     refine wpAnyL_tk 11 ?_
     refine wpAnyL_tk 12 ?_
     refine wpAnyL_ready (rs := [13]) (by kernel_rfl) (by simp) ?_
     refine AllReadyL.last rfl (by kernel_rfl) (fun K hK => ?_) AllReadyL.nil
     go_simp
     refine hK.out _ _ ?_
     clear hK K hHeld3
     refine wpAnyL_done (by kernel_rfl) ?_ _
     obtain ⟨W9, hW9⟩ : ∃ W9, W9 = w6.setCell ⟨GN, k * 12 + 9, none⟩ (.slice VX xl vx) := ⟨_, rfl⟩
     rw [← hW9]
     have e6 := Hb6.out
     have hbW : Below wr.heap.size wr w6 := e6
     have hF6 := HFq.out.below e6 hlF
     have hP6 := HPq.out.kept (only_of_below e6 none) (Far.none_ _)
     have hK6 := HKq.out.kept (only_of_below e6 none) (Far.none_ _)
     have hI6 := HIq.out.kept (only_of_below e6 none) (Far.none_ _)
     have hNB6 := HNB.out.below e6 hlN
     have hno6 := own_kept' Hno.out (only_of_below e6 none) nofun
     have hXo : IntsOwn w6 wo.heap.size (.slice VX xl vx) x.args := by unfold IntsOwn; rw [Hxl.out]; exact HO6.out
     have hmid6 := (HNq.out).kept (only_of_below e6 none) (Far.none_ _) (by omega) nofun
     have hmid9 := NodesMid.step hmid6 (by omega) Hxk.out Hnn.out hXo
     have hWb : Below wo.heap.size wo W9 := by
      rw [hW9]
      exact (Hbq.out.trans (e6.mono hsq)).setCell (p := ⟨GN, k * 12 + 9, none⟩) (by simp only; omega) _
     have hFW : Blk W9 F 44 #[.slice V0 pn x0, .slice V1 kn x1, .int .i64 g.cells, .slice V2 il x2, .bool g.result, .int .i64 g.keep, .slice (some ⟨GN, 0, none⟩) nn x3, .int .i64 g.entry] := by
      rw [hW9]
      exact hF6.far (p := ⟨GN, k * 12 + 9, none⟩) (Blk.ne_ hF6 hNB6 (by decide)) _
     have hPW : IntsOwn W9 wo.heap.size (.slice V0 pn x0) g.params := by rw [hW9]; exact IntsOwn.far hP6 hNB6 (by decide)
     have hKW : KindsOwn W9 wo.heap.size (.slice V1 kn x1) g.kinds := by rw [hW9]; exact KindsOwn.far hK6 hNB6 (by decide)
     have hIW : IntsOwn W9 wo.heap.size (.slice V2 il x2) g.init := by rw [hW9]; exact IntsOwn.far hI6 hNB6 (by decide)
     have hMW : NodesMid W9 wo.heap.size B (k + 1) (.slice (some ⟨GN, 0, none⟩) nn x3) g.nodes := by rw [hW9]; exact hmid9
     clear hmid6 hmid9 e6 hbW hF6 hP6 hK6 hI6 hNB6 hno6 hXo hc6 hc69 hf69 hW9 kf6 hc9 hfr
     obtain ⟨HWb, HFW, HPW, HKW, HIW, HMW⟩ := hd6 hWb hFW hPW hKW hIW hMW
     clear hMW hIW hKW hPW hFW hWb
     go_wp2_with fail
     exact ⟨⟨k + 1, by omega, by go_num, HWb.out, HFW.out, HPW.out, HKW.out, HIW.out, HMW.out⟩, by simp [intOf]; omega⟩
    ·obtain rfl : nn = k := by omega
     have hO7 := own_kept' HO4.out (only_of_below hbq none) nofun
     have hF7 := HF4.out.kept (only_of_below hbq none) (Far.none_ _)
     have hT7 := HT4.out.below hbq hTl
     have hU7 := HU4.out.below hbq HU4.out.lt
     have hbw7 := Hb4.out.trans (hbq.mono hsz4)
     have hGO : GraphOwn wr w.heap.size (gcells g (.slice V0 pn x0) (.slice V1 kn x1) (.slice V2 il x2) (.slice V3 nn x3)) g := by
      refine GraphOwn.base (base := wo.heap.size) ⟨_, _, _, _, rfl, hPq, hKq, hIq, ?_⟩ hsz4
      have h := hNq
      rw [← Hnn.out] at h ⊢
      exact h.fin
     have hT7l := hT7.lt
     have hsz7 := hbw7.size
     have hFS := hF7.snoc hGO
     have kt0 := Blk.cell hT7 0
     simp only [List.getElem?_toArray, List.getElem?_cons_zero, List.getElem?_cons_succ] at kt0
     have kf0 := Blk.cell hFq 0
     have kf1 := Blk.cell hFq 1
     have kf2 := Blk.cell hFq 2
     have kf3 := Blk.cell hFq 3
     have kf4 := Blk.cell hFq 4
     have kf5 := Blk.cell hFq 5
     have kf6 := Blk.cell hFq 6
     have kf7 := Blk.cell hFq 7
     simp only [List.getElem?_toArray, List.getElem?_cons_zero, List.getElem?_cons_succ] at kf0 kf1 kf2 kf3 kf4 kf5 kf6 kf7
     have hO7a := hO7.alloc (.cells #[.slice V0 pn x0, .slice V1 kn x1, .int .i64 g.cells, .slice V2 il x2, .bool g.result, .int .i64 g.keep, .slice V3 nn x3, .int .i64 g.entry] 44)
     have hT7a := hT7.alloc (.cells #[.slice V0 pn x0, .slice V1 kn x1, .int .i64 g.cells, .slice V2 il x2, .bool g.result, .int .i64 g.keep, .slice V3 nn x3, .int .i64 g.entry] 44)
     have hU7a := hU7.alloc (.cells #[.slice V0 pn x0, .slice V1 kn x1, .int .i64 g.cells, .slice V2 il x2, .bool g.result, .int .i64 g.keep, .slice V3 nn x3, .int .i64 g.entry] 44)
     obtain ⟨Hbq, HFq, HPq, HKq, HIq, HNq, HO7, HF7⟩ := hd8 hbq hFq hPq hKq hIq hNq hO7 hF7
     obtain ⟨HT7, HU7, Hbw7, HFS, HO7a, HT7a, HU7a, HGO⟩ := hd8 hT7 hU7 hbw7 hFS hO7a hT7a hU7a hGO
     clear hGO hU7a hT7a hO7a hFS hbw7 hU7 hT7 hF7 hO7 hNq hIq hKq hPq hFq hbq
     go_wp2_with (first
      | (at_builtin
         refine wpList_append_any _ rfl (.tmp 55) (.tmp 57) _ rfl w.heap.size 44 ig _ 8 128 Tryd.underlying22 hig hgz0 hgz1 hgz2 rfl (by omega) pv j cs4.flatten rfl HO7a.out (wr.heap.size + 1) (some ⟨wr.heap.size, 0, none⟩) 1 1 (gcells g (.slice V0 pn x0) (.slice V1 kn x1) (.slice V2 il x2) (.slice V3 nn x3)) rfl (Reads.newS _ rfl _ _ _ _ _ rfl rfl) ?c1 ?c2 ?c3 ?c4 ?_
         case c1 => intro u hu; simp only [gcells, List.mem_cons, List.not_mem_nil, or_false] at hu; rcases hu with rfl | rfl | rfl | rfl | rfl | rfl | rfl | rfl <;> rfl
         case c2 => unfold maxLen; omega
         case c3 => omega
         case c4 => simp; omega
         intro v9 w9 hown9 hg9 hat9
         obtain ⟨g9, c9, rfl, _⟩ := own_form hown9 (by omega)
         have hT9 := HT7a.out.grown hg9 (Ne.symm hnT)
         have kt9 := Blk.cell hT9 0
         have ft9 := Blk.frozen hT9 0
         simp only [List.getElem?_toArray, List.getElem?_cons_zero] at kt9))
     have hnU : pv.ownBlock ≠ some U := own_blk_ne HO7a.out HU7a.out (by decide)
     have hU9 := HU7a.out.grown hg9 (Ne.symm hnU)
     have hFSa := HFS.out.kept (World.grownBy_alloc wr (.cells #[.slice V0 pn x0, .slice V1 kn x1, .int .i64 g.cells, .slice V2 il x2, .bool g.result, .int .i64 g.keep, .slice V3 nn x3, .int .i64 g.entry] 44) none) (Far.none_ _)
     have hFS9 := hFSa.kept hg9 (fun g e => by
      obtain ⟨cs, h⟩ := own_blk HO7a.out e
      exact .inr ⟨_, cs, h, by decide, by decide, by decide⟩)
     have hFS10 := hFS9.kept (grown_setCell w9 ⟨T, 0, none⟩ (.slice (some ⟨g9, 0, none⟩) (j + 1) c9)) (Far.blk hT9 (by decide) (by decide) (by decide))
     refine ⟨⟨j + 1, by omega, by go_num, cs4 ++ [(gcells g (.slice V0 pn x0) (.slice V1 kn x1) (.slice V2 il x2) (.slice V3 nn x3))], _, ownsRow_setCell_other (a := ⟨T, 0, none⟩) ?_ (own_blk_ne hown9 hT9 (by decide)) _, ?_, Blk.set_ hT9 0 _, hU9.far (p := ⟨T, 0, none⟩) (by simp; omega) _, ((Hbw7.out.alloc hsz7 _).grown hg9 (by simp; omega) (fun k e => (HO7a.out.lt k e).1)).setCell (p := ⟨T, 0, none⟩) (by simp; omega) _⟩, by simp [intOf]; omega⟩
     ·rw [List.flatten_append]; simpa using hown9
     ·rw [List.take_add_one, Hfk.out]; exact hFS10
  ·obtain rfl : n = j := by omega
   obtain ⟨PA, pc, rfl, _⟩ := own_any hO4
   have kt0 := Blk.cell hT4 0
   simp only [List.getElem?_toArray, List.getElem?_cons_zero, List.getElem?_cons_succ] at kt0
   have ku0 := Blk.cell hU4 0
   simp only [List.getElem?_toArray, List.getElem?_cons_zero, List.getElem?_cons_succ] at ku0
   have fu0 := Blk.frozen hU4 0
   have hUT : w.heap.size ≤ U := o1
   have hrO : (wr.setCell ⟨U, 0, none⟩ (.slice PA n pc)).ownsRow w.heap.size 44 8 (.slice PA n pc) n cs4.flatten := ownsRow_setCell_other (a := ⟨U, 0, none⟩) hO4 (own_blk_ne hO4 hU4 (by decide)) _
   have hrF := hF4.kept (grown_setCell wr ⟨U, 0, none⟩ (.slice PA n pc)) (Far.blk hU4 (by decide) (by decide) (by decide))
   rw [List.take_of_length_le (by rw [HL.out]; omega)] at hrF
   have hrb := hb4.setCell (p := ⟨U, 0, none⟩) (by simp; omega) (.slice PA n pc)
   obtain ⟨HO4, HF4, HT4, HU4, Hb4, HrO, HrF, Hrb⟩ := hd8 hO4 hF4 hT4 hU4 hb4 hrO hrF hrb
   clear hrb hrF hrO hb4 hU4 hT4 hF4 hO4
   go_wp2_with fail
   refine bodyPost_ret (results_cell_row rfl _ _ U 24 _ (0, 0) _ rfl (Blk.set_ HU4.out 0 _) Tryd.underlying24 rfl (by kernel_rfl)) rfl ?_
   exact ⟨Hrb.out, _, cs4, rfl, by rw [HL.out]; exact HrO.out, HrF.out⟩
end Go.Proofs.YtnfjjliiajaijaaDoor
