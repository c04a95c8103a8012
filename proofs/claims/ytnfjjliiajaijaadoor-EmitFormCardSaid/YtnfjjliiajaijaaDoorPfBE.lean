/- Part of the proof, named by its texts: IrRefCopy Open OpenP OpenI. No condition of its own. -/
import Derived.Test.YtnfjjliiajaijaaDoorPfAA
import Derived.Test.YtnfjjliiajaijaaDoorPfAE
import Derived.Test.YtnfjjliiajaijaaDoorPfAZ
import Derived.Test.YtnfjjliiajaijaaDoorRows
import Derived.ProofKit
import Derived.OpenShut
import Derived.SizedLaws
import Derived.Deep.Slices
import Derived.Deep.Fields
import Derived.Test.YtnfjjliiajaijaaDoorPfAB
set_option linter.unusedVariables false
set_option linter.unusedSimpArgs false
set_option maxRecDepth 100000
set_option maxHeartbeats 16000000
namespace Go.Proofs.YtnfjjliiajaijaaDoor
open Go.RowKit
theorem zhZ (gsv : Value) (gs : List zad) (w : World) (B : Nat) (hp : zaI w B gsv gs) (hB : B <= w.heap.size) (hs : zcO gs) :
  Calls Tryd.prog 7 #[.agg #[gsv]] w fun e w' => zlW gs w e w' := by
 obtain ⟨i0, hi0, hz0, hz1, hz2⟩ := info_parts zdQ;obtain ⟨ik, hik, hkz0, hkz1, hkz2⟩ := info_parts zhr;obtain ⟨i1, hi1, hv0, hv1, hv2⟩ := info_parts ziH;obtain ⟨ig, hig, hgz0, hgz1, hgz2⟩ := info_parts zhs;obtain ⟨A, c, rfl, hc1, hc2⟩ := hp.slice;obtain ⟨n, hl⟩ := mn (gs.length);rw [hl] at hp hc1 ⊢;unfold maxLen at hc2;have hn128 := hs.len;rw [hl] at hn128;obtain ⟨HL, HP, HS⟩ := hd3 hl hp hs;clear hs hp hl;go_enter Tryd.func7, Tryd.ntmps7;go_wp2_with fail;obtain ⟨U, hU⟩ := nm (w.heap.size + 1);obtain ⟨T, hT⟩ := nm (w.heap.size + 1 + 1);rw [<- hT, <- hU];obtain ⟨W0, hW0⟩ := nm (((w.alloc (.cells #[.slice A n c] 24)).alloc (.cells #[.slice none 0 0] 24)).alloc (.cells #[.slice none 0 0] 24));rw [<- hW0]
 have hTb : Blk W0 T 24 #[.slice none 0 0] := by
  have := Blk.new ((w.alloc (.cells #[.slice A n c] 24)).alloc (.cells #[.slice none 0 0] 24)) 24 #[.slice none 0 0];simp only [World.size_alloc] at this;rw [hW0, hT]; exact this
 have hUb : Blk W0 U 24 #[.slice none 0 0] := by
  have := (Blk.new (w.alloc (.cells #[.slice A n c] 24)) 24 #[.slice none 0 0]).alloc (.cells #[.slice none 0 0] 24);simp only [World.size_alloc] at this;rw [hW0, hU]; exact this
 have hb0 : Below w.heap.size w W0 := by rw [hW0]; exact (((Below.refl _ _).alloc (Nat.le_refl _) _).alloc (by simp) _).alloc (by simp; omega) _
 have o1 : w.heap.size <= U := by omega
 have o2 : U < T := by omega
 obtain ⟨HTb, HUb, Hb0⟩ := hd3 hTb hUb hb0;clear hb0 hUb hTb;clear hW0 hT hU
 go_loopw [10] (fun i wr => ∃ j : Nat, j <= n /\ i = .int .i64 j /\ zmL w T U gs j wr) (fun i _ => n - (intOf i).toNat)
 case atStart => exact ⟨0, by omega, rfl, [], _, World.ownsRow_nil _ _ _ _, by simpa using zdx.nil _ _, HTb.out, HUb.out, Hb0.out⟩
 case round =>
  obtain ⟨j, hj, rfl, cs4, pv, hO4, hF4, hT4, hU4, hb4⟩ := hrel;have hsz4 := hb4.size;have hTl := hT4.lt
  by_cases hlt : j < n
  ·obtain ⟨g, hfk⟩ : ∃ g, gs[j]? = some g := ⟨_, List.getElem?_eq_getElem (by have := HL.out; omega)⟩
   obtain ⟨ad, pv0, kv0, iv0, nv0, hA, _, hM⟩ := (HP.out.below (hb4.mono hB)).at_ hfk;subst hA;obtain ⟨PA, pn, pc, KA, kn, kc, IA, il, ic, NA, nn, nc, rfl, rfl, rfl, rfl, hpn, hkn, hil, hnn⟩ := hM.forms;have m0 := hM.c0;have m1 := hM.c1;have m2 := hM.c2;have m3 := hM.c3;have m4 := hM.c4;have m5 := hM.c5;have m6 := hM.c6;have m7 := hM.c7;obtain ⟨s1, s2, s3, s4, s5⟩ := HS.out.each g (List.mem_of_getElem? hfk);rw [hpn] at s1;rw [hkn] at s2;rw [hil] at s3;rw [hnn] at s4
   have rP : zal wr B 1 PA pn (g.params.map (Value.int .i64)) := by
    obtain ⟨_, _, _, e, _, _, h3, h4⟩ := hM.params;injection e with e1 e2 e3;subst e1 e2 e3;exact h4
   have rK : zal wr B 1 KA kn (g.kinds.map (Value.int .u8)) := by
    obtain ⟨_, _, _, e, _, _, h3, h4⟩ := hM.kinds;injection e with e1 e2 e3;subst e1 e2 e3;exact h4
   have rI : zal wr B 1 IA il (g.init.map (Value.int .i64)) := by
    obtain ⟨_, _, _, e, _, _, h3, h4⟩ := hM.init;injection e with e1 e2 e3;subst e1 e2 e3;exact h4
   obtain ⟨css, hcl, rN, hcs, hnb⟩ : ∃ css : List (List Value), css.length = nn /\ zal wr B 12 NA nn css.flatten /\ (∀ (i : Nat) x, g.nodes[i]? = some x -> ∃ cs, css[i]? = some cs /\ zbj wr B cs x) /\ nn <= maxLen := by
    obtain ⟨_, _, _, css, e, q1, q2, h3, h4, h5, h6, h7⟩ := hM.nodes;injection e with e1 e2 e3;subst e1 e2 e3;exact ⟨css, h4, h6, h7, Nat.le_trans q1 q2⟩
   unfold maxLen at hnb;have hone := zkf (by rw [hcl, hnn]) hcs;have hnT : pv.ownBlock ≠ some T := zaq hO4 hT4 (by decide);obtain ⟨F, hF⟩ := nm (wr.heap.size);have hFb := Blk.new wr 44 #[.slice PA pn pc, .slice KA kn kc, .int .i64 g.cells, .slice IA il ic, .bool g.result, .int .i64 g.keep, .slice NA nn nc, .int .i64 g.entry];have hb1 := (Below.refl wr.heap.size wr).alloc (Nat.le_refl _) (.cells #[.slice PA pn pc, .slice KA kn kc, .int .i64 g.cells, .slice IA il ic, .bool g.result, .int .i64 g.keep, .slice NA nn nc, .int .i64 g.entry] 44);obtain ⟨W1, hW1⟩ := nm (wr.alloc (.cells #[.slice PA pn pc, .slice KA kn kc, .int .i64 g.cells, .slice IA il ic, .bool g.result, .int .i64 g.keep, .slice NA nn nc, .int .i64 g.entry] 44));rw [<- hW1] at hFb hb1;rw [<- hF] at hFb;obtain ⟨HO4, HF4, HT4, HU4, Hb4, Hfk, HM, Hpn⟩ := hd8 hO4 hF4 hT4 hU4 hb4 hfk hM hpn;obtain ⟨Hkn, Hil, Hnn, HrP, HrK, HrI, HrN, Hcs⟩ := hd8 hkn hil hnn rP rK rI rN hcs;obtain ⟨Hcl, Hone, Hs5, HF, HW1, HF1, HB1⟩ := hd7 hcl hone s5 hF hW1 hFb hb1;clear hb1 hFb hW1 hF s5 hone hcl hcs rN rI rK rP hnn hil hkn hpn hM hfk hb4 hU4 hT4 hF4 hO4;go_upto_region 5 with fail;rw [<- HW1.out, <- HF.out];clear m0 m1 m2 m3 m4 m5 m6 m7;have hsW1 : wr.heap.size <= W1.heap.size := HB1.out.size;have hE := zbD (zcR W1 3 1) (base' := wr.heap.size) (by omega);have hSrc : zal (W1.alloc (.cells #[] 3)) B 1 PA pn (g.params.map (Value.int .i64)) := (HrP.out.below (HB1.out.mono (by omega))).alloc (by omega) _;have hFl := HF1.out.lt;have ka := HF1.out.cell 0;simp only [List.getElem?_toArray, List.getElem?_cons_zero, List.getElem?_cons_succ] at ka;obtain ⟨HE, HSrc⟩ := hd2 hE hSrc;clear hSrc hE
   go_upto_region 6 with (first
   | (at_builtin
      refine zau _ rfl (.tmp 14) (.tmp 16) _ rfl wr.heap.size 3 i0 _ 1 8 Tryd.underlying40 hi0 hz0 hz1 hz2 rfl (by omega) (.slice (some ⟨W1.heap.size, 0, none⟩) 0 0) 0 [] rfl HE.out B PA pn pc (g.params.map (Value.int .i64)) rfl HSrc.out ?c1 ?c2 ?c3 ?c4 ?_
      case c1 => exact zbW _ _
      case c2 => unfold maxLen; omega
      case c3 => omega
      case c4 => simp; omega
      intro v5 w5 hown5 hg5 hat5;have hO5 := zdh (ys := (g.params.map (Value.int .i64))) hown5 rfl;obtain ⟨V0, x0, rfl, _⟩ := zak hO5;have hF5 := (HF1.out.alloc (.cells #[] 3)).grown hg5 (by intro e; injection e with e; simp only at e; omega);have k5 := Blk.cell hF5 0;have f5 := Blk.frozen hF5 0
      simp only [List.getElem?_toArray, List.getElem?_cons_zero, List.getElem?_cons_succ] at k5))
   obtain ⟨W2, hW2⟩ := nm (w5.setCell ⟨F, 0, none⟩ (.slice V0 pn x0));rw [<- hW2];have hb5 : Below W1.heap.size W1 w5 := ((Below.refl _ _).alloc (Nat.le_refl _) _).grown hg5 (by simp) (fun k e => by injection e with e; simp only at e; omega)
   have hFn : Blk W2 F 44 #[.slice V0 pn x0, .slice KA kn kc, .int .i64 g.cells, .slice IA il ic, .bool g.result, .int .i64 g.keep, .slice NA nn nc, .int .i64 g.entry] := by rw [hW2]; exact hF5.set_ 0 _
   have hg6 : w5.grownBy W2 (some F) := by rw [hW2]; exact zar w5 ⟨F, 0, none⟩ _
   have hfar : Far w5 (some F) := Far.blk hF5 (by decide) (by decide) (by decide)
   have hbn : Below wr.heap.size wr W2 := by
    rw [hW2];exact (HB1.out.trans (hb5.mono hsW1)).setCell (p := ⟨F, 0, none⟩) (by have := HF.out; simp only; omega) _
   have own0 : zat W2 wr.heap.size (.slice V0 pn x0) g.params := by
    have h : zat w5 wr.heap.size (.slice V0 pn x0) g.params := by unfold zat; rw [Hpn.out]; exact hO5
    exact h.kept hg6 hfar
   obtain ⟨HF2, HB2, Hown00⟩ := hd3 hFn hbn own0;clear own0 hbn hFn;clear hW2 hown5 hO5 hg5 hat5 hb5 hF5 k5 f5 ka HE HSrc hFl hg6 hfar;have hsW2 : wr.heap.size <= W2.heap.size := HB2.out.size;have hE := zbD (zcR W2 87 1) (base' := wr.heap.size) (by omega);have hSrc : zal (W2.alloc (.cells #[] 87)) B 1 KA kn (g.kinds.map (Value.int .u8)) := (HrK.out.below (HB2.out.mono (by omega))).alloc (by omega) _;have hFl := HF2.out.lt;have ka := HF2.out.cell 1;simp only [List.getElem?_toArray, List.getElem?_cons_zero, List.getElem?_cons_succ] at ka;obtain ⟨HE, HSrc⟩ := hd2 hE hSrc;clear hSrc hE
   go_upto_region 7 with (first
   | (at_builtin
      refine zau _ rfl (.tmp 19) (.tmp 21) _ rfl wr.heap.size 87 ik _ 1 1 Tryd.underlying41 hik hkz0 hkz1 hkz2 rfl (by omega) (.slice (some ⟨W2.heap.size, 0, none⟩) 0 0) 0 [] rfl HE.out B KA kn kc (g.kinds.map (Value.int .u8)) rfl HSrc.out ?c1 ?c2 ?c3 ?c4 ?_
      case c1 => exact zbW _ _
      case c2 => unfold maxLen; omega
      case c3 => omega
      case c4 => simp; omega
      intro v5 w5 hown5 hg5 hat5;have hO5 := zdh (ys := (g.kinds.map (Value.int .u8))) hown5 rfl;obtain ⟨V1, x1, rfl, _⟩ := zak hO5;have hF5 := (HF2.out.alloc (.cells #[] 87)).grown hg5 (by intro e; injection e with e; simp only at e; omega);have k5 := Blk.cell hF5 1;have f5 := Blk.frozen hF5 1
      simp only [List.getElem?_toArray, List.getElem?_cons_zero, List.getElem?_cons_succ] at k5))
   obtain ⟨W3, hW3⟩ := nm (w5.setCell ⟨F, 1, none⟩ (.slice V1 kn x1));rw [<- hW3];have hb5 : Below W2.heap.size W2 w5 := ((Below.refl _ _).alloc (Nat.le_refl _) _).grown hg5 (by simp) (fun k e => by injection e with e; simp only at e; omega)
   have hFn : Blk W3 F 44 #[.slice V0 pn x0, .slice V1 kn x1, .int .i64 g.cells, .slice IA il ic, .bool g.result, .int .i64 g.keep, .slice NA nn nc, .int .i64 g.entry] := by rw [hW3]; exact hF5.set_ 1 _
   have hg6 : w5.grownBy W3 (some F) := by rw [hW3]; exact zar w5 ⟨F, 1, none⟩ _
   have hfar : Far w5 (some F) := Far.blk hF5 (by decide) (by decide) (by decide)
   have hbn : Below wr.heap.size wr W3 := by
    rw [hW3];exact (HB2.out.trans (hb5.mono hsW2)).setCell (p := ⟨F, 1, none⟩) (by have := HF.out; simp only; omega) _
   have own01 := (Hown00.out).kept (zah hb5 none) (Far.none_ _) |>.kept hg6 hfar
   have own1 : zaY W3 wr.heap.size (.slice V1 kn x1) g.kinds := by
    have h : zaY w5 wr.heap.size (.slice V1 kn x1) g.kinds := by unfold zaY; rw [Hkn.out]; exact hO5
    exact h.kept hg6 hfar
   obtain ⟨HF3, HB3, Hown01, Hown11⟩ := hd4 hFn hbn own01 own1;clear own1 own01 hbn hFn;clear hW3 hown5 hO5 hg5 hat5 hb5 hF5 k5 f5 ka HE HSrc hFl hg6 hfar;have hsW3 : wr.heap.size <= W3.heap.size := HB3.out.size;have hE := zbD (zcR W3 3 1) (base' := wr.heap.size) (by omega);have hSrc : zal (W3.alloc (.cells #[] 3)) B 1 IA il (g.init.map (Value.int .i64)) := (HrI.out.below (HB3.out.mono (by omega))).alloc (by omega) _;have hFl := HF3.out.lt;have ka := HF3.out.cell 3;simp only [List.getElem?_toArray, List.getElem?_cons_zero, List.getElem?_cons_succ] at ka;obtain ⟨HE, HSrc⟩ := hd2 hE hSrc;clear hSrc hE
   go_upto_region 8 with (first
   | (at_builtin
      refine zau _ rfl (.tmp 24) (.tmp 26) _ rfl wr.heap.size 3 i0 _ 1 8 Tryd.underlying40 hi0 hz0 hz1 hz2 rfl (by omega) (.slice (some ⟨W3.heap.size, 0, none⟩) 0 0) 0 [] rfl HE.out B IA il ic (g.init.map (Value.int .i64)) rfl HSrc.out ?c1 ?c2 ?c3 ?c4 ?_
      case c1 => exact zbW _ _
      case c2 => unfold maxLen; omega
      case c3 => omega
      case c4 => simp; omega
      intro v5 w5 hown5 hg5 hat5;have hO5 := zdh (ys := (g.init.map (Value.int .i64))) hown5 rfl;obtain ⟨V2, x2, rfl, _⟩ := zak hO5;have hF5 := (HF3.out.alloc (.cells #[] 3)).grown hg5 (by intro e; injection e with e; simp only at e; omega);have k5 := Blk.cell hF5 3;have f5 := Blk.frozen hF5 3
      simp only [List.getElem?_toArray, List.getElem?_cons_zero, List.getElem?_cons_succ] at k5))
   obtain ⟨W4, hW4⟩ := nm (w5.setCell ⟨F, 3, none⟩ (.slice V2 il x2));rw [<- hW4];have hb5 : Below W3.heap.size W3 w5 := ((Below.refl _ _).alloc (Nat.le_refl _) _).grown hg5 (by simp) (fun k e => by injection e with e; simp only at e; omega)
   have hFn : Blk W4 F 44 #[.slice V0 pn x0, .slice V1 kn x1, .int .i64 g.cells, .slice V2 il x2, .bool g.result, .int .i64 g.keep, .slice NA nn nc, .int .i64 g.entry] := by rw [hW4]; exact hF5.set_ 3 _
   have hg6 : w5.grownBy W4 (some F) := by rw [hW4]; exact zar w5 ⟨F, 3, none⟩ _
   have hfar : Far w5 (some F) := Far.blk hF5 (by decide) (by decide) (by decide)
   have hbn : Below wr.heap.size wr W4 := by
    rw [hW4];exact (HB3.out.trans (hb5.mono hsW3)).setCell (p := ⟨F, 3, none⟩) (by have := HF.out; simp only; omega) _
   have own02 := (Hown01.out).kept (zah hb5 none) (Far.none_ _) |>.kept hg6 hfar;have own12 := (Hown11.out).kept (zah hb5 none) (Far.none_ _) |>.kept hg6 hfar
   have own2 : zat W4 wr.heap.size (.slice V2 il x2) g.init := by
    have h : zat w5 wr.heap.size (.slice V2 il x2) g.init := by unfold zat; rw [Hil.out]; exact hO5
    exact h.kept hg6 hfar
   obtain ⟨HF4, HB4, Hown02, Hown12, Hown22⟩ := hd5 hFn hbn own02 own12 own2;clear own2 own12 own02 hbn hFn;clear hW4 hown5 hO5 hg5 hat5 hb5 hF5 k5 f5 ka HE HSrc hFl hg6 hfar;have hsW4 : wr.heap.size <= W4.heap.size := HB4.out.size;have hE := zbD (zcR W4 55 12) (base' := wr.heap.size) (by omega);have hSrc : zal (W4.alloc (.cells #[] 55)) B 12 NA nn css.flatten := (HrN.out.below (HB4.out.mono (by omega))).alloc (by omega) _;have hFl := HF4.out.lt;have ka := HF4.out.cell 6;simp only [List.getElem?_toArray, List.getElem?_cons_zero, List.getElem?_cons_succ] at ka;obtain ⟨HE, HSrc⟩ := hd2 hE hSrc;clear hSrc hE
   go_upto_region 9 with (first
   | (at_builtin
      refine zau _ rfl (.tmp 29) (.tmp 31) _ rfl wr.heap.size 55 i1 _ 12 104 Tryd.underlying42 hi1 hv0 hv1 hv2 rfl (by omega) (.slice (some ⟨W4.heap.size, 0, none⟩) 0 0) 0 [] rfl HE.out B NA nn nc css.flatten rfl HSrc.out ?c1 ?c2 ?c3 ?c4 ?_
      case c1 => exact Hone.out
      case c2 => unfold maxLen; omega
      case c3 => omega
      case c4 => simp; omega
      intro v5 w5 hown5 hg5 hat5;have hO5 := zdh (ys := css.flatten) hown5 rfl;obtain ⟨V3, x3, rfl, _⟩ := zak hO5;have hF5 := (HF4.out.alloc (.cells #[] 55)).grown hg5 (by intro e; injection e with e; simp only at e; omega);have k5 := Blk.cell hF5 6;have f5 := Blk.frozen hF5 6
      simp only [List.getElem?_toArray, List.getElem?_cons_zero, List.getElem?_cons_succ] at k5))
   obtain ⟨W5, hW5⟩ := nm (w5.setCell ⟨F, 6, none⟩ (.slice V3 nn x3));rw [<- hW5];have hb5 : Below W4.heap.size W4 w5 := ((Below.refl _ _).alloc (Nat.le_refl _) _).grown hg5 (by simp) (fun k e => by injection e with e; simp only at e; omega)
   have hFn : Blk W5 F 44 #[.slice V0 pn x0, .slice V1 kn x1, .int .i64 g.cells, .slice V2 il x2, .bool g.result, .int .i64 g.keep, .slice V3 nn x3, .int .i64 g.entry] := by rw [hW5]; exact hF5.set_ 6 _
   have hg6 : w5.grownBy W5 (some F) := by rw [hW5]; exact zar w5 ⟨F, 6, none⟩ _
   have hfar : Far w5 (some F) := Far.blk hF5 (by decide) (by decide) (by decide)
   have hbn : Below wr.heap.size wr W5 := by
    rw [hW5];exact (HB4.out.trans (hb5.mono hsW4)).setCell (p := ⟨F, 6, none⟩) (by have := HF.out; simp only; omega) _
   have own03 := (Hown02.out).kept (zah hb5 none) (Far.none_ _) |>.kept hg6 hfar;have own13 := (Hown12.out).kept (zah hb5 none) (Far.none_ _) |>.kept hg6 hfar;have own23 := (Hown22.out).kept (zah hb5 none) (Far.none_ _) |>.kept hg6 hfar
   have mid : zbr W5 wr.heap.size B 0 (.slice V3 nn x3) g.nodes := by
    have h : zbr w5 wr.heap.size B 0 (.slice V3 nn x3) g.nodes := zbr.start (v0 := .slice none 0 0) Hnn.out Hcl.out hO5 fun i x hx => by
     obtain ⟨cs, q1, q2⟩ := Hcs.out i x hx;exact ⟨cs, q1, q2.below ((HB4.out.trans (hb5.mono hsW4)).mono (by omega))⟩
    exact h.kept hg6 hfar (Nat.le_trans (by omega : B <= W4.heap.size) hb5.size) (fun g e => by injection e with e; subst e; have := HF.out; omega)
   obtain ⟨HF5, HB5, Hown03, Hown13, Hown23, Hmid⟩ := hd6 hFn hbn own03 own13 own23 mid;clear mid own23 own13 own03 hbn hFn;clear hW5 hown5 hO5 hg5 hat5 hb5 hF5 k5 f5 ka HE HSrc hFl hg6 hfar;have hsW5 : wr.heap.size <= W5.heap.size := HB5.out.size;have ka := HF5.out.cell 6;simp only [List.getElem?_toArray, List.getElem?_cons_zero, List.getElem?_cons_succ] at ka;go_wp2_with fail;clear ka;obtain ⟨wo, rfl⟩ := nm (wr : World)
   go_loopw [37] (fun i wq => ∃ k : Nat, k <= nn /\ i = .int .i64 k /\ Below wo.heap.size wo wq /\ Blk wq F 44 #[.slice V0 pn x0, .slice V1 kn x1, .int .i64 g.cells, .slice V2 il x2, .bool g.result, .int .i64 g.keep, .slice V3 nn x3, .int .i64 g.entry] /\ zat wq wo.heap.size (.slice V0 pn x0) g.params /\ zaY wq wo.heap.size (.slice V1 kn x1) g.kinds /\ zat wq wo.heap.size (.slice V2 il x2) g.init /\ zbr wq wo.heap.size B k (.slice V3 nn x3) g.nodes) (fun i _ => nn - (intOf i).toNat)
   case atStart => exact ⟨0, by omega, rfl, HB5.out, HF5.out, Hown03.out, Hown13.out, Hown23.out, Hmid.out⟩
   case round =>
    obtain ⟨k, hk, rfl, hbq, hFq, hPq, hKq, hIq, hNq⟩ := hrel;have hsq := hbq.size
    have hkn0 : nn <= 9223372036854775807 := by omega
    by_cases hlt2 : k < nn
    ·obtain ⟨nss, hnl, hno, hnx⟩ := id hNq
     have hjI : (k : Int) < nn := by omega
     obtain ⟨x, hxk⟩ : ∃ x, g.nodes[k]? = some x := ⟨_, List.getElem?_eq_getElem (by rw [Hnn.out]; exact hlt2)⟩
     obtain ⟨av, hav1, _, hav2⟩ := hnx k x hxk;have hav := hav2 (Nat.le_refl _)
     have hl12 := zc5 (P := fun _ _ _ => True) hnl fun i y hy => (hnx i y hy).imp fun a b => ⟨b.1, trivial⟩
     obtain ⟨AA, aac, rfl, _, _, hAr⟩ := hav.slice;rw [Hnn.out] at hno hnl;obtain ⟨GN, cN, eV, hGN, hGNl, _, _⟩ := zbn hno (by omega);injection eV with eV1 _ eV3;subst eV1 eV3;have hcell := hno.cells (g := GN) rfl;have hc9 := hcell (k * 12 + 9) (.slice AA x.args.length aac) (by rw [zdl nss 12 k _ hav1 hl12 9 (by omega)]; rfl);rw [zbU] at hc9;obtain ⟨NB, hNB⟩ := zci hno rfl;have hfr := Blk.frozen hNB (k * 12 + 9);have kf6 := bc hFq 6;have hsx := Hs5.out x (List.mem_of_getElem? hxk);obtain ⟨xl, hxl⟩ := mn (x.args.length);rw [hxl] at hc9 hAr hav1 hsx;have hlF := hFq.lt;have hlN := hNB.lt;have hE := zbD (zcR wr.drew 3 1) (base' := wo.heap.size) (show wo.heap.size <= wr.heap.size by omega);have hSrc : zal (wr.drew.alloc (.cells #[] 3)) B 1 AA xl (x.args.map (Value.int .i64)) := (show zal wr.drew B 1 AA xl (x.args.map (Value.int .i64)) from hAr).alloc (show B <= wr.heap.size by omega) _;obtain ⟨Hbq, HFq, HPq, HKq, HIq, HNq, Hno, Hnl⟩ := hd8 hbq hFq hPq hKq hIq hNq hno hnl;obtain ⟨Hnx, Hxk, Hav1, Hav, Hav2, Hl12, HAr, Hcell⟩ := hd8 hnx hxk hav1 hav hav2 hl12 hAr hcell;obtain ⟨HNB, HE, HSrc, Hxl⟩ := hd4 hNB hE hSrc hxl;clear hxl hSrc hE hNB hcell hAr hl12 hav2 hav hav1 hxk hnx hnl hno hNq hIq hKq hPq hFq hbq;go_upto_region 12 with fail;refine zaf (S := fun W => W.cell? ⟨F, 6, none⟩ = some (.slice (some ⟨GN, 0, none⟩) nn x3) /\ W.cell? ⟨GN, k * 12 + 9, none⟩ = some (.slice AA xl aac)) #[false, false, false, false, false, false, false, false, false, false, false, false, false, true] (by kernel_rfl) ⟨kf6, hc9⟩ (fun hHeld => ?_);refine zaa 0 ?_;refine zaa 1 ?_;refine zaa 2 ?_;refine zaa 4 ?_;refine zaa 5 ?_;refine zaa 6 ?_;refine zaa 7 ?_;refine zaa 8 ?_;refine zaa 9 ?_;refine zag 3 (fun K hK => ?_);go_simp;have hal := (Below.refl wr.heap.size wr).drew.alloc (Nat.le_refl _) (.cells #[] 3);refine hK.out _ _ ⟨(hal.cell (p := ⟨F, 6, none⟩) hlF).trans kf6, (hal.cell (p := ⟨GN, k * 12 + 9, none⟩) hlN).trans hc9⟩ (fun hHeld2 => ?_);clear hK K hHeld;refine lay ?_;refine zag 10 (fun K hK => ?_);refine zaB _ rfl (.tmp 43) (.tmp 49) _ rfl wo.heap.size 3 i0 _ 1 8 Tryd.underlying40 hi0 hz0 hz1 hz2 rfl (by omega) (.slice (some ⟨wr.heap.size, 0, none⟩) 0 0) 0 [] rfl HE.out B AA xl aac (x.args.map (Value.int .i64)) rfl HSrc.out ?c1 ?c2 ?c3 ?c4 ?_
     case c1 => exact zbW _ _
     case c2 => unfold maxLen; omega
     case c3 => omega
     case c4 => show wo.heap.size <= (wr.drew.alloc (.cells #[] 3)).heap.size; simp; omega
     intro v6 w6 hown6 hg6 hat6;have hO6 := zdh (ys := x.args.map (Value.int .i64)) hown6 rfl;obtain ⟨VX, vx, rfl, _⟩ := zak hO6;have hb6 : Below wr.heap.size wr w6 := hal.grown hg6 (by simp) (fun k e => by injection e with e; simp only at e; omega);have hc6 := (hb6.cell (p := ⟨F, 6, none⟩) hlF).trans kf6;have hc69 := (hb6.cell (p := ⟨GN, k * 12 + 9, none⟩) hlN).trans hc9;have hf69 := (hb6.frozen (p := ⟨GN, k * 12 + 9, none⟩) hlN).trans hfr;refine hK.out _ _ ⟨hc6, hc69⟩ (fun hHeld3 => ?_);clear hK K hHeld2;obtain ⟨Hown6, HO6, Hg6, Hat6, Hb6, Hal⟩ := hd6 hown6 hO6 hg6 hat6 hb6 hal;clear hal hb6 hat6 hg6 hO6 hown6;refine lay ?_;refine zaa 11 ?_;refine zaa 12 ?_;refine zao 13 (fun K hK => ?_);go_simp;refine hK.out _ _ ?_;clear hK K hHeld3;refine zai (by kernel_rfl) ?_ _;obtain ⟨W9, hW9⟩ := nm (w6.setCell ⟨GN, k * 12 + 9, none⟩ (.slice VX xl vx));rw [<- hW9];have e6 := Hb6.out;have hbW : Below wr.heap.size wr w6 := e6;have hF6 := HFq.out.below e6 hlF;have hP6 := HPq.out.kept (zah e6 none) (Far.none_ _);have hK6 := HKq.out.kept (zah e6 none) (Far.none_ _);have hI6 := HIq.out.kept (zah e6 none) (Far.none_ _);have hNB6 := HNB.out.below e6 hlN;have hno6 := zaX Hno.out (zah e6 none) nofun
     have hXo : zat w6 wo.heap.size (.slice VX xl vx) x.args := by unfold zat; rw [Hxl.out]; exact HO6.out
     have hmid6 := (HNq.out).kept (zah e6 none) (Far.none_ _) (by omega) nofun;have hmid9 := zbr.step hmid6 (by omega) Hxk.out Hnn.out hXo
     have hWb : Below wo.heap.size wo W9 := by
      rw [hW9];exact (Hbq.out.trans (e6.mono hsq)).setCell (p := ⟨GN, k * 12 + 9, none⟩) (by simp only; omega) _
     have hFW : Blk W9 F 44 #[.slice V0 pn x0, .slice V1 kn x1, .int .i64 g.cells, .slice V2 il x2, .bool g.result, .int .i64 g.keep, .slice (some ⟨GN, 0, none⟩) nn x3, .int .i64 g.entry] := by
      rw [hW9];exact hF6.far (p := ⟨GN, k * 12 + 9, none⟩) (Blk.ne_ hF6 hNB6 (by decide)) _
     have hPW : zat W9 wo.heap.size (.slice V0 pn x0) g.params := by rw [hW9]; exact zat.far hP6 hNB6 (by decide)
     have hKW : zaY W9 wo.heap.size (.slice V1 kn x1) g.kinds := by rw [hW9]; exact zaY.far hK6 hNB6 (by decide)
     have hIW : zat W9 wo.heap.size (.slice V2 il x2) g.init := by rw [hW9]; exact zat.far hI6 hNB6 (by decide)
     have hMW : zbr W9 wo.heap.size B (k + 1) (.slice (some ⟨GN, 0, none⟩) nn x3) g.nodes := by rw [hW9]; exact hmid9
     clear hmid6 hmid9 e6 hbW hF6 hP6 hK6 hI6 hNB6 hno6 hXo hc6 hc69 hf69 hW9 kf6 hc9 hfr;obtain ⟨HWb, HFW, HPW, HKW, HIW, HMW⟩ := hd6 hWb hFW hPW hKW hIW hMW;clear hMW hIW hKW hPW hFW hWb;go_wp2_with fail;exact ⟨⟨k + 1, by omega, by go_num, HWb.out, HFW.out, HPW.out, HKW.out, HIW.out, HMW.out⟩, by simp [intOf]; omega⟩
    ·obtain rfl : nn = k := by omega
     have hO7 := zaX HO4.out (zah hbq none) nofun;have hF7 := HF4.out.kept (zah hbq none) (Far.none_ _);have hT7 := HT4.out.below hbq hTl;have hU7 := HU4.out.below hbq HU4.out.lt;have hbw7 := Hb4.out.trans (hbq.mono hsz4)
     have hGO : zbp wr w.heap.size (zaH g (.slice V0 pn x0) (.slice V1 kn x1) (.slice V2 il x2) (.slice V3 nn x3)) g := by
      refine zbp.base (base := wo.heap.size) ⟨_, _, _, _, rfl, hPq, hKq, hIq, ?_⟩ hsz4;have h := hNq;rw [<- Hnn.out] at h ⊢;exact h.fin
     have hT7l := hT7.lt;have hsz7 := hbw7.size;have hFS := hF7.snoc hGO;have kt0 := bc hT7 0;have kf0 := bc hFq 0;have kf1 := bc hFq 1;have kf2 := bc hFq 2;have kf3 := bc hFq 3;have kf4 := bc hFq 4;have kf5 := bc hFq 5;have kf6 := bc hFq 6;have kf7 := bc hFq 7;have hO7a := hO7.alloc (.cells #[.slice V0 pn x0, .slice V1 kn x1, .int .i64 g.cells, .slice V2 il x2, .bool g.result, .int .i64 g.keep, .slice V3 nn x3, .int .i64 g.entry] 44);have hT7a := hT7.alloc (.cells #[.slice V0 pn x0, .slice V1 kn x1, .int .i64 g.cells, .slice V2 il x2, .bool g.result, .int .i64 g.keep, .slice V3 nn x3, .int .i64 g.entry] 44);have hU7a := hU7.alloc (.cells #[.slice V0 pn x0, .slice V1 kn x1, .int .i64 g.cells, .slice V2 il x2, .bool g.result, .int .i64 g.keep, .slice V3 nn x3, .int .i64 g.entry] 44);obtain ⟨Hbq, HFq, HPq, HKq, HIq, HNq, HO7, HF7⟩ := hd8 hbq hFq hPq hKq hIq hNq hO7 hF7;obtain ⟨HT7, HU7, Hbw7, HFS, HO7a, HT7a, HU7a, HGO⟩ := hd8 hT7 hU7 hbw7 hFS hO7a hT7a hU7a hGO;clear hGO hU7a hT7a hO7a hFS hbw7 hU7 hT7 hF7 hO7 hNq hIq hKq hPq hFq hbq
     go_wp2_with (first
      | (at_builtin
         refine zau _ rfl (.tmp 55) (.tmp 57) _ rfl w.heap.size 44 ig _ 8 128 Tryd.underlying22 hig hgz0 hgz1 hgz2 rfl (by omega) pv j cs4.flatten rfl HO7a.out (wr.heap.size + 1) (some ⟨wr.heap.size, 0, none⟩) 1 1 (zaH g (.slice V0 pn x0) (.slice V1 kn x1) (.slice V2 il x2) (.slice V3 nn x3)) rfl (zal.newS _ rfl _ _ _ _ _ rfl rfl) ?c1 ?c2 ?c3 ?c4 ?_
         case c1 => intro u hu; simp only [zaH, List.mem_cons, List.not_mem_nil, or_false] at hu; rcases hu with rfl | rfl | rfl | rfl | rfl | rfl | rfl | rfl <;> rfl
         case c2 => unfold maxLen; omega
         case c3 => omega
         case c4 => simp; omega
         intro v9 w9 hown9 hg9 hat9;obtain ⟨g9, c9, rfl, _⟩ := zbn hown9 (by omega);have hT9 := HT7a.out.grown hg9 (Ne.symm hnT);have kt9 := Blk.cell hT9 0;have ft9 := Blk.frozen hT9 0
         simp only [List.getElem?_toArray, List.getElem?_cons_zero] at kt9))
     have hnU : pv.ownBlock ≠ some U := zaq HO7a.out HU7a.out (by decide);have hU9 := HU7a.out.grown hg9 (Ne.symm hnU);have hFSa := HFS.out.kept (World.grownBy_alloc wr (.cells #[.slice V0 pn x0, .slice V1 kn x1, .int .i64 g.cells, .slice V2 il x2, .bool g.result, .int .i64 g.keep, .slice V3 nn x3, .int .i64 g.entry] 44) none) (Far.none_ _)
     have hFS9 := hFSa.kept hg9 (fun g e => by
      obtain ⟨cs, h⟩ := zci HO7a.out e
      exact .inr ⟨_, cs, h, by decide, by decide, by decide⟩)
     have hFS10 := hFS9.kept (zar w9 ⟨T, 0, none⟩ (.slice (some ⟨g9, 0, none⟩) (j + 1) c9)) (Far.blk hT9 (by decide) (by decide) (by decide));refine ⟨⟨j + 1, by omega, by go_num, cs4 ++ [(zaH g (.slice V0 pn x0) (.slice V1 kn x1) (.slice V2 il x2) (.slice V3 nn x3))], _, ownsRow_setCell_other (a := ⟨T, 0, none⟩) ?_ (zaq hown9 hT9 (by decide)) _, ?_, Blk.set_ hT9 0 _, hU9.far (p := ⟨T, 0, none⟩) (by simp; omega) _, ((Hbw7.out.alloc hsz7 _).grown hg9 (by simp; omega) (fun k e => (HO7a.out.lt k e).1)).setCell (p := ⟨T, 0, none⟩) (by simp; omega) _⟩, by simp [intOf]; omega⟩
     ·rw [List.flatten_append]; simpa using hown9
     ·rw [List.take_add_one, Hfk.out]; exact hFS10
  ·obtain rfl : n = j := by omega
   obtain ⟨PA, pc, rfl, _⟩ := zak hO4;have kt0 := bc hT4 0;have ku0 := bc hU4 0;have fu0 := Blk.frozen hU4 0;have hUT : w.heap.size <= U := o1;have hrO : (wr.setCell ⟨U, 0, none⟩ (.slice PA n pc)).ownsRow w.heap.size 44 8 (.slice PA n pc) n cs4.flatten := ownsRow_setCell_other (a := ⟨U, 0, none⟩) hO4 (zaq hO4 hU4 (by decide)) _;have hrF := hF4.kept (zar wr ⟨U, 0, none⟩ (.slice PA n pc)) (Far.blk hU4 (by decide) (by decide) (by decide));rw [List.take_of_length_le (by rw [HL.out]; omega)] at hrF;have hrb := hb4.setCell (p := ⟨U, 0, none⟩) (by simp; omega) (.slice PA n pc);obtain ⟨HO4, HF4, HT4, HU4, Hb4, HrO, HrF, Hrb⟩ := hd8 hO4 hF4 hT4 hU4 hb4 hrO hrF hrb;clear hrb hrF hrO hb4 hU4 hT4 hF4 hO4;go_wp2_with fail;refine bodyPost_ret (results_cell_row rfl _ _ U 24 _ (0, 0) _ rfl (Blk.set_ HU4.out 0 _) Tryd.underlying24 rfl (by kernel_rfl)) rfl ?_;exact ⟨Hrb.out, _, cs4, rfl, by rw [HL.out]; exact HrO.out, HrF.out⟩
end Go.Proofs.YtnfjjliiajaijaaDoor
namespace Go.Proofs.YtnfjjliiajaijaaDoor
open Go.ChangeShapes Go.WideShapes Go.ChangeAt Go.RowKit
theorem zfy (k : IntKind) {H : Type} (l : List Int) : (lits (H := H) k l).length = l.length := by simp [lits]
theorem zjR {a : Int} (h : (Lit.int .u64 a).wf = true) : U64 a := by
 have := bounds_u64 h;unfold U64; omega
theorem lt_of_trod {H : Type} {enc : TypeId × Value -> H} {P : Program} {W : World} {b : Nat} {sp : Nat -> Bool} {hd : Bool} {t : TypeId} {v : Value} {d : DataW H} {p : List MemPlace} (h : DataW.Trod enc P W b sp hd t v d p) : ∀ x ∈ p, x.block < W.heap.size := by
 obtain ⟨m, hm⟩ := h; exact DataW.trod_lt m _ _ _ hm
theorem own : ownKnob Tryd.prog.godebug = none := by kernel_rfl
theorem laidOut : laidOutB Tryd.prog = true := by kernel_rfl
end Go.Proofs.YtnfjjliiajaijaaDoor
namespace Go.Proofs.YtnfjjliiajaijaaDoor
open Go.ChangeShapes Go.WideShapes Go.ChangeAt Go.RowKit Go.Deep
section
variable {H : Type} {enc : TypeId × Value -> H} {P : Program} {w : World}
def zdr (P : Program) (t : TypeId) (d : DataW H) : Prop := ∀ n ∈ d.weights P t, n <= reachBytes
theorem small_of_each {ts : List TypeId} {ds : List (DataW H)} {j : Nat} {t : TypeId} {d : DataW H} (hsz : (DataW.weightsEach P ts ds).all (· <= reachBytes) = true) (hts : ts[j]? = some t) (hds : ds[j]? = some d) : zdr P t d :=
 fun n hn => by simpa using List.all_eq_true.1 hsz n (DataW.weights_mem_each hts hds n hn)
theorem zdY {e : TypeId} {d : DataW H} {n : Nat} (hn : n ∈ d.weights P e) : ∀ {l : List (DataW H)}, d ∈ l -> n ∈ DataW.weightsAll P e l
 | x :: r, h => by
  simp only [DataW.weightsAll, List.mem_append]
  rcases List.mem_cons.1 h with rfl | h
  ·exact .inl hn
  ·exact .inr (zdY hn h)
theorem zdr.slice {t e : TypeId} {elems spare : List (DataW H)} (h : zdr P t (.slice elems spare)) (hu : P.underlying t = some (.slice e)) : (elems.length + spare.length) * P.bytesOf e <= reachBytes /\ ∀ d ∈ elems, zdr P e d := by
 unfold zdr at h;simp only [DataW.weights, hu, List.mem_cons, List.mem_append] at h;exact ⟨h _ (.inl rfl), fun d hd n hn => h n (.inr (.inl (zdY hn hd)))⟩
theorem zdr.part {t : TypeId} {fs : Array Field} {parts : List (DataW H)} (h : zdr P t (.agg parts)) (hu : P.underlying t = some (.struct fs)) {j : Nat} {f : Field} {d : DataW H} (hf : fs[j]? = some f) (hd : parts[j]? = some d) : zdr P f.type d := by
 unfold zdr at h;simp only [DataW.weights, hu] at h
 exact fun n hn => h n (DataW.weights_mem_each (j := j) (by simp [List.getElem?_map, hf]) hd n hn)
theorem ziG {β γ : Type} {Q : Nat -> β -> γ -> Prop} : ∀ {n : Nat}, (∀ i, i < n -> ∃ b c, Q i b c) -> ∃ (bs : List β) (cs : List γ), bs.length = n /\ cs.length = n /\ ∀ (i : Nat) b c, bs[i]? = some b -> cs[i]? = some c -> Q i b c
 | 0, _ => ⟨[], [], rfl, rfl, by simp⟩
 | n + 1, h => by
  obtain ⟨bs, cs, h1, h2, h3⟩ := ziG (n := n) fun i hi => h i (by omega)
  obtain ⟨b, c, hq⟩ := h n (by omega);refine ⟨bs ++ [b], cs ++ [c], by simp [h1], by simp [h2], fun i b' c' hb hc => ?_⟩
  rcases Nat.lt_or_ge i n with hi | hi
  ·rw [List.getElem?_append_left (by omega)] at hb hc;exact h3 i b' c' hb hc
  ·have hi' : i < (bs ++ [b]).length := (List.getElem?_eq_some_iff.1 hb).1
   have hin : i = n := by simp [h1] at hi'; omega
   subst hin;rw [List.getElem?_append_right (by omega), h1, Nat.sub_self] at hb;rw [List.getElem?_append_right (by omega), h2, Nat.sub_self] at hc;simp at hb hc;subst hb hc;exact hq
theorem zgh {size : Nat} (h0 : 0 < size) : ∀ (css : List (List Value)), (∀ c ∈ css, c.length = size) -> ∀ (j : Nat) (u : Value), css.flatten[j]? = some u -> ∃ c, css[j / size]? = some c /\ c[j % size]? = some u
 | [], _, j, u, h => by simp at h
 | x :: r, hl, j, u, h => by
  have hx := hl x List.mem_cons_self;rw [List.flatten_cons] at h
  rcases Nat.lt_or_ge j size with hj | hj
  ·rw [List.getElem?_append_left (by omega)] at h;exact ⟨x, by rw [Nat.div_eq_of_lt hj]; rfl, by rw [Nat.mod_eq_of_lt hj]; exact h⟩
  ·rw [List.getElem?_append_right (by omega), hx] at h;obtain ⟨c, h1, h2⟩ := zgh h0 r (fun c hc => hl c (List.mem_cons_of_mem _ hc)) (j - size) u h
   have e1 : j / size = (j - size) / size + 1 := by
    conv => lhs; rw [show j = j - size + size by omega]
    rw [Nat.add_div_right _ h0]
   have e2 : j % size = (j - size) % size := by
    conv => lhs; rw [show j = j - size + size by omega]
    rw [Nat.add_mod_right]
   exact ⟨c, by rw [e1, List.getElem?_cons_succ]; exact h1, by rw [e2]; exact h2⟩
theorem zdZ {size : Nat} : ∀ (css : List (List Value)), (∀ c ∈ css, c.length = size) -> css.flatten.length = css.length * size
 | [], _ => by simp
 | x :: r, hl => by
  rw [List.flatten_cons, List.length_append, hl x List.mem_cons_self, zdZ r fun c hc => hl c (List.mem_cons_of_mem _ hc), List.length_cons, Nat.add_mul]; omega
theorem zhd {α : Type} {t e size by_ : Nat} (ht : P.underlying t = some (.slice e)) (hC : P.cellsOf e = size) (hB : P.bytesOf e = by_) (h0 : 0 < size) (R : List Value -> α -> Prop)
  (hel : ∀ fuel cs' x, DataW.trod enc P w 0 (fun _ => true) true fuel e cs' = some x -> zdr P e x.1 -> cs'.length = size -> ∃ a, R cs' a)
  {fuel : Nat} {cs : List Value} {x : DataW H × List MemPlace} (h : DataW.trod enc P w 0 (fun _ => true) true fuel t cs = some x) (hs : zdr P t x.1) :
  ∃ (A : Option Addr) (n c : Nat) (css : List (List Value)) (al : List α), cs = [.slice A n c] /\ n <= c /\ c <= maxLen /\ c * by_ <= 140737488351232 /\ css.length = n /\ al.length = n /\ (∀ c ∈ css, c.length = size) /\ zal w w.heap.size size A n css.flatten /\
   ∀ (i : Nat) a, al[i]? = some a -> ∃ cs', css[i]? = some cs' /\ R cs' a := by
 have lt := DataW.trod_lt _ _ _ _ h
 rcases open_slice ht h with ⟨rfl, rfl⟩ | ⟨ad, len, cap, m, n, D, Pl, rfl, hb, hl, hm, hmm, rfl, hi⟩
 ·exact ⟨none, 0, 0, [], [], rfl, Nat.le_refl _, by unfold maxLen; omega, by omega, rfl, rfl, by simp, zal.none_, by simp⟩
 ·simp only [if_true] at hmm;subst hmm;rw [hC] at hi lt;obtain ⟨hw1, hw2⟩ := hs.slice ht;rw [List.length_map, List.length_map, List.length_range, List.length_range, hB] at hw1
  have hx : ∀ i, i < len -> ∃ cs' a, w.cells? 0 (ad.add (i * size)) size = some cs' /\ R cs' a := fun i hil => by
   obtain ⟨cs', hc, htr⟩ := hi i (by omega);obtain ⟨a, ha⟩ := hel n cs' _ htr (hw2 _ (List.mem_map.2 ⟨i, List.mem_range.2 hil, rfl⟩)) (World.cells?_some hc).2.1;exact ⟨cs', a, hc, ha⟩
  obtain ⟨css, al, h1, h2, h3⟩ := ziG hx
  have hsz : ∀ c ∈ css, c.length = size := fun c hc => by
   obtain ⟨i, hi', rfl⟩ := List.getElem_of_mem hc;exact (World.cells?_some (h3 i css[i] al[i] (List.getElem?_eq_getElem hi') (List.getElem?_eq_getElem (by omega))).1).2.1
  refine ⟨some ad, len, m, css, al, rfl, hl, hm, ?_, h1, h2, hsz, ⟨by rw [zdZ css hsz, h1], fun hn => ⟨ad, rfl, ?_, fun j u hu => ?_⟩⟩, fun i a ha => ?_⟩
  ·have : len + (m - len) = m := by omega
   rw [this] at hw1;exact hw1
  ·exact lt (.cell ad.block (ad.off + 0)) (List.mem_append_left _ (List.mem_map.2 ⟨0, List.mem_range.2 (Nat.mul_pos (by omega) h0), rfl⟩))
  ·obtain ⟨c, hc1, hc2⟩ := zgh h0 css hsz j u hu;have hci : j / size < css.length := (List.getElem?_eq_some_iff.1 hc1).1;have hq := (h3 (j / size) c al[j / size] hc1 (List.getElem?_eq_getElem (by omega))).1;have hat := (World.cells?_some hq).2.2 (j % size) (Nat.mod_lt _ h0);rw [zgm, Nat.mul_comm, Nat.div_add_mod, hc2] at hat;exact hat
  ·have hia : i < al.length := (List.getElem?_eq_some_iff.1 ha).1;exact ⟨css[i], List.getElem?_eq_getElem (by omega), (h3 i css[i] a (List.getElem?_eq_getElem (by omega)) ha).2⟩
theorem zkb {t e by_ : Nat} {k : IntKind} (ht : P.underlying t = some (.slice e)) (he : P.underlying e = some (.int k)) (hC : P.cellsOf e = 1) (hB : P.bytesOf e = by_)
  {fuel : Nat} {cs : List Value} {x : DataW H × List MemPlace} (h : DataW.trod enc P w 0 (fun _ => true) true fuel t cs = some x) (hs : zdr P t x.1) :
  ∃ (A : Option Addr) (n c : Nat) (zs : List Int), cs = [.slice A n c] /\ zal w w.heap.size 1 A n (zs.map (Value.int k)) /\ zs.length = n /\ n <= c /\ c <= maxLen /\ c * by_ <= 140737488351232 /\ ∀ z ∈ zs, (Lit.int k z).wf = true := by
 have lt := DataW.trod_lt _ _ _ _ h
 rcases open_ints ht he hC h with ⟨rfl, rfl⟩ | ⟨x, l, c', zs, rfl, _, hl, hm, hz, rfl, hcell, hwz⟩
 ·exact ⟨none, 0, 0, [], rfl, zal.none_, rfl, Nat.le_refl _, by unfold maxLen; omega, by omega, by simp⟩
 ·simp only [if_true] at hz;have hr := (hs.slice ht).1;rw [zfy, zfy, hB, List.length_take, List.length_drop, hz, Nat.min_eq_left hl, Nat.add_sub_cancel' hl] at hr;refine ⟨_, _, _, zs.take l, rfl, ⟨by simp [hz, hl], fun hn => ⟨x, rfl, ?_, ?_⟩⟩, by simp [hz, hl], hl, hm, hr, fun z hz' => hwz z (List.mem_of_mem_take hz')⟩
  ·exact lt (.cell x.block (x.off + 0)) (List.mem_map.2 ⟨0, List.mem_range.2 (by rw [hz]; omega), rfl⟩)
  ·intro i u hu;rw [List.getElem?_map, Option.map_eq_some_iff] at hu;obtain ⟨y, hy, rfl⟩ := hu
   have hit : i < l := by
    have := (List.getElem?_eq_some_iff.1 hy).1;rw [List.length_take] at this; omega
   rw [hcell i (by omega)];rw [List.getElem?_take_of_lt hit] at hy;simp [List.getD_eq_getElem?_getD, hy]
theorem zd8 {t : TypeId} {fs : Array Field} (hu : P.underlying t = some (.struct fs)) (hone : oneCellFields P fs = true) (hC : P.cellsOf t = fs.size)
  {fuel : Nat} {cs : List Value} {x : DataW H × List MemPlace} (h : DataW.trod enc P w 0 (fun _ => true) true fuel t cs = some x) (hs : zdr P t x.1) :
  cs.length = fs.size /\ ∀ (j : Nat) (f : Field), fs[j]? = some f -> ∃ v n y, cs[j]? = some v /\ DataW.trod enc P w 0 (fun _ => true) true n f.type [v] = some y /\ zdr P f.type y.1 := by
 obtain ⟨ys, n, _, rfl, hlen, hyl, hf⟩ := DataW.trod_struct hu h;rw [hC] at hlen;refine ⟨hlen, fun j f hj => ?_⟩;obtain ⟨ho, hk⟩ := hone_of hone j f hj;have hjl : j < fs.size := (Array.getElem?_eq_some_iff.1 hj).1;have h1 := hf j f hj;rw [ho, hk] at h1
 have hone' : (cs.drop j).take 1 = [cs[j]'(by omega)] := by
  rw [List.drop_eq_getElem_cons (by omega)]
  rfl
 rw [hone'] at h1;have hys : ys[j]? = some (ys[j]'(by omega)) := List.getElem?_eq_getElem (by omega);exact ⟨_, n, _, List.getElem?_eq_getElem (by omega), h1.trans hys, hs.part hu hj (by rw [List.getElem?_map, hys]; rfl)⟩
end
end Go.Proofs.YtnfjjliiajaijaaDoor
namespace Go.Proofs.YtnfjjliiajaijaaDoor
open Go.ChangeShapes Go.WideShapes Go.ChangeAt Go.RowKit Go.Deep
def I64 (n : Int) : Prop := -9223372036854775808 <= n /\ n <= 9223372036854775807
def U8 (n : Int) : Prop := 0 <= n /\ n <= 255
structure zl5 (x : zam) : Prop where
 op : U8 x.op
 byo : U8 x.byo
 d : I64 x.d
 e : I64 x.e
 a : I64 x.a
 b : I64 x.b
 f : I64 x.f
 cell : I64 x.cell
 imm : U64 x.imm
 next : I64 x.next
 els : I64 x.els
 args : ∀ z ∈ x.args, I64 z
 len : x.args.length * 8 <= 140737488351232
structure zkY (g : zad) : Prop where
 params : ∀ z ∈ g.params, I64 z
 kinds : ∀ z ∈ g.kinds, U8 z
 cells : I64 g.cells
 init : ∀ z ∈ g.init, I64 z
 keep : I64 g.keep
 entry : I64 g.entry
 nodes : ∀ x ∈ g.nodes, zl5 x
 lenP : g.params.length * 8 <= 140737488351232
 lenK : g.kinds.length <= 140737488351232
 lenI : g.init.length * 8 <= 140737488351232
 lenN : g.nodes.length * 104 <= 140737488351232
structure zeB (gs : List zad) : Prop where
 each : ∀ g ∈ gs, zkY g
 len : gs.length * 128 <= 140737488351232
def zl6 (w : World) (cs : List Value) (x : zam) : Prop := zbj w w.heap.size cs x /\ zl5 x
def zkZ (w : World) (cs : List Value) (g : zad) : Prop := zds w w.heap.size cs g /\ zkY g
def zgU (w : World) (v : Value) (gs : List zad) : Prop := zaI w w.heap.size v gs /\ zeB gs
section
variable {H : Type} {enc : TypeId × Value -> H} {w : World}
theorem zce {v : Value} {u : Value} (h : [v] = [u]) : v = u := by injection h
theorem wf_i64 {n : Int} (h : (Lit.int .i64 n).wf = true) : I64 n := by
 have := bounds_i64 h;unfold I64; omega
theorem wf_u8 {n : Int} (h : (Lit.int .u8 n).wf = true) : U8 n := by
 have := bounds_u8 h;unfold U8; omega
theorem wf_u64 {n : Int} (h : (Lit.int .u64 n).wf = true) : U64 n := zjR h
theorem zgz {k : IntKind} {t e by_ : Nat} (ht : Tryd.prog.underlying t = some (.slice e)) (he : Tryd.prog.underlying e = some (.int k)) (hC : Tryd.prog.cellsOf e = 1) (hB : Tryd.prog.bytesOf e = by_) {fuel : Nat} {v : Value} {x : DataW H × List MemPlace} (h : DataW.trod enc Tryd.prog w 0 (fun _ => true) true fuel t [v] = some x) (hs : zdr Tryd.prog t x.1) :
  ∃ zs : List Int, zaO k w w.heap.size v zs /\ (∀ z ∈ zs, (Lit.int k z).wf = true) /\ zs.length * by_ <= 140737488351232 := by
 obtain ⟨A, n, c, zs, e, hr, hl, hn, hc, hb, hw⟩ := zkb ht he hC hB h hs;obtain rfl := zce e;exact ⟨zs, ⟨A, n, c, rfl, hn, hc, hl, hr⟩, hw, by rw [hl]; exact Nat.le_trans (Nat.mul_le_mul_right _ hn) hb⟩
theorem zkc {fuel : Nat} {cs : List Value} {x : DataW H × List MemPlace} (h : DataW.trod enc Tryd.prog w 0 (fun _ => true) true fuel 55 cs = some x) (hs : zdr Tryd.prog 55 x.1) : ∃ n : zam, zl6 w cs n := by
 obtain ⟨hl, hf⟩ := zd8 Tryd.underlying55 (by kernel_rfl) (by kernel_rfl) h hs;obtain ⟨v0, n0, y0, h0, t0, s0⟩ := hf 0 _ rfl;obtain ⟨v1, n1, y1, h1, t1, s1⟩ := hf 1 _ rfl;obtain ⟨v2, n2, y2, h2, t2, s2⟩ := hf 2 _ rfl;obtain ⟨v3, n3, y3, h3, t3, s3⟩ := hf 3 _ rfl;obtain ⟨v4, n4, y4, h4, t4, s4⟩ := hf 4 _ rfl;obtain ⟨v5, n5, y5, h5, t5, s5⟩ := hf 5 _ rfl;obtain ⟨v6, n6, y6, h6, t6, s6⟩ := hf 6 _ rfl;obtain ⟨v7, n7, y7, h7, t7, s7⟩ := hf 7 _ rfl;obtain ⟨v8, n8, y8, h8, t8, s8⟩ := hf 8 _ rfl;obtain ⟨v9, n9, y9, h9, t9, s9⟩ := hf 9 _ rfl;obtain ⟨v10, n10, y10, h10, t10, s10⟩ := hf 10 _ rfl;obtain ⟨v11, n11, y11, h11, t11, s11⟩ := hf 11 _ rfl;obtain ⟨a0, e0, _, w0⟩ := DataW.trod_int Tryd.underlying51 t0;obtain ⟨a1, e1, _, w1⟩ := DataW.trod_int Tryd.underlying52 t1;obtain ⟨a2, e2, _, w2⟩ := DataW.trod_int Tryd.underlying3 t2;obtain ⟨a3, e3, _, w3⟩ := DataW.trod_int Tryd.underlying3 t3;obtain ⟨a4, e4, _, w4⟩ := DataW.trod_int Tryd.underlying3 t4;obtain ⟨a5, e5, _, w5⟩ := DataW.trod_int Tryd.underlying3 t5;obtain ⟨a6, e6, _, w6⟩ := DataW.trod_int Tryd.underlying3 t6;obtain ⟨a7, e7, _, w7⟩ := DataW.trod_int Tryd.underlying3 t7;obtain ⟨a10, e10, _, w10⟩ := DataW.trod_int Tryd.underlying3 t10;obtain ⟨a11, e11, _, w11⟩ := DataW.trod_int Tryd.underlying3 t11;obtain ⟨a8, e8, _, w8⟩ := DataW.trod_int Tryd.underlying53 t8;obtain ⟨zs, z1, z2, z3⟩ := zgz Tryd.underlying40 Tryd.underlying3 (by kernel_rfl) (by_ := 8) (by kernel_rfl) t9 s9;obtain rfl := zce e0;obtain rfl := zce e1;obtain rfl := zce e2;obtain rfl := zce e3;obtain rfl := zce e4;obtain rfl := zce e5;obtain rfl := zce e6;obtain rfl := zce e7;obtain rfl := zce e8;obtain rfl := zce e10;obtain rfl := zce e11
 match cs, hl with
 | [c0, c1, c2, c3, c4, c5, c6, c7, c8, c9, c10, c11], _ =>
  simp only [List.getElem?_cons_zero, List.getElem?_cons_succ, Option.some.injEq] at h0 h1 h2 h3 h4 h5 h6 h7 h8 h9 h10 h11;subst h0 h1 h2 h3 h4 h5 h6 h7 h8 h9 h10 h11;exact ⟨⟨a0, a1, a2, a3, a4, a5, a6, a7, a8, zs, a10, a11⟩, ⟨_, rfl, z1⟩, ⟨wf_u8 w0, wf_u8 w1, wf_i64 w2, wf_i64 w3, wf_i64 w4, wf_i64 w5, wf_i64 w6, wf_i64 w7, wf_u64 w8, wf_i64 w10, wf_i64 w11, fun z hz => wf_i64 (z2 z hz), z3⟩⟩
theorem zi7 {fuel : Nat} {cs : List Value} {x : DataW H × List MemPlace} (h : DataW.trod enc Tryd.prog w 0 (fun _ => true) true fuel 44 cs = some x) (hs : zdr Tryd.prog 44 x.1) : ∃ g : zad, zkZ w cs g := by
 obtain ⟨hl, hf⟩ := zd8 Tryd.underlying44 (by kernel_rfl) (by kernel_rfl) h hs;obtain ⟨v0, n0, y0, h0, t0, s0⟩ := hf 0 _ rfl;obtain ⟨v1, n1, y1, h1, t1, s1⟩ := hf 1 _ rfl;obtain ⟨v2, n2, y2, h2, t2, s2⟩ := hf 2 _ rfl;obtain ⟨v3, n3, y3, h3, t3, s3⟩ := hf 3 _ rfl;obtain ⟨v4, n4, y4, h4, t4, s4⟩ := hf 4 _ rfl;obtain ⟨v5, n5, y5, h5, t5, s5⟩ := hf 5 _ rfl;obtain ⟨v6, n6, y6, h6, t6, s6⟩ := hf 6 _ rfl;obtain ⟨v7, n7, y7, h7, t7, s7⟩ := hf 7 _ rfl;obtain ⟨ps, p1, p2, p3⟩ := zgz Tryd.underlying40 Tryd.underlying3 (by kernel_rfl) (by_ := 8) (by kernel_rfl) t0 s0;obtain ⟨ks, k1, k2, k3⟩ := zgz Tryd.underlying41 Tryd.underlying87 (by kernel_rfl) (by_ := 1) (by kernel_rfl) t1 s1;obtain ⟨a2, e2, _, w2⟩ := DataW.trod_int Tryd.underlying3 t2;obtain ⟨is, i1, i2, i3⟩ := zgz Tryd.underlying40 Tryd.underlying3 (by kernel_rfl) (by_ := 8) (by kernel_rfl) t3 s3;obtain ⟨a4, e4, _⟩ := DataW.trod_bool Tryd.underlying4 t4;obtain ⟨a5, e5, _, w5⟩ := DataW.trod_int Tryd.underlying3 t5;obtain ⟨a7, e7, _, w7⟩ := DataW.trod_int Tryd.underlying3 t7;obtain ⟨A, n, c, css, xs, e6, hn, hc, hr, q1, q2, q3, q4, q5⟩ := zhd Tryd.underlying42 (by kernel_rfl) (by kernel_rfl) (by omega) (zl6 w) (fun _ _ _ a b _ => zkc a b) t6 s6 (size := 12) (by_ := 104);obtain rfl := zce e2;obtain rfl := zce e4;obtain rfl := zce e5;obtain rfl := zce e6;obtain rfl := zce e7
 match cs, hl with
 | [c0, c1, c2, c3, c4, c5, c6, c7], _ =>
  simp only [List.getElem?_cons_zero, List.getElem?_cons_succ, Option.some.injEq] at h0 h1 h2 h3 h4 h5 h6 h7;subst h0 h1 h2 h3 h4 h5 h6 h7;refine ⟨⟨ps, ks, a2, is, a4, a5, xs, a7⟩, ⟨_, _, _, _, rfl, p1, k1, i1, ⟨A, n, c, css, rfl, hn, hc, q2, q1, q3, q4, fun i y hy => ?_⟩⟩, ⟨fun z hz => wf_i64 (p2 z hz), fun z hz => wf_u8 (k2 z hz), wf_i64 w2, fun z hz => wf_i64 (i2 z hz), wf_i64 w5, wf_i64 w7, fun y hy => ?_, p3, by simpa using k3, i3, ?_⟩⟩
  ·obtain ⟨cs', r1, r2⟩ := q5 i y hy;exact ⟨cs', r1, r2.1⟩
  ·obtain ⟨k, hk, rfl⟩ := List.getElem_of_mem hy;obtain ⟨_, _, r⟩ := q5 k _ (List.getElem?_eq_getElem hk);exact r.2
  ·show xs.length * 104 <= _
   omega
theorem zml {fuel : Nat} {v : Value} {x : DataW H × List MemPlace} (h : DataW.trod enc Tryd.prog w 0 (fun _ => true) true fuel 22 [v] = some x) (hs : zdr Tryd.prog 22 x.1) : ∃ gs : List zad, zgU w v gs := by
 obtain ⟨A, n, c, css, gs, e, hn, hc, hr, h1, h2, h3, h4, h5⟩ := zhd Tryd.underlying22 (by kernel_rfl) (by kernel_rfl) (by omega) (zkZ w) (fun _ _ _ a b _ => zi7 a b) h hs (size := 8) (by_ := 128);obtain rfl := zce e;refine ⟨gs, ⟨A, n, c, css, rfl, hn, hc, h2, h1, h3, h4, fun i g hg => ?_⟩, ⟨fun g hg => ?_, by omega⟩⟩
 ·obtain ⟨cs', q1, q2⟩ := h5 i g hg;exact ⟨cs', q1, q2.1⟩
 ·obtain ⟨k, hk, rfl⟩ := List.getElem_of_mem hg;obtain ⟨_, _, q⟩ := h5 k _ (List.getElem?_eq_getElem hk);exact q.2
theorem open_graphs {r : Reach} {b0 : Nat} {v : Value} {d : DataW H} {p : List MemPlace} (hv : Value.okWide Tryd.prog w r b0 24 v) (h : DataW.Trod enc Tryd.prog w 0 (fun _ => true) true 24 v d p) (hs : zdr Tryd.prog 24 d) :
  ∃ (gv : Value) (gs : List zad), v = .agg #[gv] /\ zgU w gv gs := by
 obtain ⟨cs, rfl, hsz⟩ := okWide_struct Tryd.underlying24 hv;obtain ⟨fuel, hf⟩ := h;obtain ⟨hl, hff⟩ := zd8 Tryd.underlying24 (by kernel_rfl) (by kernel_rfl) hf hs;obtain ⟨v0, n0, y0, h0, t0, s0⟩ := hff 0 _ rfl;obtain ⟨gs, hgs⟩ := zml t0 s0;obtain ⟨l⟩ := cs
 match l, hl with
 | [c0], _ =>
  simp [Value.cells] at h0;subst h0;exact ⟨_, gs, rfl, hgs⟩
end
end Go.Proofs.YtnfjjliiajaijaaDoor
