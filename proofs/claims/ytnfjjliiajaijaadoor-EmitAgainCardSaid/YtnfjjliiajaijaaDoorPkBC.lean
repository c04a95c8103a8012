/- The walk of the law EmitAgain. Conditions: what the law's arguments are read as; the table of the bits. -/
import Derived.Test.YtnfjjliiajaijaaDoorPkAA
import Derived.Test.YtnfjjliiajaijaaDoorPkAY
import Derived.Test.YtnfjjliiajaijaaDoorPkAZ
import Derived.Test.YtnfjjliiajaijaaDoorPkBB
set_option linter.unusedVariables false
set_option linter.unusedSimpArgs false
set_option maxRecDepth 100000
set_option maxHeartbeats 10000000
namespace Go.Proofs.YtnfjjliiajaijaaDoor
open Go.RowKit

theorem GraphsWf.small {gs : List GraphD} (h : GraphsWf gs) : GsSmall gs := ⟨fun g hg => ⟨(h.each g hg).lenP, (h.each g hg).lenK, (h.each g hg).lenI, (h.each g hg).lenN, fun x hx => ((h.each g hg).nodes x hx).len⟩, h.len⟩
theorem GraphsWf.imm {gs : List GraphD} (h : GraphsWf gs) : ∀ g ∈ gs, ∀ x ∈ g.nodes, U64 x.imm := fun g hg x hx => ((h.each g hg).nodes x hx).imm
theorem bytes_u8 (l : List Int) : ∀ v ∈ byteVals l, ∃ z, v = .int .u8 z := fun v hv => by
 unfold byteVals at hv
 obtain ⟨z, _, rfl⟩ := List.mem_map.1 hv
 exact ⟨z, rfl⟩
theorem own_below {w w' : World} {base size n : Nat} {e : TypeId} {v : Value} {xs : List Value} (h : w.ownsRow base e size v n xs) (hb : Below w.heap.size w w') : w'.ownsRow base e size v n xs :=
 own_kept' h (only_of_below hb none) nofun
theorem walk_EmitAgain (w : World) (gv0 : Value) (gs0 : List GraphD) (hg0 : GraphsIn w gv0 gs0) (gv1 : Value) (gs1 : List GraphD) (hg1 : GraphsIn w gv1 gs1) (ht : TabX w) :
  Calls Tryd.prog 4 #[.agg #[gv0], .agg #[gv1]] w fun e w' => e = .returned (.bool true) ∧ Below w.heap.size w w' := by
 obtain ⟨hgs0, hwf0⟩ := hg0
 obtain ⟨hgs1, hwf1⟩ := hg1
 have hsm0 := hwf0.small
 have hsm1 := hwf1.small
 have him0 := hwf0.imm
 have him1 := hwf1.imm
 obtain ⟨G, hG⟩ : ∃ G, G = w.heap.size := ⟨_, rfl⟩
 obtain ⟨G1, hG1⟩ : ∃ G1, G1 = w.heap.size + 1 := ⟨_, rfl⟩
 obtain ⟨A0, c0, rfl, hc01, hc02⟩ := hgs0.slice
 obtain ⟨A1, c1, rfl, hc11, hc12⟩ := hgs1.slice
 obtain ⟨n0, hn0⟩ : ∃ n0, gs0.length = n0 := ⟨_, rfl⟩
 obtain ⟨n1, hn1⟩ : ∃ n1, gs1.length = n1 := ⟨_, rfl⟩
 rw [hn0] at hgs0 hc01 ⊢
 rw [hn1] at hgs1 hc11 ⊢
 obtain ⟨cs, hcs⟩ : ∃ cs, codeB gs0 = cs := ⟨_, rfl⟩
 obtain ⟨L, hL⟩ : ∃ L, cs.length = L := ⟨_, rfl⟩
 obtain ⟨rn, hrn⟩ : ∃ rn, rowsN gs0 = rn := ⟨_, rfl⟩
 obtain ⟨sn, hsn⟩ : ∃ sn, sitesN gs0 = sn := ⟨_, rfl⟩
 obtain ⟨er, her⟩ : ∃ er, emitErr gs0 = er := ⟨_, rfl⟩
 obtain ⟨S, hS⟩ : ∃ S, strOfNums cs = S := ⟨_, rfl⟩
 have hP := (Blk.new w 24 #[.slice A0 n0 c0]).alloc (.cells #[.slice A1 n1 c1] 24)
 have hP1 := Blk.new2 w (.cells #[.slice A0 n0 c0] 24) 24 #[.slice A1 n1 c1]
 have hb := ((Below.refl w.heap.size w).alloc (Nat.le_refl _) (.cells #[.slice A0 n0 c0] 24)).alloc (by simp) (.cells #[.slice A1 n1 c1] 24)
 obtain ⟨V, hV⟩ : ∃ V, V = (w.alloc (.cells #[.slice A0 n0 c0] 24)).alloc (.cells #[.slice A1 n1 c1] 24) := ⟨_, rfl⟩
 rw [← hV] at hP hP1 hb
 rw [← hG] at hP
 rw [← hG1] at hP1
 have hA0 : ∀ W, Below w.heap.size w W → GraphsAt W w.heap.size (.slice A0 n0 c0) gs0 := fun W h => hgs0.below h
 have hA1 : ∀ W, Below w.heap.size w W → GraphsAt W w.heap.size (.slice A1 n1 c1) gs1 := fun W h => hgs1.below h
 have hT : ∀ W, Below w.heap.size w W → TabX W := fun W h => ht.below h ht.1
 obtain ⟨Hb, HP, HP1, HV, HG, HG1, Hsm0, Hsm1⟩ := hd8 hb hP hP1 hV hG hG1 hsm0 hsm1
 obtain ⟨Him0, Him1, Hgs0, Hgs1, Hwf0, Hwf1, Hn0, Hn1⟩ := hd8 him0 him1 hgs0 hgs1 hwf0 hwf1 hn0 hn1
 obtain ⟨Hcs, HL, Hrn, Hsn, Her, HS, HA0, HA1⟩ := hd8 hcs hL hrn hsn her hS hA0 hA1
 obtain ⟨HT, Ht⟩ := hd2 hT ht
 clear ht hT hA1 hA0 hS her hsn hrn hL hcs hn1 hn0 hwf1 hwf0 hgs1 hgs0 him1 him0 hsm1 hsm0 hG1 hG hV hP1 hP hb
 go_enter Tryd.func4, Tryd.ntmps4
 go_upto_region 1 with fail
 rw [← HG1.out, ← HV.out, ← HG.out]
 go_wp2_with fail
 refine (first_any V (HT.out _ Hb.out)).mono ?_
 rintro e w1 ⟨rfl, hb1⟩
 have hz0 := Hb.out.size
 have hbw1 := Hb.out.trans (hb1.mono hz0)
 have hz1 := hbw1.size
 have hQ := HP.out.below hb1 HP.out.lt
 have hQ1 := HP1.out.below hb1 HP1.out.lt
 have kp0 := Blk.cell hQ 0
 simp only [List.getElem?_toArray, List.getElem?_cons_zero, List.getElem?_cons_succ] at kp0
 have hem := emit_any (HA0.out _ hbw1) hz1 Hsm0.out Him0.out (HT.out _ hbw1)
 obtain ⟨Hb1, Hbw1, HQ, HQ1, Hem⟩ := hd5 hb1 hbw1 hQ hQ1 hem
 clear hem hQ1 hQ hbw1 hb1
 go_wp2_with fail
 refine Hem.out.mono ?_
 intro e w2 hp
 obtain ⟨hb2, BA, bc, FA, fc, SA, sc, he, hO⟩ := emit_out hp
 clear hp
 rw [Hcs.out, HL.out, Hrn.out, Hsn.out, Her.out] at he
 rw [Hcs.out, HL.out] at hO
 subst he
 have hbw2 := Hbw1.out.trans (hb2.mono hz1)
 obtain ⟨R, hR⟩ : ∃ R, R = w2.heap.size := ⟨_, rfl⟩
 have hI := Blk.new w2 33 #[.slice BA L bc, .slice FA rn fc, .slice SA sn sc]
 have hal := (Below.refl w2.heap.size w2).alloc (Nat.le_refl _) (.cells #[.slice BA L bc, .slice FA rn fc, .slice SA sn sc] 33)
 obtain ⟨V2, hV2⟩ : ∃ V2, V2 = w2.alloc (.cells #[.slice BA L bc, .slice FA rn fc, .slice SA sn sc] 33) := ⟨_, rfl⟩
 rw [← hV2] at hI hal
 rw [← hR] at hI
 have hz2 := hbw2.size
 have hbv2 := hbw2.trans (hal.mono hz2)
 have hQ2 := (HQ.out.below hb2 HQ.out.lt).below hal (HQ.out.below hb2 HQ.out.lt).lt
 have hQ12 := (HQ1.out.below hb2 HQ1.out.lt).below hal (HQ1.out.below hb2 HQ1.out.lt).lt
 have hO2 := own_below hO hal
 have hzv2 := hbv2.size
 clear kp0
 have kq0 := Blk.cell hQ12 0
 simp only [List.getElem?_toArray, List.getElem?_cons_zero, List.getElem?_cons_succ] at kq0
 have hem := emit_any (HA1.out _ hbv2) hzv2 Hsm1.out Him1.out (HT.out _ hbv2)
 obtain ⟨Hb2, Hbw2, HR, HI, Hal, HV2, Hbv2, HQ2⟩ := hd8 hb2 hbw2 hR hI hal hV2 hbv2 hQ2
 obtain ⟨HQ12, HO2, HO, Hem1⟩ := hd4 hQ12 hO2 hO hem
 clear hem hO hO2 hQ12 hQ2 hbv2 hV2 hal hI hR hbw2 hb2
 go_upto_region 4 with fail
 rw [← HV2.out, ← HR.out]
 go_wp2_with fail
 refine Hem1.out.mono ?_
 intro e w3 hp
 obtain ⟨hb3, BA', bc', FA', fc', SA', sc', he, _⟩ := emit_out hp
 clear hp
 subst he
 have hbw3 := Hbv2.out.trans (hb3.mono hzv2)
 have hz3 := hbw3.size
 have hI3 := HI.out.below hb3 HI.out.lt
 have hQ3 := HQ2.out.below hb3 HQ2.out.lt
 have hO3 := own_below HO2.out hb3
 have hcv : (convert 27 9 (.slice BA L bc)).run Tryd.prog w3 = .ok (.string S) w3 := by rw [← HS.out]; exact conv_readsE w3 (Reads.of_own hO3)
 clear kq0
 have ki0 := Blk.cell hI3 0
 simp only [List.getElem?_toArray, List.getElem?_cons_zero, List.getElem?_cons_succ] at ki0
 have kp0 := Blk.cell hQ3 0
 simp only [List.getElem?_toArray, List.getElem?_cons_zero, List.getElem?_cons_succ] at kp0
 have hcp := refcopy_any (.slice A0 n0 c0) gs0 w3 w.heap.size (HA0.out _ hbw3) hz3 Hsm0.out
 obtain ⟨Hb3, Hbw3, HI3, HQ3, HO3, Hcp⟩ := hd6 hb3 hbw3 hI3 hQ3 hO3 hcp
 clear hcp hO3 hQ3 hI3 hbw3 hb3
 go_wp2_with fail
 refine Hcp.out.mono ?_
 rintro e w4 ⟨hb4, pv, css, rfl, hW, hC⟩
 rw [Hn0.out] at hW
 obtain ⟨PA, pc, rfl, _⟩ := own_any hW
 have hA4 := hC.at_ (by rw [Hn0.out]; exact hW)
 have hbw4 := Hbw3.out.trans (hb4.mono hz3)
 have hz4 := hbw4.size
 have hem := emit_any hA4 (Nat.le_refl _) Hsm0.out Him0.out (HT.out _ hbw4)
 obtain ⟨Hb4, Hbw4, HC, HW, HA4, Hem2⟩ := hd6 hb4 hbw4 hC hW hA4 hem
 clear hem hA4 hW hC hbw4 hb4
 go_wp2_with fail
 refine Hem2.out.mono ?_
 intro e w5 hp
 obtain ⟨hb5, BB, bbc, FB, fbc, SB, sbc, he, hOb⟩ := emit_out hp
 clear hp
 rw [Hcs.out, HL.out, Hrn.out, Hsn.out, Her.out] at he
 rw [Hcs.out, HL.out] at hOb
 subst he
 have hbw5 := Hbw4.out.trans (hb5.mono hz4)
 obtain ⟨R1, hR1⟩ : ∃ R1, R1 = w5.heap.size := ⟨_, rfl⟩
 have hJ := Blk.new w5 33 #[.slice BB L bbc, .slice FB rn fbc, .slice SB sn sbc]
 have hal5 := (Below.refl w5.heap.size w5).alloc (Nat.le_refl _) (.cells #[.slice BB L bbc, .slice FB rn fbc, .slice SB sn sbc] 33)
 obtain ⟨V5, hV5⟩ : ∃ V5, V5 = w5.alloc (.cells #[.slice BB L bbc, .slice FB rn fbc, .slice SB sn sbc] 33) := ⟨_, rfl⟩
 rw [← hV5] at hJ hal5
 rw [← hR1] at hJ
 have hz5 := hbw5.size
 have hbv5 := hbw5.trans (hal5.mono hz5)
 have hO4 := own_below HO3.out Hb4.out
 have hO5 := own_below (own_below hO4 hb5) hal5
 have hgl := hO4.lt
 have hI4 := HI3.out.below Hb4.out HI3.out.lt
 have hI5 := hI4.below hb5 hI4.lt
 have hI6 := hI5.below hal5 hI5.lt
 have hQ4 := HQ3.out.below Hb4.out HQ3.out.lt
 have hQ5 := hQ4.below hb5 hQ4.lt
 have hQ6 := hQ5.below hal5 hQ5.lt
 have hOb5 := own_below hOb hal5
 have hL48 : L ≤ 9223372036854775807 := by
  obtain ⟨_, _, e, h1, h2, _⟩ := own_any hO5
  unfold maxLen at h2
  omega
 have hvs : ∃ vs : List Value, V5.ownsRow w1.heap.size 5 1 (.slice BA L bc) L vs ∧ ∀ v ∈ vs, ∃ z, v = .int .u8 z := ⟨_, hO5, bytes_u8 _⟩
 clear ki0 kp0
 have ki0 := Blk.cell hI6 0
 simp only [List.getElem?_toArray, List.getElem?_cons_zero, List.getElem?_cons_succ] at ki0
 obtain ⟨Hb5, Hbw5, HR1, HJ, Hal5, HV5, Hbv5, HO4⟩ := hd8 hb5 hbw5 hR1 hJ hal5 hV5 hbv5 hO4
 obtain ⟨HO5, Hgl, HI4, HI5, HI6, HQ4, HQ5, HQ6⟩ := hd8 hO5 hgl hI4 hI5 hI6 hQ4 hQ5 hQ6
 obtain ⟨HOb, HOb5, Hvs⟩ := hd3 hOb hOb5 hvs
 clear hvs hOb5 hOb hQ6 hQ5 hQ4 hI6 hI5 hI4 hgl hO5 hO4 hbv5 hV5 hal5 hJ hR1 hbw5 hb5
 clear hcv
 go_upto_region 7 with fail
 rw [← HV5.out, ← HR1.out]
 go_wp2_with fail
 clear ki0
 go_loopg [34] L (fun gk iv wr => ∃ j : Nat, j + gk = L ∧ iv = .int .i64 j ∧ Hid (∃ vs : List Value, wr.ownsRow w1.heap.size 5 1 (.slice BA L bc) L vs ∧ ∀ v ∈ vs, ∃ z, v = .int .u8 z) ∧ Hid (Blk wr R 33 #[.slice BA L bc, .slice FA rn fc, .slice SA sn sc]) ∧ Hid (Blk wr R1 33 #[.slice BB L bbc, .slice FB rn fbc, .slice SB sn sbc]) ∧ Hid (Blk wr G 24 #[.slice A0 n0 c0]) ∧ Hid (wr.ownsRow w4.heap.size 5 1 (.slice BB L bbc) L (byteVals cs)) ∧ Hid (Below w.heap.size w wr))
 case atStart => exact ⟨0, by omega, rfl, Hvs, HI6, HJ, HQ6, HOb5, Hbv5⟩
 case round =>
  obtain ⟨j, hj, rfl, hvs, hIr, hJr, hQr, hObr, hbr⟩ := hrel
  by_cases hjL : j < L
  ·obtain ⟨vs, hown, hu8⟩ := hvs.out
   obtain ⟨g, gc, hge, hg1, hg2, _, _⟩ := own_form hown (by omega)
   injection hge with hge _ hgc
   subst hge hgc
   have hgl4 : g < w4.heap.size := (Hgl.out g rfl).2
   obtain ⟨_, g', hge', _, ⟨rcs, hrb⟩, hcell⟩ := own_row hown (by omega)
   injection hge' with hge'
   injection hge' with hge'
   subst hge'
   obtain ⟨u, hu⟩ : ∃ u, vs[j]? = some u := ⟨_, List.getElem?_eq_getElem (by have := (Reads.of_own hown).1; omega)⟩
   obtain ⟨z, rfl⟩ := hu8 u (List.mem_of_getElem? hu)
   have hc0 := hcell j _ hu
   rw [addr_zero] at hc0
   have hf0 := hrb.frozen j
   have hRg : R ≠ g := fun e => own_blk_ne hown hIr.out (by decide) (by rw [e]; rfl)
   have hR1g : R1 ≠ g := fun e => own_blk_ne hown hJr.out (by decide) (by rw [e]; rfl)
   have hGg : G ≠ g := fun e => own_blk_ne hown hQr.out (by decide) (by rw [e]; rfl)
   have hjI : (j : Int) < L := by omega
   have hkI := hIr.out
   have ki0 := Blk.cell hkI 0
   simp only [List.getElem?_toArray, List.getElem?_cons_zero, List.getElem?_cons_succ] at ki0
   obtain ⟨z', hz'⟩ : ∃ z' : Value, z' = .int .u8 (IntKind.u8.wrap z) := ⟨_, rfl⟩
   have hnext : ∀ x : Int, (∃ vs : List Value, (wr.setCell ⟨g, j, none⟩ (.int .u8 x)).ownsRow w1.heap.size 5 1 (.slice (some ⟨g, 0, none⟩) L bc) L vs ∧ ∀ v ∈ vs, ∃ z, v = .int .u8 z) := fun x => ⟨_, own_set_at hown (by omega), fun v hv => by
    rcases List.mem_or_eq_of_mem_set hv with h | rfl
    ·exact hu8 v h
    ·exact ⟨x, rfl⟩⟩
   have hIn : ∀ x : Value, Blk (wr.setCell ⟨g, j, none⟩ x) R 33 #[.slice (some ⟨g, 0, none⟩) L bc, .slice FA rn fc, .slice SA sn sc] := fun x => hIr.out.far (p := ⟨g, j, none⟩) hRg x
   have hJn : ∀ x : Value, Blk (wr.setCell ⟨g, j, none⟩ x) R1 33 #[.slice BB L bbc, .slice FB rn fbc, .slice SB sn sbc] := fun x => hJr.out.far (p := ⟨g, j, none⟩) hR1g x
   have hQn : ∀ x : Value, Blk (wr.setCell ⟨g, j, none⟩ x) G 24 #[.slice A0 n0 c0] := fun x => hQr.out.far (p := ⟨g, j, none⟩) hGg x
   have hOn : ∀ x : Value, (wr.setCell ⟨g, j, none⟩ x).ownsRow w4.heap.size 5 1 (.slice BB L bbc) L (byteVals cs) := fun x => ownsRow_setCell_other hObr.out (a := ⟨g, j, none⟩) (fun e => by have := (hObr.out.lt g e).1; omega) x
   have hbn : ∀ x : Value, Below w.heap.size w (wr.setCell ⟨g, j, none⟩ x) := fun x => hbr.out.setCell (p := ⟨g, j, none⟩) (show w.heap.size ≤ g by omega) x
   obtain ⟨Hown, Hu8, Hrb, Hcell, Hu, HIr, HJr, HQr⟩ := hd8 hown hu8 hrb hcell hu hIr hJr hQr
   obtain ⟨HObr, Hbr, HkI, Hnext, HIn, HJn, HQn, HOn⟩ := hd8 hObr hbr hkI hnext hIn hJn hQn hOn
   obtain ⟨Hbn, Hvs, Hz'⟩ := hd3 hbn hvs hz'
   clear hz' hvs hbn hOn hQn hJn hIn hnext hkI hbr hObr hQr hJr hIr hu hcell hrb hu8 hown
   go_wp2_with fail
   go_roundg (gk - 1)
   case measure => omega
   case rel => exact ⟨j + 1, by omega, by simp, Lib.hid (Hnext.out _), Lib.hid (HIn.out _), Lib.hid (HJn.out _), Lib.hid (HQn.out _), Lib.hid (HOn.out _), Lib.hid (Hbn.out _)⟩
  ·obtain rfl : L = j := by omega
   have hLI : ¬ (L : Int) < L := by omega
   have hkQ := hQr.out
   have kp0 := Blk.cell hkQ 0
   simp only [List.getElem?_toArray, List.getElem?_cons_zero, List.getElem?_cons_succ] at kp0
   have hzr := hbr.out.size
   have hem := emit_any (HA0.out _ hbr.out) hzr Hsm0.out Him0.out (HT.out _ hbr.out)
   obtain ⟨HkQ, Hem3⟩ := hd2 hkQ hem
   clear hem hkQ
   go_wp2_with fail
   refine Hem3.out.mono ?_
   intro e w7 hp
   obtain ⟨hb7, BC, bcc, FC, fcc, SC, scc, he, hOc⟩ := emit_out hp
   clear hp
   rw [Hcs.out, HL.out, Hrn.out, Hsn.out, Her.out] at he
   rw [Hcs.out, HL.out] at hOc
   subst he
   have hbw7 := hbr.out.trans (hb7.mono hzr)
   obtain ⟨R2, hR2⟩ : ∃ R2, R2 = w7.heap.size := ⟨_, rfl⟩
   have hM := Blk.new w7 33 #[.slice BC L bcc, .slice FC rn fcc, .slice SC sn scc]
   have hal7 := (Below.refl w7.heap.size w7).alloc (Nat.le_refl _) (.cells #[.slice BC L bcc, .slice FC rn fcc, .slice SC sn scc] 33)
   obtain ⟨V7, hV7⟩ : ∃ V7, V7 = w7.alloc (.cells #[.slice BC L bcc, .slice FC rn fcc, .slice SC sn scc] 33) := ⟨_, rfl⟩
   rw [← hV7] at hM hal7
   rw [← hR2] at hM
   have hbv7 := hbw7.trans (hal7.mono hbw7.size)
   have hJ7 := hJr.out.below hb7 hJr.out.lt
   have hJ8 := hJ7.below hal7 hJ7.lt
   have hcb : (convert 27 9 (.slice BB L bbc)).run Tryd.prog V7 = .ok (.string S) V7 := by rw [← HS.out]; exact conv_readsE V7 (Reads.of_own (own_below (own_below hObr.out hb7) hal7))
   have hcc : (convert 27 9 (.slice BC L bcc)).run Tryd.prog V7 = .ok (.string S) V7 := by rw [← HS.out]; exact conv_readsE V7 (Reads.of_own (own_below hOc hal7))
   clear kp0
   have kj0 := Blk.cell hJ8 0
   have kj2 := Blk.cell hJ8 2
   simp only [List.getElem?_toArray, List.getElem?_cons_zero, List.getElem?_cons_succ] at kj0 kj2
   have km0 := Blk.cell hM 0
   have km2 := Blk.cell hM 2
   simp only [List.getElem?_toArray, List.getElem?_cons_zero, List.getElem?_cons_succ] at km0 km2
   obtain ⟨Hb7, Hbw7, HR2, HM, Hal7, HV7, Hbv7, HJ7⟩ := hd8 hb7 hbw7 hR2 hM hal7 hV7 hbv7 hJ7
   obtain ⟨HJ8, HOc⟩ := hd2 hJ8 hOc
   clear hOc hJ8 hJ7 hbv7 hV7 hal7 hM hR2 hbw7 hb7
   go_upto_region 13 with fail
   rw [← HV7.out, ← HR2.out]
   go_wp2_with fail
   go_ret
   exact ⟨rfl, Hbv7.out⟩
end Go.Proofs.YtnfjjliiajaijaaDoor
