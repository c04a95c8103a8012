/- The walk of the law EmitSaves. Conditions: what the law's argument is read as; the table of the bits. -/
import Derived.Test.YtnfjjliiajaijaaDoorPsA
import Derived.Test.YtnfjjliiajaijaaDoorPkAA
import Derived.Test.YtnfjjliiajaijaaDoorPsB
import Derived.Test.YtnfjjliiajaijaaDoorPkAY
import Derived.Test.YtnfjjliiajaijaaDoorPkBB
set_option linter.unusedVariables false
set_option linter.unusedSimpArgs false
set_option maxRecDepth 100000
set_option maxHeartbeats 10000000
namespace Go.Proofs.YtnfjjliiajaijaaDoor
open Go.RowKit

theorem GraphsWf.small {gs : List GraphD} (h : GraphsWf gs) : GsSmall gs := ⟨fun g hg => ⟨(h.each g hg).lenP, (h.each g hg).lenK, (h.each g hg).lenI, (h.each g hg).lenN, fun x hx => ((h.each g hg).nodes x hx).len⟩, h.len⟩
theorem GraphsWf.imm {gs : List GraphD} (h : GraphsWf gs) : ∀ g ∈ gs, ∀ x ∈ g.nodes, U64 x.imm := fun g hg x hx => ((h.each g hg).nodes x hx).imm
theorem walk_EmitSaves (w : World) (gv0 : Value) (gs0 : List GraphD) (hg0 : GraphsIn w gv0 gs0) (ht : TabX w) :
  Calls Tryd.prog 5 #[.agg #[gv0]] w fun e w' => e = .returned (.bool true) ∧ Below w.heap.size w w' := by
 obtain ⟨hgs0, hwf0⟩ := hg0
 have hsm0 := hwf0.small
 have him0 := hwf0.imm
 obtain ⟨G, hG⟩ : ∃ G, G = w.heap.size := ⟨_, rfl⟩
 obtain ⟨A0, c0, rfl, hc01, hc02⟩ := hgs0.slice
 obtain ⟨Z, hZ⟩ : ∃ Z, gs0.length = Z := ⟨_, rfl⟩
 rw [hZ] at hgs0 hc01 ⊢
 have hP := Blk.new w 24 #[.slice A0 Z c0]
 have hb := (Below.refl w.heap.size w).alloc (Nat.le_refl _) (.cells #[.slice A0 Z c0] 24)
 obtain ⟨V, hV⟩ : ∃ V, V = w.alloc (.cells #[.slice A0 Z c0] 24) := ⟨_, rfl⟩
 rw [← hV] at hP hb
 rw [← hG] at hP
 have hA0 : ∀ W, Below w.heap.size w W → GraphsAt W w.heap.size (.slice A0 Z c0) gs0 := fun W h => hgs0.below h
 have hT : ∀ W, Below w.heap.size w W → TabX W := fun W h => ht.below h ht.1
 obtain ⟨Hb, HP, HV, HG, Hsm0, Him0, Hgs0, Hwf0⟩ := hd8 hb hP hV hG hsm0 him0 hgs0 hwf0
 obtain ⟨HZ, HA0, HT, Ht⟩ := hd4 hZ hA0 hT ht
 clear ht hT hA0 hZ hwf0 hgs0 him0 hsm0 hG hV hP hb
 go_enter Tryd.func5, Tryd.ntmps5
 go_upto_region 1 with fail
 rw [← HV.out, ← HG.out]
 go_wp2_with fail
 refine (first_any V (HT.out _ Hb.out)).mono ?_
 rintro e w1 ⟨rfl, hb1⟩
 have hz0 := Hb.out.size
 have hbw1 := Hb.out.trans (hb1.mono hz0)
 have hz1 := hbw1.size
 have hQ := HP.out.below hb1 HP.out.lt
 have kp0 := Blk.cell hQ 0
 simp only [List.getElem?_toArray, List.getElem?_cons_zero, List.getElem?_cons_succ] at kp0
 have hem := emit_any (HA0.out _ hbw1) hz1 Hsm0.out Him0.out (HT.out _ hbw1)
 obtain ⟨Hb1, Hbw1, HQ, Hem⟩ := hd4 hb1 hbw1 hQ hem
 clear hem hQ hbw1 hb1
 go_wp2_with fail
 refine Hem.out.mono ?_
 rintro e w2 ⟨hb2, hp⟩
 have hbw2 := Hbw1.out.trans (hb2.mono hz1)
 have hz2 := hbw2.size
 rcases hp with ⟨hne, rfl⟩ | ⟨h0, bv, fv, sv, lvs, ps, rfl, hl1, hl2, hI⟩
 ·obtain ⟨er, her⟩ : ∃ er, emitErr gs0 = er := ⟨_, rfl⟩
  rw [her] at hne ⊢
  have hI := Blk.new w2 33 #[.slice none 0 0, .slice none 0 0, .slice none 0 0]
  have ki0 := Blk.cell hI 0
  simp only [List.getElem?_toArray, List.getElem?_cons_zero, List.getElem?_cons_succ] at ki0
  clear kp0
  obtain ⟨Hb2, Hbw2, Her, HI⟩ := hd4 hb2 hbw2 her hI
  clear hI her hbw2 hb2
  go_wp2_with fail
  go_ret
  exact ⟨rfl, Hbw2.out.alloc hz2 _⟩
 ·have hck := emit_ok h0
  obtain ⟨T, hT2⟩ : ∃ T, emitN (gs0.map lineG) = T := ⟨_, rfl⟩
  have hrw : ∀ (j : Nat) g, gs0[j]? = some g → ∃ r, T.rows[j]? = some r ∧ r.saves = savesOf (lineG g) ∧ r.size = (sizeL (lineG g) : Nat) := fun j g hg => by
   have h1 : (gs0.map lineG)[j]? = some (lineG g) := by rw [List.getElem?_map, hg]; rfl
   have h2 := emitN_row h1
   rw [hT2] at h2
   exact ⟨_, h2, rfl, rfl⟩
  have hrn : T.rows.length = Z := by
   have := (emitN_rows (gs0.map lineG)).1
   rw [hT2, List.length_map, HZ.out] at this
   exact this
  have hZ0 : 0 < Z := by have := (check_len hck).1; rw [HZ.out] at this; exact this
  have hZ16 : Z ≤ 16 := by have := (check_len hck).2; rw [HZ.out] at this; exact this
  rw [hT2] at hl1 hl2 hI
  have hIt := hI.tail
  obtain ⟨BA, bc, rfl, _⟩ := own_any (hI.own (i := 0) rfl)
  have hfo : w2.ownsRow w1.heap.size 48 6 fv T.rows.length (rowsCells T.rows ps) := hIt.each (.row fv 48 6 T.rows.length (rowsCells T.rows ps)) (by unfold imgIts; simp)
  rw [hrn] at hfo
  obtain ⟨FB, fc, hfv, _, hFl, _⟩ := own_form hfo hZ0
  obtain ⟨SA, sc, hsv, _⟩ := own_any (show w2.ownsRow w1.heap.size 112 2 sv T.sites.length (siteCells T.sites lvs) from hIt.each (.row sv 112 2 T.sites.length (siteCells T.sites lvs)) (by unfold imgIts; simp))
  obtain ⟨sn, hsn⟩ : ∃ sn, T.sites.length = sn := ⟨_, rfl⟩
  rw [hsn] at hsv
  obtain ⟨L, hL⟩ : ∃ L, 8 * (emitCode T).length = L := ⟨_, rfl⟩
  rw [hL]
  subst hfv hsv
  have hB := Blk.new w2 33 #[.slice BA L bc, .slice (some ⟨FB, 0, none⟩) Z fc, .slice SA sn sc]
  obtain ⟨R, hR⟩ : ∃ R, R = w2.heap.size := ⟨_, rfl⟩
  have hal := (Below.refl w2.heap.size w2).alloc (Nat.le_refl _) (.cells #[.slice BA L bc, .slice (some ⟨FB, 0, none⟩) Z fc, .slice SA sn sc] 33)
  obtain ⟨V2, hV2⟩ : ∃ V2, V2 = w2.alloc (.cells #[.slice BA L bc, .slice (some ⟨FB, 0, none⟩) Z fc, .slice SA sn sc] 33) := ⟨_, rfl⟩
  rw [← hV2] at hB hal
  rw [← hR] at hB
  have hI2 := hIt.below hal
  have hbv2 := hbw2.trans (hal.mono hz2)
  have hzv2 := hbv2.size
  have hQ2 := (HQ.out.below hb2 HQ.out.lt).below hal (HQ.out.below hb2 HQ.out.lt).lt
  clear kp0
  obtain ⟨Hb2, Hbw2, Hck, HT2, Hrw, Hrn, HIt, Hfo⟩ := hd8 hb2 hbw2 hck hT2 hrw hrn hIt hfo
  obtain ⟨Hsn, HL, HB, Hal, HV2, HI2, Hbv2, HQ2⟩ := hd8 hsn hL hB hal hV2 hI2 hbv2 hQ2
  obtain ⟨HL1, HL2, HI, HR, HE0⟩ := hd5 hl1 hl2 hI hR h0
  clear h0 hR hI hl2 hl1 hQ2 hbv2 hI2 hV2 hal hB hL hsn hfo hIt hrn hrw hT2 hck hbw2 hb2
  go_upto_region 4 with fail
  rw [← HV2.out, ← HR.out]
  have hQk := HQ2.out
  have kp0 := Blk.cell hQk 0
  simp only [List.getElem?_toArray, List.getElem?_cons_zero, List.getElem?_cons_succ] at kp0
  have hBk := HB.out
  have kb1 := Blk.cell hBk 1
  simp only [List.getElem?_toArray, List.getElem?_cons_zero, List.getElem?_cons_succ] at kb1
  have hFB2 : FB < V2.heap.size := by have := Hal.out.size; omega
  obtain ⟨HQk, HBk⟩ := hd2 hQk hBk
  clear hBk hQk
  go_wp2_with fail
  clear kp0
  go_loopg [31] Z (fun gk iv wr => ∃ j : Nat, j + gk = Z ∧ iv = .int .i64 j ∧ Hid (Below V2.heap.size V2 wr))
  case atStart => exact ⟨0, by omega, rfl, Lib.hid (Below.refl _ _)⟩
  case round =>
   obtain ⟨j, hj, rfl, hbj⟩ := hrel
   have hBk := HB.out.below hbj.out HB.out.lt
   have hQk := HQ2.out.below hbj.out HQ2.out.lt
   clear kb1
   by_cases hjZ : j < Z
   ·obtain ⟨g, hg⟩ : ∃ g, gs0[j]? = some g := ⟨_, List.getElem?_eq_getElem (by rw [HZ.out]; exact hjZ)⟩
    have hgm : g ∈ gs0 := List.mem_of_getElem? hg
    have hns := lin_ok Hck.out Hsm0.out hgm
    have hen := hns.2
    have hns := hns.1
    have hbwj := Hbv2.out.trans (hbj.out.mono hzv2)
    have hszj := hbj.out.size
    obtain ⟨ad, pv, kv, iv, nv, hA, _, hM⟩ := (HA0.out _ hbwj).at_ hg
    subst hA
    obtain ⟨PA, pn, pc, KA, kn, kc, IA, il, ic, NA, nn, nc, rfl, rfl, rfl, rfl, hpn, hkn, hil, hnn⟩ := hM.forms
    obtain ⟨r, hr, hrs, hrz⟩ := Hrw.out j g hg
    have hIj := HI2.out.below hbj.out
    obtain ⟨pv', sv', ho1, ho2, hrow⟩ := row_at hIj HL2.out (fc := fc) (by rw [Hrn.out]) hr
    obtain ⟨pl, hpl⟩ : ∃ pl, r.params.length = pl := ⟨_, rfl⟩
    obtain ⟨sl, hsl⟩ : ∃ sl, r.saves.length = sl := ⟨_, rfl⟩
    obtain ⟨st, hst⟩ : ∃ st, r.start = st := ⟨_, rfl⟩
    obtain ⟨sp, hsp⟩ : ∃ sp, r.stop = sp := ⟨_, rfl⟩
    obtain ⟨sz, hsz⟩ : ∃ sz, r.size = sz := ⟨_, rfl⟩
    obtain ⟨rs, hrs2⟩ : ∃ rs, r.resume = rs := ⟨_, rfl⟩
    rw [hpl] at ho1
    rw [hsl] at ho2
    obtain ⟨KP, kpc, hkp, _⟩ := own_any ho1
    obtain ⟨SV, svc, hsv, hsvc, hsvm, _⟩ := own_any ho2
    unfold maxLen at hsvm
    have hbj2 := hbj
    subst hkp hsv
    have r0 := hrow 0 _ rfl
    have r1 := hrow 1 _ rfl
    have r2 := hrow 2 _ rfl
    have r3 := hrow 3 _ rfl
    have r4 := hrow 4 _ rfl
    have r5 := hrow 5 _ rfl
    rw [hst, Nat.add_zero] at r0
    rw [hsp] at r1
    rw [hsz] at r2
    rw [hrs2] at r5
    have m0 := hM.c0
    have m1 := hM.c1
    have m2 := hM.c2
    have m3 := hM.c3
    have m4 := hM.c4
    have m5 := hM.c5
    have m6 := hM.c6
    have m7 := hM.c7
    have hMl := hM.lt
    have hFBl : FB < wr.heap.size := by omega
    have hRl := hBk.lt
    have hgl : (ad.add (j * 8)).block < wr.heap.size := by omega
    obtain ⟨F, hF⟩ : ∃ F, F = wr.heap.size := ⟨_, rfl⟩
    obtain ⟨F1, hF1⟩ : ∃ F1, F1 = wr.heap.size + 1 := ⟨_, rfl⟩
    obtain ⟨W2, hW2⟩ : ∃ W2, W2 = (wr.alloc (.cells #[.slice PA pn pc, .slice KA kn kc, .int .i64 g.cells, .slice IA il ic, .bool g.result, .int .i64 g.keep, .slice NA nn nc, .int .i64 g.entry] 44)).alloc (.cells #[.int .i64 st, .int .i64 sp, .int .i64 sz, .slice KP pl kpc, .slice SV sl svc, .int .i64 rs] 48) := ⟨_, rfl⟩
    have hX := (Blk.new wr 44 #[.slice PA pn pc, .slice KA kn kc, .int .i64 g.cells, .slice IA il ic, .bool g.result, .int .i64 g.keep, .slice NA nn nc, .int .i64 g.entry]).alloc (.cells #[.int .i64 st, .int .i64 sp, .int .i64 sz, .slice KP pl kpc, .slice SV sl svc, .int .i64 rs] 48)
    have hY := Blk.new2 wr (.cells #[.slice PA pn pc, .slice KA kn kc, .int .i64 g.cells, .slice IA il ic, .bool g.result, .int .i64 g.keep, .slice NA nn nc, .int .i64 g.entry] 44) 48 #[.int .i64 st, .int .i64 sp, .int .i64 sz, .slice KP pl kpc, .slice SV sl svc, .int .i64 rs]
    have hbW := ((Below.refl wr.heap.size wr).alloc (Nat.le_refl _) (.cells #[.slice PA pn pc, .slice KA kn kc, .int .i64 g.cells, .slice IA il ic, .bool g.result, .int .i64 g.keep, .slice NA nn nc, .int .i64 g.entry] 44)).alloc (by simp) (.cells #[.int .i64 st, .int .i64 sp, .int .i64 sz, .slice KP pl kpc, .slice SV sl svc, .int .i64 rs] 48)
    rw [← hW2] at hX hY hbW
    rw [← hF] at hX
    rw [← hF1] at hY
    have hbk := hBk
    have kb1 := Blk.cell hbk 1
    simp only [List.getElem?_toArray, List.getElem?_cons_zero, List.getElem?_cons_succ] at kb1
    obtain ⟨Hbj, Hsvc, HM, Hpn, Hkn, Hil, Hnn, Hr⟩ := hd8 hbj hsvc hM hpn hkn hil hnn hr
    obtain ⟨Hrs, Hrz, HIj, Ho1, Ho2, Hrow, Hpl, Hsl⟩ := hd8 hrs hrz hIj ho1 ho2 hrow hpl hsl
    obtain ⟨Hst, Hsp, Hsz, Hrs2, HF, HF1, HW2, HX⟩ := hd8 hst hsp hsz hrs2 hF hF1 hW2 hX
    obtain ⟨HY, HbW, Hbk, Hg, Hgm, Hbwj, HBk, HQk⟩ := hd8 hY hbW hbk hg hgm hbwj hBk hQk
    obtain ⟨Hns, Hen⟩ := hd2 hns hen
    clear hen hns hQk hBk hbwj hgm hg hbk hbW hY hX hW2 hF1 hF hrs2 hsz hsp hst hsl hpl hrow ho2 ho1 hIj hrz hrs hr hnn hil hkn hpn hM hsvc hbj
    go_upto_region 10 with fail
    rw [← HF1.out, ← HF.out, ← HW2.out]
    have hXk := HX.out
    have hYk := HY.out
    have ky4 := Blk.cell hYk 4
    simp only [List.getElem?_toArray, List.getElem?_cons_zero, List.getElem?_cons_succ] at ky4
    have hsl16 : sl ≤ 6 := by
     have h1 := savesOf_len (lineG g)
     have h2 := regsK_len (lineG g).nodes 6
     unfold nSaves at h1
     rw [← Hsl.out, Hrs.out, h1]; exact h2
    obtain ⟨HXk, HYk, Hsl16⟩ := hd3 hXk hYk hsl16
    clear hsl16 hYk hXk
    clear r0 r1 r2 r3 r4 r5 m0 m1 m2 m3 m4 m5 m6 m7 kb1
    go_wp2_with fail
    clear ky4
    obtain ⟨wa, rfl⟩ : ∃ x, x = wr := ⟨_, rfl⟩
    obtain ⟨ga, rfl⟩ : ∃ x, x = gk := ⟨_, rfl⟩
    go_loopg [45] sl (fun gk iv wx => ∃ k : Nat, k + gk = sl ∧ iv = .int .i64 k ∧ Hid (Below W2.heap.size W2 wx))
    case atStart => exact ⟨0, by omega, rfl, Lib.hid (Below.refl _ _)⟩
    case round =>
     obtain ⟨k, hk, rfl, hbk2⟩ := hrel
     have hXq := HX.out.below hbk2.out HX.out.lt
     have hYq := HY.out.below hbk2.out HY.out.lt
     by_cases hks : k < sl
     ·obtain ⟨q, o, hqo, ho8, hosz, hqw⟩ := save_row Hns.out Hen.out Hrs.out (show k < r.saves.length by rw [Hsl.out]; exact hks)
      have hbrq : Below wa.heap.size wa wr := HbW.out.trans (hbk2.out.mono HbW.out.size)
      obtain ⟨SB, rfl, hSB, hs0, hs1⟩ := save_cells Ho2.out (by omega) hbrq hqo
      have hYk := hYq
      have hXk := hXq
      have ky4 := Blk.cell hYk 4
      simp only [List.getElem?_toArray, List.getElem?_cons_zero, List.getElem?_cons_succ] at ky4
      have kx6 := Blk.cell hXk 6
      simp only [List.getElem?_toArray, List.getElem?_cons_zero, List.getElem?_cons_succ] at kx6
      obtain ⟨S4, hS4⟩ : ∃ S4, S4 = wr.heap.size := ⟨_, rfl⟩
      obtain ⟨W4, hW4⟩ : ∃ W4, W4 = wr.alloc (.cells #[.int .i64 q, .int .i64 o] 50) := ⟨_, rfl⟩
      have hSv := Blk.new wr 50 #[.int .i64 q, .int .i64 o]
      have hal4 := (Below.refl wr.heap.size wr).alloc (Nat.le_refl _) (.cells #[.int .i64 q, .int .i64 o] 50)
      rw [← hW4] at hSv hal4
      rw [← hS4] at hSv
      have hX4 := hXq.below hal4 hXq.lt
      have hY4 := hYq.below hal4 hYq.lt
      have hb24 := hbk2.out.trans (hal4.mono hbk2.out.size)
      have hbr4 := hbrq.trans (hal4.mono hbrq.size)
      clear hYk hXk
      obtain ⟨HXq, HYq, Hqo, Ho8, Hosz, Hqw, Hbrq, HSB⟩ := hd8 hXq hYq hqo ho8 hosz hqw hbrq hSB
      obtain ⟨HS4, HW4, HSv, Hal4, HX4, HY4, Hb24, Hbr4⟩ := hd8 hS4 hW4 hSv hal4 hX4 hY4 hb24 hbr4
      clear hbr4 hb24 hY4 hX4 hal4 hSv hW4 hS4 hSB hbrq hqw hosz ho8 hqo hYq hXq
      go_upto_region 13 with fail
      rw [← HS4.out, ← HW4.out]
      clear ky4 kx6 hs0 hs1
      have hXk := HX4.out
      have kx6 := Blk.cell hXk 6
      simp only [List.getElem?_toArray, List.getElem?_cons_zero, List.getElem?_cons_succ] at kx6
      have HXk := Lib.hid hXk
      clear hXk
      go_wp2_with fail
      clear kx6
      obtain ⟨wb, rfl⟩ : ∃ x, x = wr := ⟨_, rfl⟩
      obtain ⟨gb, rfl⟩ : ∃ x, x = gk := ⟨_, rfl⟩
      go_loopg [10, 53] nn (fun gk cv iv wx => ∃ m : Nat, m + gk = nn ∧ iv = .int .i64 m ∧ ∃ b, cv = .bool b ∧ Hid (wroteTo g.nodes q m = b) ∧ Hid (Below W4.heap.size W4 wx))
      case atStart => exact ⟨0, by omega, rfl, false, rfl, Lib.hid rfl, Lib.hid (Below.refl _ _)⟩
      case round =>
       obtain ⟨m, hm, rfl, b, rfl, hwb, hbx⟩ := hrel
       by_cases hmn : m < nn
       ·have hmI : (m : Int) < nn := by omega
        have hnn4 : nn ≤ 4096 := by rw [← Hnn.out]; exact Hns.out.len
        obtain ⟨x, hx⟩ : ∃ x, g.nodes[m]? = some x := ⟨_, List.getElem?_eq_getElem (by rw [Hnn.out]; exact hmn)⟩
        have hwn := wroteTo_next (r := q) hx
        rw [hwb.out] at hwn
        have hbwx := (Hbwj.out.trans (Hbr4.out.mono Hbwj.out.size)).trans (hbx.out.mono (Hbwj.out.trans (Hbr4.out.mono Hbwj.out.size)).size)
        have hbrx := Hbr4.out.trans (hbx.out.mono Hbr4.out.size)
        have hN9 := HM.out.nodes.keep (fun _ hp => (hbrx.mono Hbwj.out.size).cell hp) (fun _ _ h => h.keep fun _ hp => (hbrx.mono Hbwj.out.size).cell hp)
        obtain ⟨nad, cs, hna, _, _, _, ⟨av, hcs, hav⟩, z0, nj⟩ := RowsAt.at_ hN9 hx
        subst hna hcs
        obtain ⟨AA, aac, hava, _, _, _⟩ := hav.slice
        subst hava
        have n0 : wr.cell? (nad.add (m * 12)) = some (.int .u8 x.op) := z0 _ rfl
        have n1 := nj 1 _ (by omega) rfl
        have n2 := nj 2 _ (by omega) rfl
        have n3 := nj 3 _ (by omega) rfl
        have n4 := nj 4 _ (by omega) rfl
        have n5 := nj 5 _ (by omega) rfl
        have n6 := nj 6 _ (by omega) rfl
        have n7 := nj 7 _ (by omega) rfl
        have n8 := nj 8 _ (by omega) rfl
        have n9 := nj 9 _ (by omega) rfl
        have n10 := nj 10 _ (by omega) rfl
        have n11 := nj 11 _ (by omega) rfl
        clear nj z0
        have hal5 := (Below.refl wr.heap.size wr).alloc (Nat.le_refl _) (.cells (ncells x (.slice AA x.args.length aac)).toArray 55)
        have hPn := Blk.new wr 55 (ncells x (.slice AA x.args.length aac)).toArray
        obtain ⟨G5, hG5⟩ : ∃ G5, G5 = wr.heap.size := ⟨_, rfl⟩
        obtain ⟨W5, hW5⟩ : ∃ W5, W5 = wr.alloc (.cells (ncells x (.slice AA x.args.length aac)).toArray 55) := ⟨_, rfl⟩
        rw [← hW5] at hPn hal5
        rw [← hG5] at hPn
        have hrange : W5.drew.rangeAt G5 0 (ncells x (.slice AA x.args.length aac)) := fun j v hv => by
         show W5.cell? _ = _
         rw [hPn.cell (0 + j), Nat.zero_add, List.getElem?_toArray]
         exact hv
        have hW5' : wr.alloc (.cells #[.int .u8 x.op, .int .u8 x.byo, .int .i64 x.d, .int .i64 x.e, .int .i64 x.a, .int .i64 x.b, .int .i64 x.f, .int .i64 x.cell, .int .u64 x.imm, .slice AA x.args.length aac, .int .i64 x.next, .int .i64 x.els] 55) = W5 := hW5.symm
        have hb45 := hbx.out.trans (hal5.mono hbx.out.size)
        have hS5 := HSv.out.below hb45 HSv.out.lt
        have hks0 : W5.drew.cell? ⟨S4, 0, none⟩ = some (.int .i64 q) := hS5.cell 0
        obtain ⟨bw, hbw⟩ : ∃ bw, decide ((q : Int) ∈ writesL x) = bw := ⟨_, rfl⟩
        rw [hbw] at hwn
        have hG5l := hPn.lt
        obtain ⟨Hx, Hwn, Hwb, Hbx, Hbwx, Hbrx, HN9, Hav⟩ := hd8 hx hwn hwb hbx hbwx hbrx hN9 hav
        obtain ⟨Hal5, HPn, HG5, HW5, Hrange, HW5E, Hb45, HS5⟩ := hd8 hal5 hPn hG5 hW5 hrange hW5' hb45 hS5
        obtain ⟨Hks0, Hbw, HG5l⟩ := hd3 hks0 hbw hG5l
        clear hG5l hbw hks0 hS5 hb45 hW5' hrange hW5 hG5 hPn hal5 hav hN9 hbrx hbwx hbx hwb hwn hx
        go_upto_region 17 with fail
        rw [HW5E.out, ← HG5.out]
        clear n0 n1 n2 n3 n4 n5 n6 n7 n8 n9 n10 n11
        cases b
        ·refine wp_region_noPanic ?_
         refine wp_region_held_drew (S := fun W => W.rangeAt G5 0 (ncells x (.slice AA x.args.length aac)) ∧ W.cell? ⟨S4, 0, none⟩ = some (.int .i64 q) ∧ Hid (Below W5.heap.size W5.drew W)) (by kernel_rfl) ⟨Hrange.out, Hks0.out, Lib.hid (Below.refl _ _)⟩ (fun hHeld => ?_)
         refine wpAnyH_tk 0 ?_
         refine wpAnyH_tk 1 ?_
         refine wpAnyH_take (i := 2) rfl (by kernel_rfl) (by kernel_rfl) (by kernel_rfl) (fun _ _ _ h => h) (yieldsIf_load_mid (by rfl) 55 _ rfl G5 0 rfl (ncells x (.slice AA x.args.length aac)) _ (fun w h => h.1) Tryd.underlying55 rfl (by kernel_rfl)) (by assumption) ?_
         try simp only [Act.put, List.getElem_toArray, List.getElem_cons_zero, List.getElem_cons_succ, List.setIfInBounds_toArray, List.set_cons_zero, List.set_cons_succ]
         refine wpAnyH_tk 4 ?_
         refine wpAnyH_tk 5 ?_
         refine wpAnyH_ready (rs := [3]) (by kernel_rfl) (by simp) ?_
         refine AllReadyH.cons rfl (fun K hK => ?_) AllReadyH.nil
         go_simp
         refine (refwrites_any W5.drew x (.slice AA x.args.length aac)).mono ?_
         rintro e w11 ⟨⟨wlv, rfl, hLs⟩, hb11⟩
         obtain ⟨WA, wc, rfl, hlc1, hlc2, hLr⟩ := hLs
         obtain ⟨wl, hwl⟩ : ∃ wl, (writesL x).length = wl := ⟨_, rfl⟩
         have hwl2 := writes_len x
         rw [hwl] at hlc1 hLr hwl2 ⊢
         have hb11' : Below W5.heap.size W5.drew w11 := hb11
         have hin := in_any w11 _ WA wl wc (writesL x) hLr hwl (by omega) q
         rw [Hbw.out] at hin
         have hG5d : G5 < W5.drew.heap.size := HG5l.out
         have hS4d : S4 < W5.drew.heap.size := HS5.out.lt
         refine hK.out _ _ ⟨fun j v hv => (hb11.cell (p := ⟨G5, 0 + j, none⟩) hG5d).trans (hHeld.1 j v hv), (hb11.cell (p := ⟨S4, 0, none⟩) hS4d).trans hHeld.2.1, Lib.hid hb11'⟩ (fun hHeld2 => ?_)
         clear hK K hHeld
         obtain ⟨Hb11, Hb11', HLr, Hwl, Hin⟩ := hd5 hb11 hb11' hLr hwl hin
         clear hin hwl hLr hb11' hb11
         try simp only [Act.put, List.getElem_toArray, List.getElem_cons_zero, List.getElem_cons_succ, List.setIfInBounds_toArray, List.set_cons_zero, List.set_cons_succ]
         refine wpAnyH_ready (rs := [6]) (by kernel_rfl) (by simp) ?_
         refine AllReadyH.cons rfl (fun K hK => ?_) AllReadyH.nil
         go_simp
         refine Hin.out.mono ?_
         rintro e w12 ⟨rfl, rfl⟩
         refine hK.out _ _ hHeld2 (fun hHeld3 => ?_)
         clear hK K hHeld2
         try simp only [Act.put, List.getElem_toArray, List.getElem_cons_zero, List.getElem_cons_succ, List.setIfInBounds_toArray, List.set_cons_zero, List.set_cons_succ]
         refine wpAnyH_tk 7 ?_
         refine wpAnyH_tk 8 ?_
         refine wpAnyH_done (by kernel_rfl) ?_ _
         refine NoPanic.normal ?_
         have hb5e := Hb45.out.drew.trans (Hb11'.out.mono Hb45.out.size)
         have Hb5e := Lib.hid hb5e
         clear hb5e
         clear hHeld3
         go_wp2_with fail
         go_roundg (gk - 1)
         case measure => omega
         case rel => exact ⟨m + 1, by omega, by go_num, bw, rfl, Lib.hid (by rw [Hwn.out]; rfl), Hb5e⟩
        ·refine wp_region_noPanic ?_
         refine wp_region_held_drew (S := fun _ => True) (by kernel_rfl) trivial (fun hHeld => ?_)
         refine wpAnyH_tk 0 ?_
         refine wpAnyH_tk 1 ?_
         refine wpAnyH_take (i := 2) (v := undef) rfl (by kernel_rfl) (by kernel_rfl) (by kernel_rfl) (fun _ _ _ h => h) (Or.inr ⟨by rfl, rfl⟩) (by assumption) ?_
         simp only [Act.put, List.getElem_toArray, List.getElem_cons_zero, List.getElem_cons_succ, List.setIfInBounds_toArray, List.set_cons_zero, List.set_cons_succ]
         refine wpAnyH_take (i := 3) (v := undef) rfl (by kernel_rfl) (by kernel_rfl) (by kernel_rfl) (fun _ _ _ h => h) (Or.inr ⟨by rfl, rfl⟩) (by assumption) ?_
         simp only [Act.put, List.getElem_toArray, List.getElem_cons_zero, List.getElem_cons_succ, List.setIfInBounds_toArray, List.set_cons_zero, List.set_cons_succ]
         refine wpAnyH_take (i := 4) (v := undef) rfl (by kernel_rfl) (by kernel_rfl) (by kernel_rfl) (fun _ _ _ h => h) (Or.inr ⟨by rfl, rfl⟩) (by assumption) ?_
         simp only [Act.put, List.getElem_toArray, List.getElem_cons_zero, List.getElem_cons_succ, List.setIfInBounds_toArray, List.set_cons_zero, List.set_cons_succ]
         refine wpAnyH_take (i := 5) (v := undef) rfl (by kernel_rfl) (by kernel_rfl) (by kernel_rfl) (fun _ _ _ h => h) (Or.inr ⟨by rfl, rfl⟩) (by assumption) ?_
         simp only [Act.put, List.getElem_toArray, List.getElem_cons_zero, List.getElem_cons_succ, List.setIfInBounds_toArray, List.set_cons_zero, List.set_cons_succ]
         refine wpAnyH_take (i := 6) (v := undef) rfl (by kernel_rfl) (by kernel_rfl) (by kernel_rfl) (fun _ _ _ h => h) (Or.inr ⟨by rfl, rfl⟩) (by assumption) ?_
         simp only [Act.put, List.getElem_toArray, List.getElem_cons_zero, List.getElem_cons_succ, List.setIfInBounds_toArray, List.set_cons_zero, List.set_cons_succ]
         refine wpAnyH_tk 7 ?_
         refine wpAnyH_tk 8 ?_
         refine wpAnyH_done (by kernel_rfl) ?_ _
         refine NoPanic.normal ?_
         clear hHeld
         have hb5e := Hb45.out.drew
         have Hb5e := Lib.hid hb5e
         clear hb5e
         go_wp2_with fail
         go_roundg (gk - 1)
         case measure => omega
         case rel => exact ⟨m + 1, by omega, by go_num, true, rfl, Lib.hid (by rw [Hwn.out]; rfl), Hb5e⟩
       ·obtain rfl : nn = m := by omega
        have hmI : ¬ (nn : Int) < nn := by omega
        have hbt : b = true := by
         rw [← hwb.out, ← Hnn.out]
         exact wroteTo_all Hqw.out
        subst hbt
        have hXk := HX4.out.below hbx.out HX4.out.lt
        have hYk := HY4.out.below hbx.out HY4.out.lt
        have hSk := HSv.out.below hbx.out HSv.out.lt
        have hbrx := Hbr4.out.trans (hbx.out.mono Hbr4.out.size)
        have hb2x := Hb24.out.trans (hbx.out.mono Hb24.out.size)
        have hszl : (o : Int) < sz := by
         rw [← Hsz.out, Hrz.out]
         exact_mod_cast Hosz.out
        have ho0 : ¬ (o : Int) < 0 := by omega
        have hmod : (o : Int).tmod 8 = 0 := by
         have := Ho8.out
         rw [Int.tmod_eq_emod_of_nonneg (by omega)]
         omega
        have hcv2 := Hsvc.out
        have hkc : k ≤ svc := by omega
        have ky2 := Blk.cell hYk 2
        have ky4 := Blk.cell hYk 4
        simp only [List.getElem?_toArray, List.getElem?_cons_zero, List.getElem?_cons_succ] at ky2 ky4
        have ks0 := Blk.cell hSk 0
        have ks1 := Blk.cell hSk 1
        simp only [List.getElem?_toArray, List.getElem?_cons_zero, List.getElem?_cons_succ] at ks0 ks1
        obtain ⟨HXk, HYk, HSk, Hbrx, Hb2x, Hwb, Hbx⟩ := hd7 hXk hYk hSk hbrx hb2x hwb hbx
        clear hbx hwb hb2x hbrx hSk hYk hXk
        go_upto_region 22 with fail
        clear ky2 ky4 ks0 ks1
        obtain ⟨wc, rfl⟩ : ∃ x, x = wr := ⟨_, rfl⟩
        obtain ⟨gc, rfl⟩ : ∃ x, x = gk := ⟨_, rfl⟩
        go_loopg [91] k (fun gk iv wx => ∃ i : Nat, i + gk = k ∧ iv = .int .i64 i ∧ Hid (Below wc.heap.size wc wx))
        case atStart => exact ⟨0, by omega, rfl, Lib.hid (Below.refl _ _)⟩
        case round =>
         obtain ⟨i, hi, rfl, hbi⟩ := hrel
         have hbe := hbi.out.size
         by_cases hik : i < k
         ·have hikI : (i : Int) < k := by omega
          obtain ⟨q', o', hqo', _, _, _⟩ := save_row Hns.out Hen.out Hrs.out (show i < r.saves.length by rw [Hsl.out]; omega)
          obtain ⟨hq1, ho1⟩ := save_ne Hrs.out hik hqo' Hqo.out
          obtain ⟨SB', hSB', _, hs0, hs1⟩ := save_cells Ho2.out (by omega) (Hbrx.out.trans (hbi.out.mono Hbrx.out.size)) hqo'
          injection hSB' with hSB'
          injection hSB' with hSB'
          subst hSB'
          have hS4 := HSk.out.below hbi.out HSk.out.lt
          have hSl := hS4.lt
          have ks0 := Blk.cell hS4 0
          have ks1 := Blk.cell hS4 1
          simp only [List.getElem?_toArray, List.getElem?_cons_zero, List.getElem?_cons_succ] at ks0 ks1
          have hone : (o' == (o : Int)) = false := by rw [beq_eq_false_iff_ne]; exact ho1
          have hqne : (q' == (q : Int)) = false := by rw [beq_eq_false_iff_ne]; exact hq1
          have hbn := hbi.out.alloc hbi.out.size (.cells #[.int .i64 q', .int .i64 o'] 50)
          obtain ⟨Hqo', Hq1, Ho1, HS4, Hbn, Hbi⟩ := hd6 hqo' hq1 ho1 hS4 hbn hbi
          clear hbi hbn hS4 ho1 hq1 hqo'
          go_wp2_with fail
          go_roundg (gk - 1)
          case measure => omega
          case rel => exact ⟨i + 1, by omega, by go_num, Hbn⟩
         ·obtain rfl : k = i := by omega
          have hkI : ¬ (k : Int) < k := by omega
          have hbe2 := Hb2x.out.trans (hbi.out.mono Hb2x.out.size)
          have hsl6 := Hsl16.out
          obtain ⟨Hbi, Hbe2⟩ := hd2 hbi hbe2
          clear hbe2 hbi
          go_wp2_with fail
          go_roundg (gb - 1)
          case measure => omega
          case rel => exact ⟨k + 1, by omega, by go_num, Hbe2⟩
     ·obtain rfl : sl = k := by omega
      have hkI : ¬ (sl : Int) < sl := by omega
      have hbe := Hal.out
      have hbve := (hbj2.out.trans (HbW.out.mono hbj2.out.size)).trans (hbk2.out.mono (hbj2.out.trans (HbW.out.mono hbj2.out.size)).size)
      obtain ⟨HXq, HYq, Hbve⟩ := hd3 hXq hYq hbve
      clear hbve hYq hXq
      clear hbe
      go_wp2_with fail
      go_roundg (ga - 1)
      case measure => omega
      case rel => exact ⟨j + 1, by omega, by go_num, Hbve⟩
   ·obtain rfl : Z = j := by omega
    have hjI : ¬ (Z : Int) < Z := by omega
    have hbe := Hbv2.out.trans (hbj.out.mono Hbv2.out.size)
    have kb1 := Blk.cell hBk 1
    simp only [List.getElem?_toArray, List.getElem?_cons_zero, List.getElem?_cons_succ] at kb1
    have kq0 := Blk.cell hQk 0
    simp only [List.getElem?_toArray, List.getElem?_cons_zero, List.getElem?_cons_succ] at kq0
    obtain ⟨HBk, HQk, Hbe, Hbj⟩ := hd4 hBk hQk hbe hbj
    clear hbj hbe hQk hBk
    go_wp2_with fail
    go_ret
    exact ⟨rfl, Hbe.out⟩
end Go.Proofs.YtnfjjliiajaijaaDoor
