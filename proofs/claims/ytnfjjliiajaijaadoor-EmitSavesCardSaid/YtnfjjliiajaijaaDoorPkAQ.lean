/- Walk of the emitter's end of a function. Conditions: the emitter, the graph and the function's row lie in memory. -/
import Derived.Test.YtnfjjliiajaijaaDoorPkAA
import Derived.Test.YtnfjjliiajaijaaDoorPkAP
set_option linter.unusedVariables false
set_option linter.unusedSimpArgs false
set_option maxRecDepth 100000
set_option maxHeartbeats 10000000
namespace Go.Proofs.YtnfjjliiajaijaaDoor
open Go.RowKit
theorem nulls_number (E : EmS) (r : Nat) (v : Int) : (E.number r v).nulls = E.nulls := by unfold EmS.number; split <;> rfl
theorem nulls_panics (E : EmS) (l n : Nat) (v : Int) : (E.panics l n v).nulls = E.nulls := by
 unfold EmS.panics
 split
 ·rfl
 ·exact nulls_number _ _ _
theorem sz_panics (E : EmS) (l n : Nat) (v : Int) : (E.panics l n v).sz ≤ E.sz + 4 := by
 unfold EmS.panics
 split
 ·omega
 ·rw [sz_put]
  have := sz_number (E.mark l) 13 v
  rw [sz_mark] at this
  simp only [List.length_cons, List.length_nil]; omega
section
variable {w : World} {base : Nat} {X : EmX} {E : EmS} {rest : List It}
theorem end_nv {gb go Rb : Nat} {g : GraphD} {c0 c1 c2 c3 c4 : Value} (h : EmAt w base X E (.blk Rb 48 #[c0, c1, c2, c3, c4, .int .i64 (-1)] :: rest)) (hga : X.ga = ⟨gb, (go : Nat), none⟩) (hG : GrF w base gb go g) (hkeep : g.keep < X.nc) (hsv : ∀ s ∈ X.saves, 0 ≤ s.1) (hsl : X.saves.length ≤ 1048576)
  (hns : X.ns ≤ 1048560) (hnc : X.nc ≤ 1048576) (hsz : E.sz + 8388608 ≤ 1099511627776) (hdf : X.defers = false) (hrs : g.result = false) :
  Calls Tryd.prog 41 #[.pointer (some ⟨X.fp, 0, none⟩), .pointer (some ⟨Rb, 0, none⟩)] w fun e w' => e = .returned (.tuple #[]) ∧ EmAt w' base X (E.end_ X g.result g.keep) (.blk Rb 48 #[c0, c1, c2, c3, c4, .int .i64 (E.resumeAt X g.result)] :: rest) ∧ Below base w w' := by
 obtain ⟨R, hR⟩ : ∃ R, E.end_ X g.result g.keep = R := ⟨_, rfl⟩
 obtain ⟨ra, hra⟩ : ∃ ra, E.resumeAt X g.result = ra := ⟨_, rfl⟩
 rw [hR, hra]
 obtain ⟨hglt, pv, kv, iv, nv, hgc, _⟩ := id hG
 have hmk := mark_em h 1048576 (by omega) (by omega)
 have c4r := hgc 4 _ rfl
 have c5r := hgc 5 _ rfl
 rw [hrs] at c4r
 obtain ⟨H, Hga, HG, Hsv, HR, Hra, Hgc, Hmk⟩ := hd8 h hga hG hsv hR hra hgc hmk
 clear hmk hgc hra hR hsv hG hga h
 go_enter Tryd.func41, Tryd.ntmps41
 go_wp2_with fail
 refine Hmk.out.mono ?_
 rintro e w1 ⟨rfl, hE1, hb1⟩
 obtain ⟨f0, f1, _, _, _, _, _, f11, _⟩ := hE1.fn
 rw [Hga.out] at f1
 rw [hdf] at f11
 obtain ⟨Hdf, Hf1⟩ := hd2 hdf f1
 clear f1 hdf
 go_upto_region 3 with fail
 obtain ⟨w2, hw2⟩ : ∃ w2, w2 = w1 := ⟨_, rfl⟩
 rw [← hw2]
 rw [← hw2] at hE1 hb1
 have hE2 := hE1
 have hb3 := hb1
 obtain ⟨E2, hE2e⟩ : ∃ E2, (E.mark 1048576) = E2 := ⟨_, rfl⟩
 have hs2 : E2.sz ≤ E.sz + 2 := by rw [← hE2e, sz_mark]; omega
 rw [hE2e] at hE2
 clear f0 f11
 obtain ⟨HE2, Hb3, HE2e, HE1, Hb1, Hw2⟩ := hd6 hE2 hb3 hE2e hE1 hb1 hw2
 clear hw2 hb1 hE1 hE2e hb3 hE2
 obtain ⟨f0, f1', _, _, _, _, f6, _⟩ := HE2.out.fn
 rw [Hga.out] at f1'
 replace c4r := (Hb3.out.cell (p := ⟨gb, go + 4, none⟩) hglt).trans c4r
 have hfpl := HE2.out.fpb.2.1
 have hE3 := HE2.out
 have hb5 := Hb3.out
 have hs3 : E2.sz ≤ E.sz + 3 := by omega
 obtain ⟨E3, hE3e⟩ : ∃ E3, E2 = E3 := ⟨_, rfl⟩
 rw [hE3e] at hE3 hs3
 obtain ⟨w3, hw3⟩ : ∃ w3, w3 = w2 := ⟨_, rfl⟩
 have Hrs := Lib.hid hrs
 clear hrs
 go_upto_region 5 with fail
 rw [← hw3]
 rw [← hw3] at hE3 hb5
 clear f0 f1' f6 c4r
 obtain ⟨HE3, Hb5, HE3e, Hw3⟩ := hd4 hE3 hb5 hE3e hw3
 clear hw3 hE3e hb5 hE3
 obtain ⟨_, _, _, _, _, f5, _⟩ := HE3.out.fn
 obtain ⟨cv, sv, zv, nv', Mc, J, L, lvs, _, hI⟩ := id HE3.out
 obtain ⟨SA, sc, hsvv, _⟩ := own_any (hI.own (i := 10) rfl)
 obtain ⟨m, hm⟩ : ∃ m, X.saves.length = m := ⟨_, rfl⟩
 rw [hm] at hsvv hsl
 rw [hsvv] at f5
 clear hI
 obtain ⟨Hsvv, Hm⟩ := hd2 hsvv hm
 clear hm hsvv
 go_wp2_with fail
 clear f5
 go_loopg [45] m (fun gk iv wr => ∃ j : Nat, j + gk = m ∧ iv = .int .i64 j ∧ Hid (EmAt wr base X (E3.fetch (X.saves.take j)) (.blk Rb 48 #[c0, c1, c2, c3, c4, .int .i64 (-1)] :: rest)) ∧ Hid (Below base w wr))
 case atStart => exact ⟨0, by omega, rfl, HE3, Hb5⟩
 case round =>
  obtain ⟨j, hj, rfl, hEj, hbj⟩ := hrel
  by_cases hjm : j < m
  ·obtain ⟨s, hs⟩ : ∃ s, X.saves[j]? = some s := ⟨_, List.getElem?_eq_getElem (by rw [Hm.out]; exact hjm)⟩
   obtain ⟨r, hr⟩ : ∃ r : Nat, s.1 = (r : Int) := ⟨s.1.toNat, by have := Hsv.out s (List.mem_of_getElem? hs); omega⟩
   obtain ⟨ad, c, hsa, k0, k1⟩ := hEj.out.save hs
   rw [Hsvv.out, Hm.out] at hsa
   injection hsa with h1 _ h2
   subst h1
   subst h2
   rw [hr] at k0
   have hji : (j : Int) < m := by omega
   have htk : X.saves.take (j + 1) = X.saves.take j ++ [s] := by rw [List.take_add_one, hs]; rfl
   have hsn := fetch_snoc E3 (X.saves.take j) s
   rw [← htk, show s.1.toNat = r by omega] at hsn
   obtain ⟨so, hso⟩ : ∃ so, s.2 = so := ⟨_, rfl⟩
   obtain ⟨o, ho⟩ : ∃ o, w32 so = o := ⟨_, rfl⟩
   have how : IntKind.i32.wrap so = o := ho
   rw [hso] at k1 hsn
   rw [ho] at hsn
   have htl : (X.saves.take j).length ≤ m := by rw [List.length_take]; omega
   have hbx := hEj.out.box 50 #[.int .i64 (r : Nat), .int .i64 so]
   have hbs := hbj.out.alloc hEj.out.size (.cells #[.int .i64 (r : Nat), .int .i64 so] 50)
   obtain ⟨T, hT⟩ : ∃ T, T = wr.heap.size := ⟨_, rfl⟩
   obtain ⟨w4, hw4⟩ : ∃ w4, w4 = wr.alloc (.cells #[.int .i64 (r : Nat), .int .i64 so] 50) := ⟨_, rfl⟩
   rw [← hw4, ← hT] at hbx
   rw [← hw4] at hbs
   obtain ⟨Hs, Hr, Htk, Hsn, Hso, Ho4, Hbx, Hbs⟩ := hd8 hs hr htk hsn hso ho hbx hbs
   obtain ⟨HT, Hw4⟩ := hd2 hT hw4
   clear hw4 hT hbs hbx ho hso hsn htk hr hs
   go_upto_region 8 with fail
   rw [← Hw4.out, ← HT.out]
   have kT := Hbx.out.blk
   have lT := kT.lt
   have kt0 := Blk.cell kT 0
   have kt1 := Blk.cell kT 1
   simp only [List.getElem?_toArray, List.getElem?_cons_zero, List.getElem?_cons_succ] at kt0 kt1
   obtain ⟨f0, _⟩ := Hbx.out.fn
   have hfpl2 := Hbx.out.fpb.2.1
   have hput := put_em ((Hbx.out.drew).alloc (.cells #[.int .u8 4, .int .i64 (r : Nat), .int .i64 14, .int .i64 0, .int .i32 o] 71)) (ms := [⟨4, r, 14, 0, o⟩]) (c := 1) (Reads.newS _ rfl _ _ _ _ _ rfl rfl) rfl (by rw [sz_fetch]; omega)
   have hba := (Hbs.out.drew).alloc Hbx.out.drew.size (.cells #[.int .u8 4, .int .i64 (r : Nat), .int .i64 14, .int .i64 0, .int .i32 o] 71)
   obtain ⟨Hput3, Hba3, HkT⟩ := hd3 hput hba kT
   clear kT hba hput
   refine wp_region_late (S := fun W => W.cell? ⟨X.fp, 0, none⟩ = some (.pointer (some ⟨X.ep, 0, none⟩)) ∧ W.cell? ⟨T, 0, none⟩ = some (.int .i64 (r : Nat)) ∧ W.cell? ⟨T, 1, none⟩ = some (.int .i64 so)) #[false, false, false, false, false, false, false, false, false, false, false, true] (by kernel_rfl) ⟨f0, kt0, kt1⟩ (fun hHeld => ?_)
   refine wpAnyL_tk 0 ?_
   refine wpAnyL_tk 1 ?_
   refine wpAnyL_tk 2 ?_
   refine wpAnyL_tk 3 ?_
   refine wpAnyL_tk 4 ?_
   refine wpAnyL_tk 5 ?_
   refine wpAnyL_tk 6 ?_
   refine wpAnyL_tk 7 ?_
   refine wpAnyL_tk 8 ?_
   refine wpAnyL_tk 9 ?_
   refine wpAnyL_ready (rs := [10]) (by kernel_rfl) (by simp) ?_
   refine AllReadyL.cons rfl (fun K hK => ?_) AllReadyL.nil
   go_simp
   refine hK.out _ _ ⟨(World.cell?_alloc_lt _ _ ⟨X.fp, 0, none⟩ hfpl2).trans f0, (World.cell?_alloc_lt _ _ ⟨T, 0, none⟩ lT).trans kt0, (World.cell?_alloc_lt _ _ ⟨T, 1, none⟩ lT).trans kt1⟩ (fun hHeld2 => ?_)
   clear hK K hHeld
   try simp only [Act.put, List.getElem_toArray, List.getElem_cons_zero, List.getElem_cons_succ, List.setIfInBounds_toArray, List.set_cons_zero, List.set_cons_succ]
   refine wpAnyL_ready (rs := [11]) (by kernel_rfl) (by simp) ?_
   refine AllReadyL.last rfl (by kernel_rfl) (fun K hK => ?_) AllReadyL.nil
   go_simp
   refine Hput3.out.mono ?_
   rintro e w5 ⟨rfl, hE5, hb6⟩
   refine hK.out _ _ ?_
   clear hK K
   try simp only [Act.put, List.getElem_toArray, List.getElem_cons_zero, List.getElem_cons_succ, List.setIfInBounds_toArray, List.set_cons_zero, List.set_cons_succ]
   refine wpAnyL_done (by kernel_rfl) ?_ _
   have hE6 := hE5.drop
   have hbn := Hba3.out.trans hb6
   rw [← Hsn.out] at hE6
   clear f0 kt0 kt1 k0 k1 how hHeld2
   obtain ⟨HE5, Hb6, HE6, Hbn⟩ := hd4 hE5 hb6 hE6 hbn
   clear hbn hE6 hb6 hE5
   go_wp2_with fail
   go_roundg (gk - 1)
   case measure => omega
   case rel => exact ⟨j + 1, by omega, by simp, HE6, Hbn⟩
  ·obtain rfl : m = j := by omega
   have hjI : ¬ (m : Int) < m := by omega
   rw [List.take_of_length_le (by rw [Hm.out]; exact Nat.le_refl _)] at hEj
   obtain ⟨E4, hE4e⟩ : ∃ E4, E3.fetch X.saves = E4 := ⟨_, rfl⟩
   have hs4 : E4.sz ≤ E.sz + 3 + m := by rw [← hE4e, sz_fetch, Hm.out]; omega
   rw [hE4e] at hEj
   have hE4 := hEj.out
   have hfpl4 := hE4.fpb.2.1
   obtain ⟨f0, _, f2, _⟩ := hE4.fn
   obtain ⟨o, ho⟩ : ∃ o, w32 X.size = o := ⟨_, rfl⟩
   have how : IntKind.i32.wrap X.size = o := ho
   have hput := put_em ((hE4.drew).alloc (.cells #[.int .u8 12, .int .i64 0, .int .i64 0, .int .i64 0, .int .i32 o, .int .u8 10, .int .i64 0, .int .i64 0, .int .i64 0, .int .i32 0] 71)) (ms := [⟨12, 0, 0, 0, o⟩, ⟨10, 0, 0, 0, 0⟩]) (m := 2) (c := 2) (Reads.newS _ rfl _ _ _ _ _ rfl rfl) rfl (by omega)
   have hba := (hbj.out.drew).alloc hE4.drew.size (.cells #[.int .u8 12, .int .i64 0, .int .i64 0, .int .i64 0, .int .i32 o, .int .u8 10, .int .i64 0, .int .i64 0, .int .i64 0, .int .i32 0] 71)
   obtain ⟨HE4e, HE4, Ho5, Hput5, Hba5⟩ := hd5 hE4e hE4 ho hput hba
   clear hba hput ho hE4 hE4e
   go_upto_region 10 with fail
   refine wp_region_late (S := fun W => W.cell? ⟨X.fp, 0, none⟩ = some (.pointer (some ⟨X.ep, 0, none⟩)) ∧ W.cell? ⟨X.fp, 2, none⟩ = some (.int .i64 X.size)) #[false, false, false, false, false, false, false, false, false, false, false, false, false, true] (by kernel_rfl) ⟨f0, f2⟩ (fun hHeld => ?_)
   refine wpAnyL_tk 0 ?_
   refine wpAnyL_tk 1 ?_
   refine wpAnyL_tk 2 ?_
   refine wpAnyL_tk 3 ?_
   refine wpAnyL_tk 4 ?_
   refine wpAnyL_tk 5 ?_
   refine wpAnyL_tk 6 ?_
   refine wpAnyL_tk 7 ?_
   refine wpAnyL_tk 8 ?_
   refine wpAnyL_tk 9 ?_
   refine wpAnyL_tk 10 ?_
   refine wpAnyL_tk 11 ?_
   refine wpAnyL_ready (rs := [12]) (by kernel_rfl) (by simp) ?_
   refine AllReadyL.cons rfl (fun K hK => ?_) AllReadyL.nil
   go_simp
   refine hK.out _ _ ⟨(World.cell?_alloc_lt _ _ ⟨X.fp, 0, none⟩ hfpl4).trans f0, (World.cell?_alloc_lt _ _ ⟨X.fp, 2, none⟩ hfpl4).trans f2⟩ (fun hHeld2 => ?_)
   clear hK K hHeld
   try simp only [Act.put, List.getElem_toArray, List.getElem_cons_zero, List.getElem_cons_succ, List.setIfInBounds_toArray, List.set_cons_zero, List.set_cons_succ]
   refine wpAnyL_ready (rs := [13]) (by kernel_rfl) (by simp) ?_
   refine AllReadyL.last rfl (by kernel_rfl) (fun K hK => ?_) AllReadyL.nil
   go_simp
   refine Hput5.out.mono ?_
   rintro e w5 ⟨rfl, hE5, hb6⟩
   refine hK.out _ _ ?_
   clear hK K
   try simp only [Act.put, List.getElem_toArray, List.getElem_cons_zero, List.getElem_cons_succ, List.setIfInBounds_toArray, List.set_cons_zero, List.set_cons_succ]
   refine wpAnyL_done (by kernel_rfl) ?_ _
   have hbn := Hba5.out.trans hb6
   have hE5e : E4.put [⟨12, 0, 0, 0, w32 X.size⟩, ⟨10, 0, 0, 0, 0⟩] = E4.put [⟨12, 0, 0, 0, o⟩, ⟨10, 0, 0, 0, 0⟩] := by rw [Ho5.out]
   obtain ⟨E5, hE5q⟩ : ∃ E5, E4.put [⟨12, 0, 0, 0, o⟩, ⟨10, 0, 0, 0, 0⟩] = E5 := ⟨_, rfl⟩
   have hs5 : E5.sz ≤ E.sz + 5 + m := by rw [← hE5q, sz_put]; simp only [List.length_cons, List.length_nil]; omega
   rw [hE5q] at hE5 hE5e
   have hlv : E.leave X false = E5 := by
    unfold EmS.leave
    simp only [Hdf.out, Bool.false_eq_true, if_false, if_true, HE2e.out]
    rw [show E2 = E3 from HE3e.out, HE4e.out, hE5e]
   clear f0 f2 how hHeld2
   obtain ⟨_, _, _, _, _, _, _, f11, _⟩ := hE5.fn
   rw [Hdf.out] at f11
   have hraz : ra = -1 := by rw [← Hra.out]; unfold EmS.resumeAt; rw [Hdf.out]; rfl
   obtain ⟨HE5, Hb6, Hbn, HE5e, HE5q, Hlv, Hraz⟩ := hd7 hE5 hb6 hbn hE5e hE5q hlv hraz
   clear hraz hlv hE5q hE5e hbn hb6 hE5
   go_upto_region 19 with fail
   clear f11
   obtain ⟨cvy, svy, zvy, nvy, Mcy, Jy, Ly, lvsy, _, hIy⟩ := id HE5.out
   obtain ⟨ZAy, zcy, hzvy, _⟩ := own_any (hIy.own (i := 6) rfl)
   have fy : w5.cell? ⟨X.fp, 9, none⟩ = some zvy := (hIy.blk (i := 3) rfl).cell 9
   rw [hzvy] at fy
   have hpy := panics_em HE5.out 1048577 E5.zeros.length zcy ZAy 18446744073709551615 (by omega) (by unfold U64; omega) (by omega)
   clear hIy hzvy
   have Hpy := Lib.hid hpy
   clear hpy
   go_wp2_with fail
   refine Hpy.out.mono ?_
   rintro e wy ⟨rfl, hEy, hby⟩
   have hbby := Hbn.out.trans hby
   clear fy
   obtain ⟨HEy, Hby, Hbby⟩ := hd3 hEy hby hbby
   clear hbby hby hEy
   have hsy := sz_panics E5 1048577 E5.zeros.length 18446744073709551615
   have hny := nulls_panics E5 1048577 E5.zeros.length 18446744073709551615
   obtain ⟨Ey, hEye⟩ : ∃ Ey, E5.panics 1048577 E5.zeros.length 18446744073709551615 = Ey := ⟨_, rfl⟩
   rw [hEye] at hsy hny
   have hEy2 := HEy.out
   rw [hEye] at hEy2
   obtain ⟨HEy2, HEye, Hny⟩ := hd3 hEy2 hEye hny
   clear hny hEye hEy2
   obtain ⟨cvz, svz, zvz, nvz, Mcz, Jz, Lz, lvsz, _, hIz⟩ := id HEy2.out
   obtain ⟨ZAz, zcz, hzvz, _⟩ := own_any (hIz.own (i := 7) rfl)
   have fz : wy.cell? ⟨X.fp, 10, none⟩ = some nvz := (hIz.blk (i := 3) rfl).cell 10
   rw [hzvz] at fz
   have hpz := panics_em HEy2.out 1048578 Ey.nulls.length zcz ZAz 18446744073709551614 (by omega) (by unfold U64; omega) (by omega)
   clear hIz hzvz
   have Hpz := Lib.hid hpz
   clear hpz
   go_wp2_with fail
   refine Hpz.out.mono ?_
   rintro e wz ⟨rfl, hEz, hbz⟩
   have hbbz := Hbby.out.trans hbz
   clear fz
   obtain ⟨HEz, Hbz, Hbbz⟩ := hd3 hEz hbz hbbz
   clear hbbz hbz hEz
   have hRR := HR.out
   unfold EmS.end_ at hRR
   rw [Hrs.out, Hlv.out] at hRR
   simp only [Hdf.out, Bool.false_eq_true, if_false] at hRR
   rw [HEye.out, ← Hny.out] at hRR
   go_wp2_with fail
   go_end0
   refine ⟨rfl, ?_, Hbbz.out⟩
   rw [← hRR, Hraz.out]
   exact HEz.out
theorem end_nr {gb go Rb : Nat} {g : GraphD} {c0 c1 c2 c3 c4 : Value} (h : EmAt w base X E (.blk Rb 48 #[c0, c1, c2, c3, c4, .int .i64 (-1)] :: rest)) (hga : X.ga = ⟨gb, (go : Nat), none⟩) (hG : GrF w base gb go g) (hkeep : g.keep < X.nc) (hsv : ∀ s ∈ X.saves, 0 ≤ s.1) (hsl : X.saves.length ≤ 1048576)
  (hns : X.ns ≤ 1048560) (hnc : X.nc ≤ 1048576) (hsz : E.sz + 8388608 ≤ 1099511627776) (hdf : X.defers = false) (hrs : g.result = true) :
  Calls Tryd.prog 41 #[.pointer (some ⟨X.fp, 0, none⟩), .pointer (some ⟨Rb, 0, none⟩)] w fun e w' => e = .returned (.tuple #[]) ∧ EmAt w' base X (E.end_ X g.result g.keep) (.blk Rb 48 #[c0, c1, c2, c3, c4, .int .i64 (E.resumeAt X g.result)] :: rest) ∧ Below base w w' := by
 obtain ⟨R, hR⟩ : ∃ R, E.end_ X g.result g.keep = R := ⟨_, rfl⟩
 obtain ⟨ra, hra⟩ : ∃ ra, E.resumeAt X g.result = ra := ⟨_, rfl⟩
 rw [hR, hra]
 obtain ⟨hglt, pv, kv, iv, nv, hgc, _⟩ := id hG
 have hmk := mark_em h 1048576 (by omega) (by omega)
 have c4r := hgc 4 _ rfl
 have c5r := hgc 5 _ rfl
 rw [hrs] at c4r
 obtain ⟨H, Hga, HG, Hsv, HR, Hra, Hgc, Hmk⟩ := hd8 h hga hG hsv hR hra hgc hmk
 clear hmk hgc hra hR hsv hG hga h
 go_enter Tryd.func41, Tryd.ntmps41
 go_wp2_with fail
 refine Hmk.out.mono ?_
 rintro e w1 ⟨rfl, hE1, hb1⟩
 obtain ⟨f0, f1, _, _, _, _, _, f11, _⟩ := hE1.fn
 rw [Hga.out] at f1
 rw [hdf] at f11
 obtain ⟨Hdf, Hf1⟩ := hd2 hdf f1
 clear f1 hdf
 go_upto_region 3 with fail
 obtain ⟨w2, hw2⟩ : ∃ w2, w2 = w1 := ⟨_, rfl⟩
 rw [← hw2]
 rw [← hw2] at hE1 hb1
 have hE2 := hE1
 have hb3 := hb1
 obtain ⟨E2, hE2e⟩ : ∃ E2, (E.mark 1048576) = E2 := ⟨_, rfl⟩
 have hs2 : E2.sz ≤ E.sz + 2 := by rw [← hE2e, sz_mark]; omega
 rw [hE2e] at hE2
 clear f0 f11
 obtain ⟨HE2, Hb3, HE2e, HE1, Hb1, Hw2⟩ := hd6 hE2 hb3 hE2e hE1 hb1 hw2
 clear hw2 hb1 hE1 hE2e hb3 hE2
 obtain ⟨f0, f1', _, _, _, _, f6, _⟩ := HE2.out.fn
 rw [Hga.out] at f1'
 replace c4r := (Hb3.out.cell (p := ⟨gb, go + 4, none⟩) hglt).trans c4r
 have hfpl := HE2.out.fpb.2.1
 obtain ⟨o, ho⟩ : ∃ o, w32 X.res = o := ⟨_, rfl⟩
 have how : IntKind.i32.wrap X.res = o := ho
 have hput := put_em ((HE2.out.drew).alloc (.cells #[.int .u8 4, .int .i64 0, .int .i64 14, .int .i64 0, .int .i32 o] 71)) (ms := [⟨4, 0, 14, 0, o⟩]) (c := 1) (Reads.newS _ rfl _ _ _ _ _ rfl rfl) rfl (by omega)
 have hba := (Hb3.out.drew).alloc HE2.out.drew.size (.cells #[.int .u8 4, .int .i64 0, .int .i64 14, .int .i64 0, .int .i32 o] 71)
 obtain ⟨Hput2, Hba2, Hrs, Ho⟩ := hd4 hput hba hrs ho
 clear ho hrs hba hput
 go_upto_region 4 with fail
 refine wp_region_late (S := fun W => W.cell? ⟨X.fp, 0, none⟩ = some (.pointer (some ⟨X.ep, 0, none⟩)) ∧ W.cell? ⟨X.fp, 6, none⟩ = some (.int .i64 X.res)) #[false, false, false, false, false, false, false, false, false, false, false, false, true] (by kernel_rfl) ⟨f0, f6⟩ (fun hHeld => ?_)
 refine wpAnyL_tk 0 ?_
 refine wpAnyL_tk 1 ?_
 refine wpAnyL_tk 2 ?_
 refine wpAnyL_tk 3 ?_
 refine wpAnyL_tk 4 ?_
 refine wpAnyL_tk 5 ?_
 refine wpAnyL_tk 6 ?_
 refine wpAnyL_tk 7 ?_
 refine wpAnyL_tk 8 ?_
 refine wpAnyL_tk 9 ?_
 refine wpAnyL_tk 10 ?_
 refine wpAnyL_ready (rs := [11]) (by kernel_rfl) (by simp) ?_
 refine AllReadyL.cons rfl (fun K hK => ?_) AllReadyL.nil
 go_simp
 refine hK.out _ _ ⟨(World.cell?_alloc_lt _ _ ⟨X.fp, 0, none⟩ hfpl).trans f0, (World.cell?_alloc_lt _ _ ⟨X.fp, 6, none⟩ hfpl).trans f6⟩ (fun hHeld2 => ?_)
 clear hK K hHeld
 try simp only [Act.put, List.getElem_toArray, List.getElem_cons_zero, List.getElem_cons_succ, List.setIfInBounds_toArray, List.set_cons_zero, List.set_cons_succ]
 refine wpAnyL_ready (rs := [12]) (by kernel_rfl) (by simp) ?_
 refine AllReadyL.last rfl (by kernel_rfl) (fun K hK => ?_) AllReadyL.nil
 go_simp
 refine Hput2.out.mono ?_
 rintro e w3 ⟨rfl, hE3, hb4⟩
 refine hK.out _ _ ?_
 clear hK K
 try simp only [Act.put, List.getElem_toArray, List.getElem_cons_zero, List.getElem_cons_succ, List.setIfInBounds_toArray, List.set_cons_zero, List.set_cons_succ]
 refine wpAnyL_done (by kernel_rfl) ?_ _
 have hb5 := Hba2.out.trans hb4
 have hs3 : (E2.put [⟨4, 0, 14, 0, o⟩]).sz ≤ E.sz + 3 := by rw [sz_put]; simp only [List.length_cons, List.length_nil]; omega
 have hE3e : E2.put [⟨4, 0, 14, 0, w32 X.res⟩] = E2.put [⟨4, 0, 14, 0, o⟩] := by rw [Ho.out]
 obtain ⟨E3, hE3q⟩ : ∃ E3, E2.put [⟨4, 0, 14, 0, o⟩] = E3 := ⟨_, rfl⟩
 rw [hE3q] at hE3 hs3 hE3e
 clear f0 f1' f6 c4r how hHeld2
 obtain ⟨HE3, Hb4, Hb5, HE3e, HE3q⟩ := hd5 hE3 hb4 hb5 hE3e hE3q
 clear hE3q hE3e hb5 hb4 hE3
 go_upto_region 5 with fail
 obtain ⟨_, _, _, _, _, f5, _⟩ := HE3.out.fn
 obtain ⟨cv, sv, zv, nv', Mc, J, L, lvs, _, hI⟩ := id HE3.out
 obtain ⟨SA, sc, hsvv, _⟩ := own_any (hI.own (i := 10) rfl)
 obtain ⟨m, hm⟩ : ∃ m, X.saves.length = m := ⟨_, rfl⟩
 rw [hm] at hsvv hsl
 rw [hsvv] at f5
 clear hI
 obtain ⟨Hsvv, Hm⟩ := hd2 hsvv hm
 clear hm hsvv
 go_wp2_with fail
 clear f5
 go_loopg [45] m (fun gk iv wr => ∃ j : Nat, j + gk = m ∧ iv = .int .i64 j ∧ Hid (EmAt wr base X (E3.fetch (X.saves.take j)) (.blk Rb 48 #[c0, c1, c2, c3, c4, .int .i64 (-1)] :: rest)) ∧ Hid (Below base w wr))
 case atStart => exact ⟨0, by omega, rfl, HE3, Hb5⟩
 case round =>
  obtain ⟨j, hj, rfl, hEj, hbj⟩ := hrel
  by_cases hjm : j < m
  ·obtain ⟨s, hs⟩ : ∃ s, X.saves[j]? = some s := ⟨_, List.getElem?_eq_getElem (by rw [Hm.out]; exact hjm)⟩
   obtain ⟨r, hr⟩ : ∃ r : Nat, s.1 = (r : Int) := ⟨s.1.toNat, by have := Hsv.out s (List.mem_of_getElem? hs); omega⟩
   obtain ⟨ad, c, hsa, k0, k1⟩ := hEj.out.save hs
   rw [Hsvv.out, Hm.out] at hsa
   injection hsa with h1 _ h2
   subst h1
   subst h2
   rw [hr] at k0
   have hji : (j : Int) < m := by omega
   have htk : X.saves.take (j + 1) = X.saves.take j ++ [s] := by rw [List.take_add_one, hs]; rfl
   have hsn := fetch_snoc E3 (X.saves.take j) s
   rw [← htk, show s.1.toNat = r by omega] at hsn
   obtain ⟨so, hso⟩ : ∃ so, s.2 = so := ⟨_, rfl⟩
   obtain ⟨o, ho⟩ : ∃ o, w32 so = o := ⟨_, rfl⟩
   have how : IntKind.i32.wrap so = o := ho
   rw [hso] at k1 hsn
   rw [ho] at hsn
   have htl : (X.saves.take j).length ≤ m := by rw [List.length_take]; omega
   have hbx := hEj.out.box 50 #[.int .i64 (r : Nat), .int .i64 so]
   have hbs := hbj.out.alloc hEj.out.size (.cells #[.int .i64 (r : Nat), .int .i64 so] 50)
   obtain ⟨T, hT⟩ : ∃ T, T = wr.heap.size := ⟨_, rfl⟩
   obtain ⟨w4, hw4⟩ : ∃ w4, w4 = wr.alloc (.cells #[.int .i64 (r : Nat), .int .i64 so] 50) := ⟨_, rfl⟩
   rw [← hw4, ← hT] at hbx
   rw [← hw4] at hbs
   obtain ⟨Hs, Hr, Htk, Hsn, Hso, Ho4, Hbx, Hbs⟩ := hd8 hs hr htk hsn hso ho hbx hbs
   obtain ⟨HT, Hw4⟩ := hd2 hT hw4
   clear hw4 hT hbs hbx ho hso hsn htk hr hs
   go_upto_region 8 with fail
   rw [← Hw4.out, ← HT.out]
   have kT := Hbx.out.blk
   have lT := kT.lt
   have kt0 := Blk.cell kT 0
   have kt1 := Blk.cell kT 1
   simp only [List.getElem?_toArray, List.getElem?_cons_zero, List.getElem?_cons_succ] at kt0 kt1
   obtain ⟨f0, _⟩ := Hbx.out.fn
   have hfpl2 := Hbx.out.fpb.2.1
   have hput := put_em ((Hbx.out.drew).alloc (.cells #[.int .u8 4, .int .i64 (r : Nat), .int .i64 14, .int .i64 0, .int .i32 o] 71)) (ms := [⟨4, r, 14, 0, o⟩]) (c := 1) (Reads.newS _ rfl _ _ _ _ _ rfl rfl) rfl (by rw [sz_fetch]; omega)
   have hba := (Hbs.out.drew).alloc Hbx.out.drew.size (.cells #[.int .u8 4, .int .i64 (r : Nat), .int .i64 14, .int .i64 0, .int .i32 o] 71)
   obtain ⟨Hput3, Hba3, HkT⟩ := hd3 hput hba kT
   clear kT hba hput
   refine wp_region_late (S := fun W => W.cell? ⟨X.fp, 0, none⟩ = some (.pointer (some ⟨X.ep, 0, none⟩)) ∧ W.cell? ⟨T, 0, none⟩ = some (.int .i64 (r : Nat)) ∧ W.cell? ⟨T, 1, none⟩ = some (.int .i64 so)) #[false, false, false, false, false, false, false, false, false, false, false, true] (by kernel_rfl) ⟨f0, kt0, kt1⟩ (fun hHeld => ?_)
   refine wpAnyL_tk 0 ?_
   refine wpAnyL_tk 1 ?_
   refine wpAnyL_tk 2 ?_
   refine wpAnyL_tk 3 ?_
   refine wpAnyL_tk 4 ?_
   refine wpAnyL_tk 5 ?_
   refine wpAnyL_tk 6 ?_
   refine wpAnyL_tk 7 ?_
   refine wpAnyL_tk 8 ?_
   refine wpAnyL_tk 9 ?_
   refine wpAnyL_ready (rs := [10]) (by kernel_rfl) (by simp) ?_
   refine AllReadyL.cons rfl (fun K hK => ?_) AllReadyL.nil
   go_simp
   refine hK.out _ _ ⟨(World.cell?_alloc_lt _ _ ⟨X.fp, 0, none⟩ hfpl2).trans f0, (World.cell?_alloc_lt _ _ ⟨T, 0, none⟩ lT).trans kt0, (World.cell?_alloc_lt _ _ ⟨T, 1, none⟩ lT).trans kt1⟩ (fun hHeld2 => ?_)
   clear hK K hHeld
   try simp only [Act.put, List.getElem_toArray, List.getElem_cons_zero, List.getElem_cons_succ, List.setIfInBounds_toArray, List.set_cons_zero, List.set_cons_succ]
   refine wpAnyL_ready (rs := [11]) (by kernel_rfl) (by simp) ?_
   refine AllReadyL.last rfl (by kernel_rfl) (fun K hK => ?_) AllReadyL.nil
   go_simp
   refine Hput3.out.mono ?_
   rintro e w5 ⟨rfl, hE5, hb6⟩
   refine hK.out _ _ ?_
   clear hK K
   try simp only [Act.put, List.getElem_toArray, List.getElem_cons_zero, List.getElem_cons_succ, List.setIfInBounds_toArray, List.set_cons_zero, List.set_cons_succ]
   refine wpAnyL_done (by kernel_rfl) ?_ _
   have hE6 := hE5.drop
   have hbn := Hba3.out.trans hb6
   rw [← Hsn.out] at hE6
   clear f0 kt0 kt1 k0 k1 how hHeld2
   obtain ⟨HE5, Hb6, HE6, Hbn⟩ := hd4 hE5 hb6 hE6 hbn
   clear hbn hE6 hb6 hE5
   go_wp2_with fail
   go_roundg (gk - 1)
   case measure => omega
   case rel => exact ⟨j + 1, by omega, by simp, HE6, Hbn⟩
  ·obtain rfl : m = j := by omega
   have hjI : ¬ (m : Int) < m := by omega
   rw [List.take_of_length_le (by rw [Hm.out]; exact Nat.le_refl _)] at hEj
   obtain ⟨E4, hE4e⟩ : ∃ E4, E3.fetch X.saves = E4 := ⟨_, rfl⟩
   have hs4 : E4.sz ≤ E.sz + 3 + m := by rw [← hE4e, sz_fetch, Hm.out]; omega
   rw [hE4e] at hEj
   have hE4 := hEj.out
   have hfpl4 := hE4.fpb.2.1
   obtain ⟨f0, _, f2, _⟩ := hE4.fn
   obtain ⟨o, ho⟩ : ∃ o, w32 X.size = o := ⟨_, rfl⟩
   have how : IntKind.i32.wrap X.size = o := ho
   have hput := put_em ((hE4.drew).alloc (.cells #[.int .u8 12, .int .i64 0, .int .i64 0, .int .i64 0, .int .i32 o, .int .u8 10, .int .i64 0, .int .i64 0, .int .i64 0, .int .i32 0] 71)) (ms := [⟨12, 0, 0, 0, o⟩, ⟨10, 0, 0, 0, 0⟩]) (m := 2) (c := 2) (Reads.newS _ rfl _ _ _ _ _ rfl rfl) rfl (by omega)
   have hba := (hbj.out.drew).alloc hE4.drew.size (.cells #[.int .u8 12, .int .i64 0, .int .i64 0, .int .i64 0, .int .i32 o, .int .u8 10, .int .i64 0, .int .i64 0, .int .i64 0, .int .i32 0] 71)
   obtain ⟨HE4e, HE4, Ho5, Hput5, Hba5⟩ := hd5 hE4e hE4 ho hput hba
   clear hba hput ho hE4 hE4e
   go_upto_region 10 with fail
   refine wp_region_late (S := fun W => W.cell? ⟨X.fp, 0, none⟩ = some (.pointer (some ⟨X.ep, 0, none⟩)) ∧ W.cell? ⟨X.fp, 2, none⟩ = some (.int .i64 X.size)) #[false, false, false, false, false, false, false, false, false, false, false, false, false, true] (by kernel_rfl) ⟨f0, f2⟩ (fun hHeld => ?_)
   refine wpAnyL_tk 0 ?_
   refine wpAnyL_tk 1 ?_
   refine wpAnyL_tk 2 ?_
   refine wpAnyL_tk 3 ?_
   refine wpAnyL_tk 4 ?_
   refine wpAnyL_tk 5 ?_
   refine wpAnyL_tk 6 ?_
   refine wpAnyL_tk 7 ?_
   refine wpAnyL_tk 8 ?_
   refine wpAnyL_tk 9 ?_
   refine wpAnyL_tk 10 ?_
   refine wpAnyL_tk 11 ?_
   refine wpAnyL_ready (rs := [12]) (by kernel_rfl) (by simp) ?_
   refine AllReadyL.cons rfl (fun K hK => ?_) AllReadyL.nil
   go_simp
   refine hK.out _ _ ⟨(World.cell?_alloc_lt _ _ ⟨X.fp, 0, none⟩ hfpl4).trans f0, (World.cell?_alloc_lt _ _ ⟨X.fp, 2, none⟩ hfpl4).trans f2⟩ (fun hHeld2 => ?_)
   clear hK K hHeld
   try simp only [Act.put, List.getElem_toArray, List.getElem_cons_zero, List.getElem_cons_succ, List.setIfInBounds_toArray, List.set_cons_zero, List.set_cons_succ]
   refine wpAnyL_ready (rs := [13]) (by kernel_rfl) (by simp) ?_
   refine AllReadyL.last rfl (by kernel_rfl) (fun K hK => ?_) AllReadyL.nil
   go_simp
   refine Hput5.out.mono ?_
   rintro e w5 ⟨rfl, hE5, hb6⟩
   refine hK.out _ _ ?_
   clear hK K
   try simp only [Act.put, List.getElem_toArray, List.getElem_cons_zero, List.getElem_cons_succ, List.setIfInBounds_toArray, List.set_cons_zero, List.set_cons_succ]
   refine wpAnyL_done (by kernel_rfl) ?_ _
   have hbn := Hba5.out.trans hb6
   have hE5e : E4.put [⟨12, 0, 0, 0, w32 X.size⟩, ⟨10, 0, 0, 0, 0⟩] = E4.put [⟨12, 0, 0, 0, o⟩, ⟨10, 0, 0, 0, 0⟩] := by rw [Ho5.out]
   obtain ⟨E5, hE5q⟩ : ∃ E5, E4.put [⟨12, 0, 0, 0, o⟩, ⟨10, 0, 0, 0, 0⟩] = E5 := ⟨_, rfl⟩
   have hs5 : E5.sz ≤ E.sz + 5 + m := by rw [← hE5q, sz_put]; simp only [List.length_cons, List.length_nil]; omega
   rw [hE5q] at hE5 hE5e
   have hlv : E.leave X true = E5 := by
    unfold EmS.leave
    simp only [Hdf.out, Bool.false_eq_true, if_false, if_true, HE2e.out]
    rw [HE3e.out, HE4e.out, hE5e]
   clear f0 f2 how hHeld2
   obtain ⟨_, _, _, _, _, _, _, f11, _⟩ := hE5.fn
   rw [Hdf.out] at f11
   have hraz : ra = -1 := by rw [← Hra.out]; unfold EmS.resumeAt; rw [Hdf.out]; rfl
   obtain ⟨HE5, Hb6, Hbn, HE5e, HE5q, Hlv, Hraz⟩ := hd7 hE5 hb6 hbn hE5e hE5q hlv hraz
   clear hraz hlv hE5q hE5e hbn hb6 hE5
   go_upto_region 19 with fail
   clear f11
   obtain ⟨cvy, svy, zvy, nvy, Mcy, Jy, Ly, lvsy, _, hIy⟩ := id HE5.out
   obtain ⟨ZAy, zcy, hzvy, _⟩ := own_any (hIy.own (i := 6) rfl)
   have fy : w5.cell? ⟨X.fp, 9, none⟩ = some zvy := (hIy.blk (i := 3) rfl).cell 9
   rw [hzvy] at fy
   have hpy := panics_em HE5.out 1048577 E5.zeros.length zcy ZAy 18446744073709551615 (by omega) (by unfold U64; omega) (by omega)
   clear hIy hzvy
   have Hpy := Lib.hid hpy
   clear hpy
   go_wp2_with fail
   refine Hpy.out.mono ?_
   rintro e wy ⟨rfl, hEy, hby⟩
   have hbby := Hbn.out.trans hby
   clear fy
   obtain ⟨HEy, Hby, Hbby⟩ := hd3 hEy hby hbby
   clear hbby hby hEy
   have hsy := sz_panics E5 1048577 E5.zeros.length 18446744073709551615
   have hny := nulls_panics E5 1048577 E5.zeros.length 18446744073709551615
   obtain ⟨Ey, hEye⟩ : ∃ Ey, E5.panics 1048577 E5.zeros.length 18446744073709551615 = Ey := ⟨_, rfl⟩
   rw [hEye] at hsy hny
   have hEy2 := HEy.out
   rw [hEye] at hEy2
   obtain ⟨HEy2, HEye, Hny⟩ := hd3 hEy2 hEye hny
   clear hny hEye hEy2
   obtain ⟨cvz, svz, zvz, nvz, Mcz, Jz, Lz, lvsz, _, hIz⟩ := id HEy2.out
   obtain ⟨ZAz, zcz, hzvz, _⟩ := own_any (hIz.own (i := 7) rfl)
   have fz : wy.cell? ⟨X.fp, 10, none⟩ = some nvz := (hIz.blk (i := 3) rfl).cell 10
   rw [hzvz] at fz
   have hpz := panics_em HEy2.out 1048578 Ey.nulls.length zcz ZAz 18446744073709551614 (by omega) (by unfold U64; omega) (by omega)
   clear hIz hzvz
   have Hpz := Lib.hid hpz
   clear hpz
   go_wp2_with fail
   refine Hpz.out.mono ?_
   rintro e wz ⟨rfl, hEz, hbz⟩
   have hbbz := Hbby.out.trans hbz
   clear fz
   obtain ⟨HEz, Hbz, Hbbz⟩ := hd3 hEz hbz hbbz
   clear hbbz hbz hEz
   have hRR := HR.out
   unfold EmS.end_ at hRR
   rw [Hrs.out, Hlv.out] at hRR
   simp only [Hdf.out, Bool.false_eq_true, if_false] at hRR
   rw [HEye.out, ← Hny.out] at hRR
   go_wp2_with fail
   go_end0
   refine ⟨rfl, ?_, Hbbz.out⟩
   rw [← hRR, Hraz.out]
   exact HEz.out
theorem end_dv {gb go Rb : Nat} {g : GraphD} {c0 c1 c2 c3 c4 : Value} (h : EmAt w base X E (.blk Rb 48 #[c0, c1, c2, c3, c4, .int .i64 (-1)] :: rest)) (hga : X.ga = ⟨gb, (go : Nat), none⟩) (hG : GrF w base gb go g) (hkeep : g.keep < X.nc) (hsv : ∀ s ∈ X.saves, 0 ≤ s.1) (hsl : X.saves.length ≤ 1048576)
  (hns : X.ns ≤ 1048560) (hnc : X.nc ≤ 1048576) (hsz : E.sz + 8388608 ≤ 1099511627776) (hdf : X.defers = true) (hrs : g.result = false) :
  Calls Tryd.prog 41 #[.pointer (some ⟨X.fp, 0, none⟩), .pointer (some ⟨Rb, 0, none⟩)] w fun e w' => e = .returned (.tuple #[]) ∧ EmAt w' base X (E.end_ X g.result g.keep) (.blk Rb 48 #[c0, c1, c2, c3, c4, .int .i64 (E.resumeAt X g.result)] :: rest) ∧ Below base w w' := by
 obtain ⟨R, hR⟩ : ∃ R, E.end_ X g.result g.keep = R := ⟨_, rfl⟩
 obtain ⟨ra, hra⟩ : ∃ ra, E.resumeAt X g.result = ra := ⟨_, rfl⟩
 rw [hR, hra]
 obtain ⟨hglt, pv, kv, iv, nv, hgc, _⟩ := id hG
 have hmk := mark_em h 1048576 (by omega) (by omega)
 have c4r := hgc 4 _ rfl
 have c5r := hgc 5 _ rfl
 rw [hrs] at c4r
 obtain ⟨H, Hga, HG, Hsv, HR, Hra, Hgc, Hmk⟩ := hd8 h hga hG hsv hR hra hgc hmk
 clear hmk hgc hra hR hsv hG hga h
 go_enter Tryd.func41, Tryd.ntmps41
 go_wp2_with fail
 refine Hmk.out.mono ?_
 rintro e w1 ⟨rfl, hE1, hb1⟩
 obtain ⟨f0, f1, _, _, _, _, _, f11, _⟩ := hE1.fn
 rw [Hga.out] at f1
 rw [hdf] at f11
 have hput := put_em (hE1.alloc (.cells #[.int .u8 13, .int .i64 0, .int .i64 0, .int .i64 0, .int .i32 8] 71)) (ms := [⟨13, 0, 0, 0, 8⟩]) (c := 1) (Reads.newS _ rfl _ _ _ _ _ rfl rfl) rfl (by rw [sz_mark]; omega)
 have hba := hb1.alloc hE1.size (.cells #[.int .u8 13, .int .i64 0, .int .i64 0, .int .i64 0, .int .i32 8] 71)
 obtain ⟨HE1, Hb1, Hput, Hba, Hdf, Hf1⟩ := hd6 hE1 hb1 hput hba hdf f1
 clear f1 hdf hba hput hb1 hE1
 go_wp2_with fail
 refine Hput.out.mono ?_
 rintro e w2 ⟨rfl, hE2, hb2⟩
 go_upto_region 3 with fail
 have hb3 := Hba.out.trans hb2
 obtain ⟨E2, hE2e⟩ : ∃ E2, (E.mark 1048576).put [⟨13, 0, 0, 0, 8⟩] = E2 := ⟨_, rfl⟩
 have hs2 : E2.sz ≤ E.sz + 2 := by rw [← hE2e, sz_put, sz_mark]; exact Nat.le_refl _
 rw [hE2e] at hE2
 clear f0 f11
 obtain ⟨HE2, Hb2, Hb3, HE2e⟩ := hd4 hE2 hb2 hb3 hE2e
 clear hE2e hb3 hb2 hE2
 obtain ⟨f0, f1', _, _, _, _, f6, _⟩ := HE2.out.fn
 rw [Hga.out] at f1'
 replace c4r := (Hb3.out.cell (p := ⟨gb, go + 4, none⟩) hglt).trans c4r
 have hfpl := HE2.out.fpb.2.1
 have hE3 := HE2.out
 have hb5 := Hb3.out
 have hs3 : E2.sz ≤ E.sz + 3 := by omega
 obtain ⟨E3, hE3e⟩ : ∃ E3, E2 = E3 := ⟨_, rfl⟩
 rw [hE3e] at hE3 hs3
 obtain ⟨w3, hw3⟩ : ∃ w3, w3 = w2 := ⟨_, rfl⟩
 have Hrs := Lib.hid hrs
 clear hrs
 go_upto_region 5 with fail
 rw [← hw3]
 rw [← hw3] at hE3 hb5
 clear f0 f1' f6 c4r
 obtain ⟨HE3, Hb5, HE3e, Hw3⟩ := hd4 hE3 hb5 hE3e hw3
 clear hw3 hE3e hb5 hE3
 obtain ⟨_, _, _, _, _, f5, _⟩ := HE3.out.fn
 obtain ⟨cv, sv, zv, nv', Mc, J, L, lvs, _, hI⟩ := id HE3.out
 obtain ⟨SA, sc, hsvv, _⟩ := own_any (hI.own (i := 10) rfl)
 obtain ⟨m, hm⟩ : ∃ m, X.saves.length = m := ⟨_, rfl⟩
 rw [hm] at hsvv hsl
 rw [hsvv] at f5
 clear hI
 obtain ⟨Hsvv, Hm⟩ := hd2 hsvv hm
 clear hm hsvv
 go_wp2_with fail
 clear f5
 go_loopg [45] m (fun gk iv wr => ∃ j : Nat, j + gk = m ∧ iv = .int .i64 j ∧ Hid (EmAt wr base X (E3.fetch (X.saves.take j)) (.blk Rb 48 #[c0, c1, c2, c3, c4, .int .i64 (-1)] :: rest)) ∧ Hid (Below base w wr))
 case atStart => exact ⟨0, by omega, rfl, HE3, Hb5⟩
 case round =>
  obtain ⟨j, hj, rfl, hEj, hbj⟩ := hrel
  by_cases hjm : j < m
  ·obtain ⟨s, hs⟩ : ∃ s, X.saves[j]? = some s := ⟨_, List.getElem?_eq_getElem (by rw [Hm.out]; exact hjm)⟩
   obtain ⟨r, hr⟩ : ∃ r : Nat, s.1 = (r : Int) := ⟨s.1.toNat, by have := Hsv.out s (List.mem_of_getElem? hs); omega⟩
   obtain ⟨ad, c, hsa, k0, k1⟩ := hEj.out.save hs
   rw [Hsvv.out, Hm.out] at hsa
   injection hsa with h1 _ h2
   subst h1
   subst h2
   rw [hr] at k0
   have hji : (j : Int) < m := by omega
   have htk : X.saves.take (j + 1) = X.saves.take j ++ [s] := by rw [List.take_add_one, hs]; rfl
   have hsn := fetch_snoc E3 (X.saves.take j) s
   rw [← htk, show s.1.toNat = r by omega] at hsn
   obtain ⟨so, hso⟩ : ∃ so, s.2 = so := ⟨_, rfl⟩
   obtain ⟨o, ho⟩ : ∃ o, w32 so = o := ⟨_, rfl⟩
   have how : IntKind.i32.wrap so = o := ho
   rw [hso] at k1 hsn
   rw [ho] at hsn
   have htl : (X.saves.take j).length ≤ m := by rw [List.length_take]; omega
   have hbx := hEj.out.box 50 #[.int .i64 (r : Nat), .int .i64 so]
   have hbs := hbj.out.alloc hEj.out.size (.cells #[.int .i64 (r : Nat), .int .i64 so] 50)
   obtain ⟨T, hT⟩ : ∃ T, T = wr.heap.size := ⟨_, rfl⟩
   obtain ⟨w4, hw4⟩ : ∃ w4, w4 = wr.alloc (.cells #[.int .i64 (r : Nat), .int .i64 so] 50) := ⟨_, rfl⟩
   rw [← hw4, ← hT] at hbx
   rw [← hw4] at hbs
   obtain ⟨Hs, Hr, Htk, Hsn, Hso, Ho4, Hbx, Hbs⟩ := hd8 hs hr htk hsn hso ho hbx hbs
   obtain ⟨HT, Hw4⟩ := hd2 hT hw4
   clear hw4 hT hbs hbx ho hso hsn htk hr hs
   go_upto_region 8 with fail
   rw [← Hw4.out, ← HT.out]
   have kT := Hbx.out.blk
   have lT := kT.lt
   have kt0 := Blk.cell kT 0
   have kt1 := Blk.cell kT 1
   simp only [List.getElem?_toArray, List.getElem?_cons_zero, List.getElem?_cons_succ] at kt0 kt1
   obtain ⟨f0, _⟩ := Hbx.out.fn
   have hfpl2 := Hbx.out.fpb.2.1
   have hput := put_em ((Hbx.out.drew).alloc (.cells #[.int .u8 4, .int .i64 (r : Nat), .int .i64 14, .int .i64 0, .int .i32 o] 71)) (ms := [⟨4, r, 14, 0, o⟩]) (c := 1) (Reads.newS _ rfl _ _ _ _ _ rfl rfl) rfl (by rw [sz_fetch]; omega)
   have hba := (Hbs.out.drew).alloc Hbx.out.drew.size (.cells #[.int .u8 4, .int .i64 (r : Nat), .int .i64 14, .int .i64 0, .int .i32 o] 71)
   obtain ⟨Hput3, Hba3, HkT⟩ := hd3 hput hba kT
   clear kT hba hput
   refine wp_region_late (S := fun W => W.cell? ⟨X.fp, 0, none⟩ = some (.pointer (some ⟨X.ep, 0, none⟩)) ∧ W.cell? ⟨T, 0, none⟩ = some (.int .i64 (r : Nat)) ∧ W.cell? ⟨T, 1, none⟩ = some (.int .i64 so)) #[false, false, false, false, false, false, false, false, false, false, false, true] (by kernel_rfl) ⟨f0, kt0, kt1⟩ (fun hHeld => ?_)
   refine wpAnyL_tk 0 ?_
   refine wpAnyL_tk 1 ?_
   refine wpAnyL_tk 2 ?_
   refine wpAnyL_tk 3 ?_
   refine wpAnyL_tk 4 ?_
   refine wpAnyL_tk 5 ?_
   refine wpAnyL_tk 6 ?_
   refine wpAnyL_tk 7 ?_
   refine wpAnyL_tk 8 ?_
   refine wpAnyL_tk 9 ?_
   refine wpAnyL_ready (rs := [10]) (by kernel_rfl) (by simp) ?_
   refine AllReadyL.cons rfl (fun K hK => ?_) AllReadyL.nil
   go_simp
   refine hK.out _ _ ⟨(World.cell?_alloc_lt _ _ ⟨X.fp, 0, none⟩ hfpl2).trans f0, (World.cell?_alloc_lt _ _ ⟨T, 0, none⟩ lT).trans kt0, (World.cell?_alloc_lt _ _ ⟨T, 1, none⟩ lT).trans kt1⟩ (fun hHeld2 => ?_)
   clear hK K hHeld
   try simp only [Act.put, List.getElem_toArray, List.getElem_cons_zero, List.getElem_cons_succ, List.setIfInBounds_toArray, List.set_cons_zero, List.set_cons_succ]
   refine wpAnyL_ready (rs := [11]) (by kernel_rfl) (by simp) ?_
   refine AllReadyL.last rfl (by kernel_rfl) (fun K hK => ?_) AllReadyL.nil
   go_simp
   refine Hput3.out.mono ?_
   rintro e w5 ⟨rfl, hE5, hb6⟩
   refine hK.out _ _ ?_
   clear hK K
   try simp only [Act.put, List.getElem_toArray, List.getElem_cons_zero, List.getElem_cons_succ, List.setIfInBounds_toArray, List.set_cons_zero, List.set_cons_succ]
   refine wpAnyL_done (by kernel_rfl) ?_ _
   have hE6 := hE5.drop
   have hbn := Hba3.out.trans hb6
   rw [← Hsn.out] at hE6
   clear f0 kt0 kt1 k0 k1 how hHeld2
   obtain ⟨HE5, Hb6, HE6, Hbn⟩ := hd4 hE5 hb6 hE6 hbn
   clear hbn hE6 hb6 hE5
   go_wp2_with fail
   go_roundg (gk - 1)
   case measure => omega
   case rel => exact ⟨j + 1, by omega, by simp, HE6, Hbn⟩
  ·obtain rfl : m = j := by omega
   have hjI : ¬ (m : Int) < m := by omega
   rw [List.take_of_length_le (by rw [Hm.out]; exact Nat.le_refl _)] at hEj
   obtain ⟨E4, hE4e⟩ : ∃ E4, E3.fetch X.saves = E4 := ⟨_, rfl⟩
   have hs4 : E4.sz ≤ E.sz + 3 + m := by rw [← hE4e, sz_fetch, Hm.out]; omega
   rw [hE4e] at hEj
   have hE4 := hEj.out
   have hfpl4 := hE4.fpb.2.1
   obtain ⟨f0, _, f2, _⟩ := hE4.fn
   obtain ⟨o, ho⟩ : ∃ o, w32 X.size = o := ⟨_, rfl⟩
   have how : IntKind.i32.wrap X.size = o := ho
   have hput := put_em ((hE4.drew).alloc (.cells #[.int .u8 12, .int .i64 0, .int .i64 0, .int .i64 0, .int .i32 o, .int .u8 10, .int .i64 0, .int .i64 0, .int .i64 0, .int .i32 0] 71)) (ms := [⟨12, 0, 0, 0, o⟩, ⟨10, 0, 0, 0, 0⟩]) (m := 2) (c := 2) (Reads.newS _ rfl _ _ _ _ _ rfl rfl) rfl (by omega)
   have hba := (hbj.out.drew).alloc hE4.drew.size (.cells #[.int .u8 12, .int .i64 0, .int .i64 0, .int .i64 0, .int .i32 o, .int .u8 10, .int .i64 0, .int .i64 0, .int .i64 0, .int .i32 0] 71)
   obtain ⟨HE4e, HE4, Ho5, Hput5, Hba5⟩ := hd5 hE4e hE4 ho hput hba
   clear hba hput ho hE4 hE4e
   go_upto_region 10 with fail
   refine wp_region_late (S := fun W => W.cell? ⟨X.fp, 0, none⟩ = some (.pointer (some ⟨X.ep, 0, none⟩)) ∧ W.cell? ⟨X.fp, 2, none⟩ = some (.int .i64 X.size)) #[false, false, false, false, false, false, false, false, false, false, false, false, false, true] (by kernel_rfl) ⟨f0, f2⟩ (fun hHeld => ?_)
   refine wpAnyL_tk 0 ?_
   refine wpAnyL_tk 1 ?_
   refine wpAnyL_tk 2 ?_
   refine wpAnyL_tk 3 ?_
   refine wpAnyL_tk 4 ?_
   refine wpAnyL_tk 5 ?_
   refine wpAnyL_tk 6 ?_
   refine wpAnyL_tk 7 ?_
   refine wpAnyL_tk 8 ?_
   refine wpAnyL_tk 9 ?_
   refine wpAnyL_tk 10 ?_
   refine wpAnyL_tk 11 ?_
   refine wpAnyL_ready (rs := [12]) (by kernel_rfl) (by simp) ?_
   refine AllReadyL.cons rfl (fun K hK => ?_) AllReadyL.nil
   go_simp
   refine hK.out _ _ ⟨(World.cell?_alloc_lt _ _ ⟨X.fp, 0, none⟩ hfpl4).trans f0, (World.cell?_alloc_lt _ _ ⟨X.fp, 2, none⟩ hfpl4).trans f2⟩ (fun hHeld2 => ?_)
   clear hK K hHeld
   try simp only [Act.put, List.getElem_toArray, List.getElem_cons_zero, List.getElem_cons_succ, List.setIfInBounds_toArray, List.set_cons_zero, List.set_cons_succ]
   refine wpAnyL_ready (rs := [13]) (by kernel_rfl) (by simp) ?_
   refine AllReadyL.last rfl (by kernel_rfl) (fun K hK => ?_) AllReadyL.nil
   go_simp
   refine Hput5.out.mono ?_
   rintro e w5 ⟨rfl, hE5, hb6⟩
   refine hK.out _ _ ?_
   clear hK K
   try simp only [Act.put, List.getElem_toArray, List.getElem_cons_zero, List.getElem_cons_succ, List.setIfInBounds_toArray, List.set_cons_zero, List.set_cons_succ]
   refine wpAnyL_done (by kernel_rfl) ?_ _
   have hbn := Hba5.out.trans hb6
   have hE5e : E4.put [⟨12, 0, 0, 0, w32 X.size⟩, ⟨10, 0, 0, 0, 0⟩] = E4.put [⟨12, 0, 0, 0, o⟩, ⟨10, 0, 0, 0, 0⟩] := by rw [Ho5.out]
   obtain ⟨E5, hE5q⟩ : ∃ E5, E4.put [⟨12, 0, 0, 0, o⟩, ⟨10, 0, 0, 0, 0⟩] = E5 := ⟨_, rfl⟩
   have hs5 : E5.sz ≤ E.sz + 5 + m := by rw [← hE5q, sz_put]; simp only [List.length_cons, List.length_nil]; omega
   rw [hE5q] at hE5 hE5e
   have hlv : E.leave X false = E5 := by
    unfold EmS.leave
    simp only [Hdf.out, if_true, HE2e.out]
    simp only [if_false, Bool.false_eq_true]; rw [show E2 = E3 from HE3e.out, HE4e.out, hE5e]
   clear f0 f2 how hHeld2
   obtain ⟨f0, f1, _, _, _, _, f6, f11, _⟩ := hE5.fn
   rw [Hga.out] at f1
   rw [Hdf.out] at f11
   obtain ⟨CA, cc, k0⟩ := hE5.code
   have hBR := hE5.blk
   have kr5 := hBR.cell 5
   have fr5 := hBR.frozen 5
   simp only [List.getElem?_toArray, List.getElem?_cons_zero, List.getElem?_cons_succ] at kr5
   have hraz : ra = ((E5.code.length : Nat) : Int) := by rw [← Hra.out]; unfold EmS.resumeAt; rw [Hdf.out, Hrs.out, hlv]; rfl
   obtain ⟨hE6, hRb⟩ := hE5.setFirst 5 (.int .i64 (E5.code.length : Nat))
   simp only [List.setIfInBounds_toArray, List.set_cons_succ, List.set_cons_zero] at hE6
   have hb7 := hbn.setCell (p := ⟨Rb, 5, none⟩) hRb (.int .i64 (E5.code.length : Nat))
   obtain ⟨w6, hw6⟩ : ∃ w6, w6 = w5.setCell ⟨Rb, 5, none⟩ (.int .i64 (E5.code.length : Nat)) := ⟨_, rfl⟩
   rw [← hw6] at hE6 hb7
   rw [← hraz] at hE6
   obtain ⟨HE5, Hb6, Hbn, HE5e, HE5q, Hlv, Hraz, HBR⟩ := hd8 hE5 hb6 hbn hE5e hE5q hlv hraz hBR
   obtain ⟨HE6, Hb7, Hw6⟩ := hd3 hE6 hb7 hw6
   clear hw6 hb7 hE6 hBR hraz hlv hE5q hE5e hbn hb6 hE5
   go_upto_region 13 with fail
   rw [← Hw6.out]
   clear f0 f1 f6 f11 k0 kr5 fr5
   obtain ⟨f0, f1, f2, f3, f4, _, f6, _⟩ := HE6.out.fn
   rw [Hga.out] at f1
   have c4s := (Hb7.out.cell (p := ⟨gb, go + 4, none⟩) hglt).trans (Hgc.out 4 _ rfl)
   have c5s := (Hb7.out.cell (p := ⟨gb, go + 5, none⟩) hglt).trans c5r
   rw [Hrs.out] at c4s
   have hs8 : E5.sz ≤ E.sz + 8 + m := by omega
   clear f0 f2 f3 f4 f6 c5s
   have hjp := jump_em HE6.out 7 0 1048576 (by omega) (by omega) (by omega)
   have Hjp := Lib.hid hjp
   clear hjp
   go_wp2_with fail
   refine Hjp.out.mono ?_
   rintro e w9 ⟨rfl, hE9, hb12⟩
   have hb13 := Hb7.out.trans hb12
   have hs9 : (E5.jump 7 0 1048576).sz ≤ E.sz + 10 + m := by rw [sz_jump]; omega
   obtain ⟨E9, hE9e⟩ : ∃ E9, E5.jump 7 0 1048576 = E9 := ⟨_, rfl⟩
   rw [hE9e] at hE9 hs9
   clear c4s f1
   obtain ⟨HE9, Hb12, Hb13, HE9e⟩ := hd4 hE9 hb12 hb13 hE9e
   clear hE9e hb13 hb12 hE9
   go_upto_region 19 with fail
   obtain ⟨cvy, svy, zvy, nvy, Mcy, Jy, Ly, lvsy, _, hIy⟩ := id HE9.out
   obtain ⟨ZAy, zcy, hzvy, _⟩ := own_any (hIy.own (i := 6) rfl)
   have fy : w9.cell? ⟨X.fp, 9, none⟩ = some zvy := (hIy.blk (i := 3) rfl).cell 9
   rw [hzvy] at fy
   have hpy := panics_em HE9.out 1048577 E9.zeros.length zcy ZAy 18446744073709551615 (by omega) (by unfold U64; omega) (by omega)
   clear hIy hzvy
   have Hpy := Lib.hid hpy
   clear hpy
   go_wp2_with fail
   refine Hpy.out.mono ?_
   rintro e wy ⟨rfl, hEy, hby⟩
   have hbby := Hb13.out.trans hby
   clear fy
   obtain ⟨HEy, Hby, Hbby⟩ := hd3 hEy hby hbby
   clear hbby hby hEy
   have hsy := sz_panics E9 1048577 E9.zeros.length 18446744073709551615
   have hny := nulls_panics E9 1048577 E9.zeros.length 18446744073709551615
   obtain ⟨Ey, hEye⟩ : ∃ Ey, E9.panics 1048577 E9.zeros.length 18446744073709551615 = Ey := ⟨_, rfl⟩
   rw [hEye] at hsy hny
   have hEy2 := HEy.out
   rw [hEye] at hEy2
   obtain ⟨HEy2, HEye, Hny⟩ := hd3 hEy2 hEye hny
   clear hny hEye hEy2
   obtain ⟨cvz, svz, zvz, nvz, Mcz, Jz, Lz, lvsz, _, hIz⟩ := id HEy2.out
   obtain ⟨ZAz, zcz, hzvz, _⟩ := own_any (hIz.own (i := 7) rfl)
   have fz : wy.cell? ⟨X.fp, 10, none⟩ = some nvz := (hIz.blk (i := 3) rfl).cell 10
   rw [hzvz] at fz
   have hpz := panics_em HEy2.out 1048578 Ey.nulls.length zcz ZAz 18446744073709551614 (by omega) (by unfold U64; omega) (by omega)
   clear hIz hzvz
   have Hpz := Lib.hid hpz
   clear hpz
   go_wp2_with fail
   refine Hpz.out.mono ?_
   rintro e wz ⟨rfl, hEz, hbz⟩
   have hbbz := Hbby.out.trans hbz
   clear fz
   obtain ⟨HEz, Hbz, Hbbz⟩ := hd3 hEz hbz hbbz
   clear hbbz hbz hEz
   have hRR := HR.out
   unfold EmS.end_ EmS.resume at hRR
   rw [Hrs.out, Hlv.out] at hRR
   simp only [Hdf.out, if_true, Bool.false_eq_true, if_false] at hRR
   rw [HE9e.out] at hRR
   rw [HEye.out, ← Hny.out] at hRR
   go_wp2_with fail
   go_end0
   refine ⟨rfl, ?_, Hbbz.out⟩
   rw [← hRR]
   exact HEz.out
theorem end_drk {gb go Rb : Nat} {g : GraphD} {c0 c1 c2 c3 c4 : Value} (h : EmAt w base X E (.blk Rb 48 #[c0, c1, c2, c3, c4, .int .i64 (-1)] :: rest)) (hga : X.ga = ⟨gb, (go : Nat), none⟩) (hG : GrF w base gb go g) (hkeep : g.keep < X.nc) (hsv : ∀ s ∈ X.saves, 0 ≤ s.1) (hsl : X.saves.length ≤ 1048576)
  (hns : X.ns ≤ 1048560) (hnc : X.nc ≤ 1048576) (hsz : E.sz + 8388608 ≤ 1099511627776) (hdf : X.defers = true) (hrs : g.result = true) (hkp : 0 ≤ g.keep) :
  Calls Tryd.prog 41 #[.pointer (some ⟨X.fp, 0, none⟩), .pointer (some ⟨Rb, 0, none⟩)] w fun e w' => e = .returned (.tuple #[]) ∧ EmAt w' base X (E.end_ X g.result g.keep) (.blk Rb 48 #[c0, c1, c2, c3, c4, .int .i64 (E.resumeAt X g.result)] :: rest) ∧ Below base w w' := by
 obtain ⟨R, hR⟩ : ∃ R, E.end_ X g.result g.keep = R := ⟨_, rfl⟩
 obtain ⟨ra, hra⟩ : ∃ ra, E.resumeAt X g.result = ra := ⟨_, rfl⟩
 rw [hR, hra]
 obtain ⟨hglt, pv, kv, iv, nv, hgc, _⟩ := id hG
 have hmk := mark_em h 1048576 (by omega) (by omega)
 have c4r := hgc 4 _ rfl
 have c5r := hgc 5 _ rfl
 rw [hrs] at c4r
 obtain ⟨H, Hga, HG, Hsv, HR, Hra, Hgc, Hmk⟩ := hd8 h hga hG hsv hR hra hgc hmk
 clear hmk hgc hra hR hsv hG hga h
 go_enter Tryd.func41, Tryd.ntmps41
 go_wp2_with fail
 refine Hmk.out.mono ?_
 rintro e w1 ⟨rfl, hE1, hb1⟩
 obtain ⟨f0, f1, _, _, _, _, _, f11, _⟩ := hE1.fn
 rw [Hga.out] at f1
 rw [hdf] at f11
 have hput := put_em (hE1.alloc (.cells #[.int .u8 13, .int .i64 0, .int .i64 0, .int .i64 0, .int .i32 8] 71)) (ms := [⟨13, 0, 0, 0, 8⟩]) (c := 1) (Reads.newS _ rfl _ _ _ _ _ rfl rfl) rfl (by rw [sz_mark]; omega)
 have hba := hb1.alloc hE1.size (.cells #[.int .u8 13, .int .i64 0, .int .i64 0, .int .i64 0, .int .i32 8] 71)
 obtain ⟨HE1, Hb1, Hput, Hba, Hdf, Hf1⟩ := hd6 hE1 hb1 hput hba hdf f1
 clear f1 hdf hba hput hb1 hE1
 go_wp2_with fail
 refine Hput.out.mono ?_
 rintro e w2 ⟨rfl, hE2, hb2⟩
 go_upto_region 3 with fail
 have hb3 := Hba.out.trans hb2
 obtain ⟨E2, hE2e⟩ : ∃ E2, (E.mark 1048576).put [⟨13, 0, 0, 0, 8⟩] = E2 := ⟨_, rfl⟩
 have hs2 : E2.sz ≤ E.sz + 2 := by rw [← hE2e, sz_put, sz_mark]; exact Nat.le_refl _
 rw [hE2e] at hE2
 clear f0 f11
 obtain ⟨HE2, Hb2, Hb3, HE2e⟩ := hd4 hE2 hb2 hb3 hE2e
 clear hE2e hb3 hb2 hE2
 obtain ⟨f0, f1', _, _, _, _, f6, _⟩ := HE2.out.fn
 rw [Hga.out] at f1'
 replace c4r := (Hb3.out.cell (p := ⟨gb, go + 4, none⟩) hglt).trans c4r
 have hfpl := HE2.out.fpb.2.1
 obtain ⟨o, ho⟩ : ∃ o, w32 X.res = o := ⟨_, rfl⟩
 have how : IntKind.i32.wrap X.res = o := ho
 have hput := put_em ((HE2.out.drew).alloc (.cells #[.int .u8 4, .int .i64 0, .int .i64 14, .int .i64 0, .int .i32 o] 71)) (ms := [⟨4, 0, 14, 0, o⟩]) (c := 1) (Reads.newS _ rfl _ _ _ _ _ rfl rfl) rfl (by omega)
 have hba := (Hb3.out.drew).alloc HE2.out.drew.size (.cells #[.int .u8 4, .int .i64 0, .int .i64 14, .int .i64 0, .int .i32 o] 71)
 obtain ⟨Hput2, Hba2, Hrs, Ho⟩ := hd4 hput hba hrs ho
 clear ho hrs hba hput
 go_upto_region 4 with fail
 refine wp_region_late (S := fun W => W.cell? ⟨X.fp, 0, none⟩ = some (.pointer (some ⟨X.ep, 0, none⟩)) ∧ W.cell? ⟨X.fp, 6, none⟩ = some (.int .i64 X.res)) #[false, false, false, false, false, false, false, false, false, false, false, false, true] (by kernel_rfl) ⟨f0, f6⟩ (fun hHeld => ?_)
 refine wpAnyL_tk 0 ?_
 refine wpAnyL_tk 1 ?_
 refine wpAnyL_tk 2 ?_
 refine wpAnyL_tk 3 ?_
 refine wpAnyL_tk 4 ?_
 refine wpAnyL_tk 5 ?_
 refine wpAnyL_tk 6 ?_
 refine wpAnyL_tk 7 ?_
 refine wpAnyL_tk 8 ?_
 refine wpAnyL_tk 9 ?_
 refine wpAnyL_tk 10 ?_
 refine wpAnyL_ready (rs := [11]) (by kernel_rfl) (by simp) ?_
 refine AllReadyL.cons rfl (fun K hK => ?_) AllReadyL.nil
 go_simp
 refine hK.out _ _ ⟨(World.cell?_alloc_lt _ _ ⟨X.fp, 0, none⟩ hfpl).trans f0, (World.cell?_alloc_lt _ _ ⟨X.fp, 6, none⟩ hfpl).trans f6⟩ (fun hHeld2 => ?_)
 clear hK K hHeld
 try simp only [Act.put, List.getElem_toArray, List.getElem_cons_zero, List.getElem_cons_succ, List.setIfInBounds_toArray, List.set_cons_zero, List.set_cons_succ]
 refine wpAnyL_ready (rs := [12]) (by kernel_rfl) (by simp) ?_
 refine AllReadyL.last rfl (by kernel_rfl) (fun K hK => ?_) AllReadyL.nil
 go_simp
 refine Hput2.out.mono ?_
 rintro e w3 ⟨rfl, hE3, hb4⟩
 refine hK.out _ _ ?_
 clear hK K
 try simp only [Act.put, List.getElem_toArray, List.getElem_cons_zero, List.getElem_cons_succ, List.setIfInBounds_toArray, List.set_cons_zero, List.set_cons_succ]
 refine wpAnyL_done (by kernel_rfl) ?_ _
 have hb5 := Hba2.out.trans hb4
 have hs3 : (E2.put [⟨4, 0, 14, 0, o⟩]).sz ≤ E.sz + 3 := by rw [sz_put]; simp only [List.length_cons, List.length_nil]; omega
 have hE3e : E2.put [⟨4, 0, 14, 0, w32 X.res⟩] = E2.put [⟨4, 0, 14, 0, o⟩] := by rw [Ho.out]
 obtain ⟨E3, hE3q⟩ : ∃ E3, E2.put [⟨4, 0, 14, 0, o⟩] = E3 := ⟨_, rfl⟩
 rw [hE3q] at hE3 hs3 hE3e
 clear f0 f1' f6 c4r how hHeld2
 obtain ⟨HE3, Hb4, Hb5, HE3e, HE3q⟩ := hd5 hE3 hb4 hb5 hE3e hE3q
 clear hE3q hE3e hb5 hb4 hE3
 go_upto_region 5 with fail
 obtain ⟨_, _, _, _, _, f5, _⟩ := HE3.out.fn
 obtain ⟨cv, sv, zv, nv', Mc, J, L, lvs, _, hI⟩ := id HE3.out
 obtain ⟨SA, sc, hsvv, _⟩ := own_any (hI.own (i := 10) rfl)
 obtain ⟨m, hm⟩ : ∃ m, X.saves.length = m := ⟨_, rfl⟩
 rw [hm] at hsvv hsl
 rw [hsvv] at f5
 clear hI
 obtain ⟨Hsvv, Hm⟩ := hd2 hsvv hm
 clear hm hsvv
 go_wp2_with fail
 clear f5
 go_loopg [45] m (fun gk iv wr => ∃ j : Nat, j + gk = m ∧ iv = .int .i64 j ∧ Hid (EmAt wr base X (E3.fetch (X.saves.take j)) (.blk Rb 48 #[c0, c1, c2, c3, c4, .int .i64 (-1)] :: rest)) ∧ Hid (Below base w wr))
 case atStart => exact ⟨0, by omega, rfl, HE3, Hb5⟩
 case round =>
  obtain ⟨j, hj, rfl, hEj, hbj⟩ := hrel
  by_cases hjm : j < m
  ·obtain ⟨s, hs⟩ : ∃ s, X.saves[j]? = some s := ⟨_, List.getElem?_eq_getElem (by rw [Hm.out]; exact hjm)⟩
   obtain ⟨r, hr⟩ : ∃ r : Nat, s.1 = (r : Int) := ⟨s.1.toNat, by have := Hsv.out s (List.mem_of_getElem? hs); omega⟩
   obtain ⟨ad, c, hsa, k0, k1⟩ := hEj.out.save hs
   rw [Hsvv.out, Hm.out] at hsa
   injection hsa with h1 _ h2
   subst h1
   subst h2
   rw [hr] at k0
   have hji : (j : Int) < m := by omega
   have htk : X.saves.take (j + 1) = X.saves.take j ++ [s] := by rw [List.take_add_one, hs]; rfl
   have hsn := fetch_snoc E3 (X.saves.take j) s
   rw [← htk, show s.1.toNat = r by omega] at hsn
   obtain ⟨so, hso⟩ : ∃ so, s.2 = so := ⟨_, rfl⟩
   obtain ⟨o, ho⟩ : ∃ o, w32 so = o := ⟨_, rfl⟩
   have how : IntKind.i32.wrap so = o := ho
   rw [hso] at k1 hsn
   rw [ho] at hsn
   have htl : (X.saves.take j).length ≤ m := by rw [List.length_take]; omega
   have hbx := hEj.out.box 50 #[.int .i64 (r : Nat), .int .i64 so]
   have hbs := hbj.out.alloc hEj.out.size (.cells #[.int .i64 (r : Nat), .int .i64 so] 50)
   obtain ⟨T, hT⟩ : ∃ T, T = wr.heap.size := ⟨_, rfl⟩
   obtain ⟨w4, hw4⟩ : ∃ w4, w4 = wr.alloc (.cells #[.int .i64 (r : Nat), .int .i64 so] 50) := ⟨_, rfl⟩
   rw [← hw4, ← hT] at hbx
   rw [← hw4] at hbs
   obtain ⟨Hs, Hr, Htk, Hsn, Hso, Ho4, Hbx, Hbs⟩ := hd8 hs hr htk hsn hso ho hbx hbs
   obtain ⟨HT, Hw4⟩ := hd2 hT hw4
   clear hw4 hT hbs hbx ho hso hsn htk hr hs
   go_upto_region 8 with fail
   rw [← Hw4.out, ← HT.out]
   have kT := Hbx.out.blk
   have lT := kT.lt
   have kt0 := Blk.cell kT 0
   have kt1 := Blk.cell kT 1
   simp only [List.getElem?_toArray, List.getElem?_cons_zero, List.getElem?_cons_succ] at kt0 kt1
   obtain ⟨f0, _⟩ := Hbx.out.fn
   have hfpl2 := Hbx.out.fpb.2.1
   have hput := put_em ((Hbx.out.drew).alloc (.cells #[.int .u8 4, .int .i64 (r : Nat), .int .i64 14, .int .i64 0, .int .i32 o] 71)) (ms := [⟨4, r, 14, 0, o⟩]) (c := 1) (Reads.newS _ rfl _ _ _ _ _ rfl rfl) rfl (by rw [sz_fetch]; omega)
   have hba := (Hbs.out.drew).alloc Hbx.out.drew.size (.cells #[.int .u8 4, .int .i64 (r : Nat), .int .i64 14, .int .i64 0, .int .i32 o] 71)
   obtain ⟨Hput3, Hba3, HkT⟩ := hd3 hput hba kT
   clear kT hba hput
   refine wp_region_late (S := fun W => W.cell? ⟨X.fp, 0, none⟩ = some (.pointer (some ⟨X.ep, 0, none⟩)) ∧ W.cell? ⟨T, 0, none⟩ = some (.int .i64 (r : Nat)) ∧ W.cell? ⟨T, 1, none⟩ = some (.int .i64 so)) #[false, false, false, false, false, false, false, false, false, false, false, true] (by kernel_rfl) ⟨f0, kt0, kt1⟩ (fun hHeld => ?_)
   refine wpAnyL_tk 0 ?_
   refine wpAnyL_tk 1 ?_
   refine wpAnyL_tk 2 ?_
   refine wpAnyL_tk 3 ?_
   refine wpAnyL_tk 4 ?_
   refine wpAnyL_tk 5 ?_
   refine wpAnyL_tk 6 ?_
   refine wpAnyL_tk 7 ?_
   refine wpAnyL_tk 8 ?_
   refine wpAnyL_tk 9 ?_
   refine wpAnyL_ready (rs := [10]) (by kernel_rfl) (by simp) ?_
   refine AllReadyL.cons rfl (fun K hK => ?_) AllReadyL.nil
   go_simp
   refine hK.out _ _ ⟨(World.cell?_alloc_lt _ _ ⟨X.fp, 0, none⟩ hfpl2).trans f0, (World.cell?_alloc_lt _ _ ⟨T, 0, none⟩ lT).trans kt0, (World.cell?_alloc_lt _ _ ⟨T, 1, none⟩ lT).trans kt1⟩ (fun hHeld2 => ?_)
   clear hK K hHeld
   try simp only [Act.put, List.getElem_toArray, List.getElem_cons_zero, List.getElem_cons_succ, List.setIfInBounds_toArray, List.set_cons_zero, List.set_cons_succ]
   refine wpAnyL_ready (rs := [11]) (by kernel_rfl) (by simp) ?_
   refine AllReadyL.last rfl (by kernel_rfl) (fun K hK => ?_) AllReadyL.nil
   go_simp
   refine Hput3.out.mono ?_
   rintro e w5 ⟨rfl, hE5, hb6⟩
   refine hK.out _ _ ?_
   clear hK K
   try simp only [Act.put, List.getElem_toArray, List.getElem_cons_zero, List.getElem_cons_succ, List.setIfInBounds_toArray, List.set_cons_zero, List.set_cons_succ]
   refine wpAnyL_done (by kernel_rfl) ?_ _
   have hE6 := hE5.drop
   have hbn := Hba3.out.trans hb6
   rw [← Hsn.out] at hE6
   clear f0 kt0 kt1 k0 k1 how hHeld2
   obtain ⟨HE5, Hb6, HE6, Hbn⟩ := hd4 hE5 hb6 hE6 hbn
   clear hbn hE6 hb6 hE5
   go_wp2_with fail
   go_roundg (gk - 1)
   case measure => omega
   case rel => exact ⟨j + 1, by omega, by simp, HE6, Hbn⟩
  ·obtain rfl : m = j := by omega
   have hjI : ¬ (m : Int) < m := by omega
   rw [List.take_of_length_le (by rw [Hm.out]; exact Nat.le_refl _)] at hEj
   obtain ⟨E4, hE4e⟩ : ∃ E4, E3.fetch X.saves = E4 := ⟨_, rfl⟩
   have hs4 : E4.sz ≤ E.sz + 3 + m := by rw [← hE4e, sz_fetch, Hm.out]; omega
   rw [hE4e] at hEj
   have hE4 := hEj.out
   have hfpl4 := hE4.fpb.2.1
   obtain ⟨f0, _, f2, _⟩ := hE4.fn
   obtain ⟨o, ho⟩ : ∃ o, w32 X.size = o := ⟨_, rfl⟩
   have how : IntKind.i32.wrap X.size = o := ho
   have hput := put_em ((hE4.drew).alloc (.cells #[.int .u8 12, .int .i64 0, .int .i64 0, .int .i64 0, .int .i32 o, .int .u8 10, .int .i64 0, .int .i64 0, .int .i64 0, .int .i32 0] 71)) (ms := [⟨12, 0, 0, 0, o⟩, ⟨10, 0, 0, 0, 0⟩]) (m := 2) (c := 2) (Reads.newS _ rfl _ _ _ _ _ rfl rfl) rfl (by omega)
   have hba := (hbj.out.drew).alloc hE4.drew.size (.cells #[.int .u8 12, .int .i64 0, .int .i64 0, .int .i64 0, .int .i32 o, .int .u8 10, .int .i64 0, .int .i64 0, .int .i64 0, .int .i32 0] 71)
   obtain ⟨HE4e, HE4, Ho5, Hput5, Hba5⟩ := hd5 hE4e hE4 ho hput hba
   clear hba hput ho hE4 hE4e
   go_upto_region 10 with fail
   refine wp_region_late (S := fun W => W.cell? ⟨X.fp, 0, none⟩ = some (.pointer (some ⟨X.ep, 0, none⟩)) ∧ W.cell? ⟨X.fp, 2, none⟩ = some (.int .i64 X.size)) #[false, false, false, false, false, false, false, false, false, false, false, false, false, true] (by kernel_rfl) ⟨f0, f2⟩ (fun hHeld => ?_)
   refine wpAnyL_tk 0 ?_
   refine wpAnyL_tk 1 ?_
   refine wpAnyL_tk 2 ?_
   refine wpAnyL_tk 3 ?_
   refine wpAnyL_tk 4 ?_
   refine wpAnyL_tk 5 ?_
   refine wpAnyL_tk 6 ?_
   refine wpAnyL_tk 7 ?_
   refine wpAnyL_tk 8 ?_
   refine wpAnyL_tk 9 ?_
   refine wpAnyL_tk 10 ?_
   refine wpAnyL_tk 11 ?_
   refine wpAnyL_ready (rs := [12]) (by kernel_rfl) (by simp) ?_
   refine AllReadyL.cons rfl (fun K hK => ?_) AllReadyL.nil
   go_simp
   refine hK.out _ _ ⟨(World.cell?_alloc_lt _ _ ⟨X.fp, 0, none⟩ hfpl4).trans f0, (World.cell?_alloc_lt _ _ ⟨X.fp, 2, none⟩ hfpl4).trans f2⟩ (fun hHeld2 => ?_)
   clear hK K hHeld
   try simp only [Act.put, List.getElem_toArray, List.getElem_cons_zero, List.getElem_cons_succ, List.setIfInBounds_toArray, List.set_cons_zero, List.set_cons_succ]
   refine wpAnyL_ready (rs := [13]) (by kernel_rfl) (by simp) ?_
   refine AllReadyL.last rfl (by kernel_rfl) (fun K hK => ?_) AllReadyL.nil
   go_simp
   refine Hput5.out.mono ?_
   rintro e w5 ⟨rfl, hE5, hb6⟩
   refine hK.out _ _ ?_
   clear hK K
   try simp only [Act.put, List.getElem_toArray, List.getElem_cons_zero, List.getElem_cons_succ, List.setIfInBounds_toArray, List.set_cons_zero, List.set_cons_succ]
   refine wpAnyL_done (by kernel_rfl) ?_ _
   have hbn := Hba5.out.trans hb6
   have hE5e : E4.put [⟨12, 0, 0, 0, w32 X.size⟩, ⟨10, 0, 0, 0, 0⟩] = E4.put [⟨12, 0, 0, 0, o⟩, ⟨10, 0, 0, 0, 0⟩] := by rw [Ho5.out]
   obtain ⟨E5, hE5q⟩ : ∃ E5, E4.put [⟨12, 0, 0, 0, o⟩, ⟨10, 0, 0, 0, 0⟩] = E5 := ⟨_, rfl⟩
   have hs5 : E5.sz ≤ E.sz + 5 + m := by rw [← hE5q, sz_put]; simp only [List.length_cons, List.length_nil]; omega
   rw [hE5q] at hE5 hE5e
   have hlv : E.leave X true = E5 := by
    unfold EmS.leave
    simp only [Hdf.out, if_true, HE2e.out]
    rw [HE3e.out, HE4e.out, hE5e]
   clear f0 f2 how hHeld2
   obtain ⟨f0, f1, _, _, _, _, f6, f11, _⟩ := hE5.fn
   rw [Hga.out] at f1
   rw [Hdf.out] at f11
   obtain ⟨CA, cc, k0⟩ := hE5.code
   have hBR := hE5.blk
   have kr5 := hBR.cell 5
   have fr5 := hBR.frozen 5
   simp only [List.getElem?_toArray, List.getElem?_cons_zero, List.getElem?_cons_succ] at kr5
   have hraz : ra = ((E5.code.length : Nat) : Int) := by rw [← Hra.out]; unfold EmS.resumeAt; rw [Hdf.out, Hrs.out, hlv]; rfl
   obtain ⟨hE6, hRb⟩ := hE5.setFirst 5 (.int .i64 (E5.code.length : Nat))
   simp only [List.setIfInBounds_toArray, List.set_cons_succ, List.set_cons_zero] at hE6
   have hb7 := hbn.setCell (p := ⟨Rb, 5, none⟩) hRb (.int .i64 (E5.code.length : Nat))
   obtain ⟨w6, hw6⟩ : ∃ w6, w6 = w5.setCell ⟨Rb, 5, none⟩ (.int .i64 (E5.code.length : Nat)) := ⟨_, rfl⟩
   rw [← hw6] at hE6 hb7
   rw [← hraz] at hE6
   obtain ⟨HE5, Hb6, Hbn, HE5e, HE5q, Hlv, Hraz, HBR⟩ := hd8 hE5 hb6 hbn hE5e hE5q hlv hraz hBR
   obtain ⟨HE6, Hb7, Hw6⟩ := hd3 hE6 hb7 hw6
   clear hw6 hb7 hE6 hBR hraz hlv hE5q hE5e hbn hb6 hE5
   go_upto_region 13 with fail
   rw [← Hw6.out]
   clear f0 f1 f6 f11 k0 kr5 fr5
   obtain ⟨f0, f1, f2, f3, f4, _, f6, _⟩ := HE6.out.fn
   rw [Hga.out] at f1
   have c4s := (Hb7.out.cell (p := ⟨gb, go + 4, none⟩) hglt).trans (Hgc.out 4 _ rfl)
   have c5s := (Hb7.out.cell (p := ⟨gb, go + 5, none⟩) hglt).trans c5r
   rw [Hrs.out] at c4s
   obtain ⟨k, hk⟩ : ∃ k : Nat, g.keep = (k : Int) := ⟨g.keep.toNat, by omega⟩
   have hkc : k < X.nc := by omega
   rw [hk] at c5s
   obtain ⟨cad, cc2, hclv, hcl⟩ := HE6.out.cellOff hkc
   rw [hclv] at f4
   have hkI : (k : Int) < X.nc := by omega
   have hkw : IntKind.i64.wrap (k : Int) = k := by rw [IntKind.wrap_i64]; omega
   have hcadl : cad.block < w6.heap.size := World.block_lt_of_cell? w6 (cad.add k) hcl |> fun hh => by rw [block_of_add] at hh; exact hh
   obtain ⟨o2, ho2⟩ : ∃ o2, w32 (8 * ((X.ns + k : Nat) : Int)) = o2 := ⟨_, rfl⟩
   have how2 : IntKind.i32.wrap (8 * ((X.ns + k : Nat) : Int)) = o2 := ho2
   obtain ⟨q, hq⟩ : ∃ q, 8 * ((X.ns + k : Nat) : Int) = q := ⟨_, rfl⟩
   rw [hq] at hcl how2
   have hfpl6 := HE6.out.fpb.2.1
   have hgl6 : gb < w6.heap.size := Nat.lt_of_lt_of_le hglt HE6.out.size
   have hput := put_em ((HE6.out.drew).alloc (.cells #[.int .u8 4, .int .i64 13, .int .i64 14, .int .i64 0, .int .i32 o2] 71)) (ms := [⟨4, 13, 14, 0, o2⟩]) (c := 1) (Reads.newS _ rfl _ _ _ _ _ rfl rfl) rfl (by omega)
   have hba := (Hb7.out.drew).alloc HE6.out.drew.size (.cells #[.int .u8 4, .int .i64 13, .int .i64 14, .int .i64 0, .int .i32 o2] 71)
   obtain ⟨Hk, Hclv, Ho2, Hq, Hput6, Hba6⟩ := hd6 hk hclv ho2 hq hput hba
   clear hba hput hq ho2 hclv hk
   clear c5r hkeep hkp
   go_upto_region 15 with fail
   refine wp_region_late (S := fun W => W.cell? ⟨X.fp, 0, none⟩ = some (.pointer (some ⟨X.ep, 0, none⟩)) ∧ W.cell? ⟨X.fp, 1, none⟩ = some (.pointer (some ⟨gb, go, none⟩)) ∧ W.cell? ⟨X.fp, 4, none⟩ = some (.slice (some cad) X.nc cc2) ∧ W.cell? ⟨gb, go + 5, none⟩ = some (.int .i64 (k : Nat)) ∧ W.cell? (cad.add k) = some (.int .i64 q)) #[false, false, false, false, false, false, false, false, false, false, false, false, false, false, false, false, false, false, false, false, false, true] (by kernel_rfl) ⟨f0, f1, f4, c5s, hcl⟩ (fun hHeld => ?_)
   refine wpAnyL_tk 0 ?_
   refine wpAnyL_tk 1 ?_
   refine wpAnyL_tk 2 ?_
   refine wpAnyL_tk 3 ?_
   refine wpAnyL_tk 4 ?_
   refine wpAnyL_tk 5 ?_
   refine wpAnyL_tk 6 ?_
   refine wpAnyL_tk 7 ?_
   refine wpAnyL_tk 8 ?_
   refine wpAnyL_tk 9 ?_
   refine wpAnyL_tk 10 ?_
   refine wpAnyL_tk 11 ?_
   refine wpAnyL_tk 12 ?_
   refine wpAnyL_tk 13 ?_
   refine wpAnyL_tk 14 ?_
   refine wpAnyL_tk 15 ?_
   refine wpAnyL_tk 16 ?_
   refine wpAnyL_tk 17 ?_
   refine wpAnyL_tk 18 ?_
   refine wpAnyL_tk 19 ?_
   refine wpAnyL_ready (rs := [20]) (by kernel_rfl) (by simp) ?_
   refine AllReadyL.cons rfl (fun K hK => ?_) AllReadyL.nil
   go_simp
   refine hK.out _ _ ⟨(World.cell?_alloc_lt _ _ ⟨X.fp, 0, none⟩ hfpl6).trans f0, (World.cell?_alloc_lt _ _ ⟨X.fp, 1, none⟩ hfpl6).trans f1, (World.cell?_alloc_lt _ _ ⟨X.fp, 4, none⟩ hfpl6).trans f4, (World.cell?_alloc_lt _ _ ⟨gb, go + 5, none⟩ hgl6).trans c5s, (World.cell?_alloc_lt _ _ (cad.add k) (by rw [block_of_add]; exact hcadl)).trans hcl⟩ (fun hHeld2 => ?_)
   clear hK K hHeld
   try simp only [Act.put, List.getElem_toArray, List.getElem_cons_zero, List.getElem_cons_succ, List.setIfInBounds_toArray, List.set_cons_zero, List.set_cons_succ]
   refine wpAnyL_ready (rs := [21]) (by kernel_rfl) (by simp) ?_
   refine AllReadyL.last rfl (by kernel_rfl) (fun K hK => ?_) AllReadyL.nil
   go_simp
   refine Hput6.out.mono ?_
   rintro e w7 ⟨rfl, hE7, hb8⟩
   refine hK.out _ _ ?_
   clear hK K
   try simp only [Act.put, List.getElem_toArray, List.getElem_cons_zero, List.getElem_cons_succ, List.setIfInBounds_toArray, List.set_cons_zero, List.set_cons_succ]
   refine wpAnyL_done (by kernel_rfl) ?_ _
   have hb9 := Hba6.out.trans hb8
   have hE7e : E5.put [⟨4, 13, 14, 0, w32 (8 * ((X.ns : Int) + g.keep))⟩] = E5.put [⟨4, 13, 14, 0, o2⟩] := by rw [← Ho2.out, Hk.out]; congr 4
   obtain ⟨E7, hE7q⟩ : ∃ E7, E5.put [⟨4, 13, 14, 0, o2⟩] = E7 := ⟨_, rfl⟩
   have hs7 : E7.sz ≤ E.sz + 7 + m := by rw [← hE7q, sz_put]; simp only [List.length_cons, List.length_nil]; omega
   rw [hE7q] at hE7 hE7e
   have hif : (if 0 ≤ g.keep then E5.put [⟨4, 13, 14, 0, w32 (8 * ((X.ns : Int) + g.keep))⟩] else E5.number 13 0) = E7 := by rw [if_pos (by rw [Hk.out]; omega), hE7e]
   clear f0 f1 f2 f3 f4 f6 c4s c5s hcl how2 hkw hHeld2
   obtain ⟨HE7, Hb8, Hb9, HE7e, HE7q, Hif⟩ := hd6 hE7 hb8 hb9 hE7e hE7q hif
   clear hif hE7q hE7e hb9 hb8 hE7
   obtain ⟨f0, f1, _, _, _, _, f6, _⟩ := HE7.out.fn
   have hst := store_em HE7.out X.res 13 (by omega)
   have Hst := Lib.hid hst
   clear hst
   go_wp2_with fail
   refine Hst.out.mono ?_
   rintro e w8 ⟨rfl, hE8, hb10⟩
   have hb11 := Hb9.out.trans hb10
   have hs8 : (E7.store X.res 13).sz ≤ E.sz + 8 + m := by rw [sz_store]; omega
   obtain ⟨E8, hE8e⟩ : ∃ E8, E7.store X.res 13 = E8 := ⟨_, rfl⟩
   rw [hE8e] at hE8 hs8
   clear f0 f1 f6
   obtain ⟨HE8, Hb10, Hb11, HE8e⟩ := hd4 hE8 hb10 hb11 hE8e
   clear hE8e hb11 hb10 hE8
   have hjp := jump_em HE8.out 7 0 1048576 (by omega) (by omega) (by omega)
   have Hjp := Lib.hid hjp
   clear hjp
   go_wp2_with fail
   refine Hjp.out.mono ?_
   rintro e w9 ⟨rfl, hE9, hb12⟩
   have hb13 := Hb11.out.trans hb12
   have hs9 : (E8.jump 7 0 1048576).sz ≤ E.sz + 10 + m := by rw [sz_jump]; omega
   obtain ⟨E9, hE9e⟩ : ∃ E9, E8.jump 7 0 1048576 = E9 := ⟨_, rfl⟩
   rw [hE9e] at hE9 hs9

   obtain ⟨HE9, Hb12, Hb13, HE9e⟩ := hd4 hE9 hb12 hb13 hE9e
   clear hE9e hb13 hb12 hE9
   go_upto_region 19 with fail
   obtain ⟨cvy, svy, zvy, nvy, Mcy, Jy, Ly, lvsy, _, hIy⟩ := id HE9.out
   obtain ⟨ZAy, zcy, hzvy, _⟩ := own_any (hIy.own (i := 6) rfl)
   have fy : w9.cell? ⟨X.fp, 9, none⟩ = some zvy := (hIy.blk (i := 3) rfl).cell 9
   rw [hzvy] at fy
   have hpy := panics_em HE9.out 1048577 E9.zeros.length zcy ZAy 18446744073709551615 (by omega) (by unfold U64; omega) (by omega)
   clear hIy hzvy
   have Hpy := Lib.hid hpy
   clear hpy
   go_wp2_with fail
   refine Hpy.out.mono ?_
   rintro e wy ⟨rfl, hEy, hby⟩
   have hbby := Hb13.out.trans hby
   clear fy
   obtain ⟨HEy, Hby, Hbby⟩ := hd3 hEy hby hbby
   clear hbby hby hEy
   have hsy := sz_panics E9 1048577 E9.zeros.length 18446744073709551615
   have hny := nulls_panics E9 1048577 E9.zeros.length 18446744073709551615
   obtain ⟨Ey, hEye⟩ : ∃ Ey, E9.panics 1048577 E9.zeros.length 18446744073709551615 = Ey := ⟨_, rfl⟩
   rw [hEye] at hsy hny
   have hEy2 := HEy.out
   rw [hEye] at hEy2
   obtain ⟨HEy2, HEye, Hny⟩ := hd3 hEy2 hEye hny
   clear hny hEye hEy2
   obtain ⟨cvz, svz, zvz, nvz, Mcz, Jz, Lz, lvsz, _, hIz⟩ := id HEy2.out
   obtain ⟨ZAz, zcz, hzvz, _⟩ := own_any (hIz.own (i := 7) rfl)
   have fz : wy.cell? ⟨X.fp, 10, none⟩ = some nvz := (hIz.blk (i := 3) rfl).cell 10
   rw [hzvz] at fz
   have hpz := panics_em HEy2.out 1048578 Ey.nulls.length zcz ZAz 18446744073709551614 (by omega) (by unfold U64; omega) (by omega)
   clear hIz hzvz
   have Hpz := Lib.hid hpz
   clear hpz
   go_wp2_with fail
   refine Hpz.out.mono ?_
   rintro e wz ⟨rfl, hEz, hbz⟩
   have hbbz := Hbby.out.trans hbz
   clear fz
   obtain ⟨HEz, Hbz, Hbbz⟩ := hd3 hEz hbz hbbz
   clear hbbz hbz hEz
   have hRR := HR.out
   unfold EmS.end_ EmS.resume at hRR
   rw [Hrs.out, Hlv.out] at hRR
   simp only [Hdf.out, if_true] at hRR
   rw [Hif.out, HE8e.out, HE9e.out] at hRR
   rw [HEye.out, ← Hny.out] at hRR
   go_wp2_with fail
   go_end0
   refine ⟨rfl, ?_, Hbbz.out⟩
   rw [← hRR]
   exact HEz.out
theorem end_dro {gb go Rb : Nat} {g : GraphD} {c0 c1 c2 c3 c4 : Value} (h : EmAt w base X E (.blk Rb 48 #[c0, c1, c2, c3, c4, .int .i64 (-1)] :: rest)) (hga : X.ga = ⟨gb, (go : Nat), none⟩) (hG : GrF w base gb go g) (hkeep : g.keep < X.nc) (hsv : ∀ s ∈ X.saves, 0 ≤ s.1) (hsl : X.saves.length ≤ 1048576)
  (hns : X.ns ≤ 1048560) (hnc : X.nc ≤ 1048576) (hsz : E.sz + 8388608 ≤ 1099511627776) (hdf : X.defers = true) (hrs : g.result = true) (hkp : g.keep < 0) :
  Calls Tryd.prog 41 #[.pointer (some ⟨X.fp, 0, none⟩), .pointer (some ⟨Rb, 0, none⟩)] w fun e w' => e = .returned (.tuple #[]) ∧ EmAt w' base X (E.end_ X g.result g.keep) (.blk Rb 48 #[c0, c1, c2, c3, c4, .int .i64 (E.resumeAt X g.result)] :: rest) ∧ Below base w w' := by
 obtain ⟨R, hR⟩ : ∃ R, E.end_ X g.result g.keep = R := ⟨_, rfl⟩
 obtain ⟨ra, hra⟩ : ∃ ra, E.resumeAt X g.result = ra := ⟨_, rfl⟩
 rw [hR, hra]
 obtain ⟨hglt, pv, kv, iv, nv, hgc, _⟩ := id hG
 have hmk := mark_em h 1048576 (by omega) (by omega)
 have c4r := hgc 4 _ rfl
 have c5r := hgc 5 _ rfl
 rw [hrs] at c4r
 obtain ⟨H, Hga, HG, Hsv, HR, Hra, Hgc, Hmk⟩ := hd8 h hga hG hsv hR hra hgc hmk
 clear hmk hgc hra hR hsv hG hga h
 go_enter Tryd.func41, Tryd.ntmps41
 go_wp2_with fail
 refine Hmk.out.mono ?_
 rintro e w1 ⟨rfl, hE1, hb1⟩
 obtain ⟨f0, f1, _, _, _, _, _, f11, _⟩ := hE1.fn
 rw [Hga.out] at f1
 rw [hdf] at f11
 have hput := put_em (hE1.alloc (.cells #[.int .u8 13, .int .i64 0, .int .i64 0, .int .i64 0, .int .i32 8] 71)) (ms := [⟨13, 0, 0, 0, 8⟩]) (c := 1) (Reads.newS _ rfl _ _ _ _ _ rfl rfl) rfl (by rw [sz_mark]; omega)
 have hba := hb1.alloc hE1.size (.cells #[.int .u8 13, .int .i64 0, .int .i64 0, .int .i64 0, .int .i32 8] 71)
 obtain ⟨HE1, Hb1, Hput, Hba, Hdf, Hf1⟩ := hd6 hE1 hb1 hput hba hdf f1
 clear f1 hdf hba hput hb1 hE1
 go_wp2_with fail
 refine Hput.out.mono ?_
 rintro e w2 ⟨rfl, hE2, hb2⟩
 go_upto_region 3 with fail
 have hb3 := Hba.out.trans hb2
 obtain ⟨E2, hE2e⟩ : ∃ E2, (E.mark 1048576).put [⟨13, 0, 0, 0, 8⟩] = E2 := ⟨_, rfl⟩
 have hs2 : E2.sz ≤ E.sz + 2 := by rw [← hE2e, sz_put, sz_mark]; exact Nat.le_refl _
 rw [hE2e] at hE2
 clear f0 f11
 obtain ⟨HE2, Hb2, Hb3, HE2e⟩ := hd4 hE2 hb2 hb3 hE2e
 clear hE2e hb3 hb2 hE2
 obtain ⟨f0, f1', _, _, _, _, f6, _⟩ := HE2.out.fn
 rw [Hga.out] at f1'
 replace c4r := (Hb3.out.cell (p := ⟨gb, go + 4, none⟩) hglt).trans c4r
 have hfpl := HE2.out.fpb.2.1
 obtain ⟨o, ho⟩ : ∃ o, w32 X.res = o := ⟨_, rfl⟩
 have how : IntKind.i32.wrap X.res = o := ho
 have hput := put_em ((HE2.out.drew).alloc (.cells #[.int .u8 4, .int .i64 0, .int .i64 14, .int .i64 0, .int .i32 o] 71)) (ms := [⟨4, 0, 14, 0, o⟩]) (c := 1) (Reads.newS _ rfl _ _ _ _ _ rfl rfl) rfl (by omega)
 have hba := (Hb3.out.drew).alloc HE2.out.drew.size (.cells #[.int .u8 4, .int .i64 0, .int .i64 14, .int .i64 0, .int .i32 o] 71)
 obtain ⟨Hput2, Hba2, Hrs, Ho⟩ := hd4 hput hba hrs ho
 clear ho hrs hba hput
 go_upto_region 4 with fail
 refine wp_region_late (S := fun W => W.cell? ⟨X.fp, 0, none⟩ = some (.pointer (some ⟨X.ep, 0, none⟩)) ∧ W.cell? ⟨X.fp, 6, none⟩ = some (.int .i64 X.res)) #[false, false, false, false, false, false, false, false, false, false, false, false, true] (by kernel_rfl) ⟨f0, f6⟩ (fun hHeld => ?_)
 refine wpAnyL_tk 0 ?_
 refine wpAnyL_tk 1 ?_
 refine wpAnyL_tk 2 ?_
 refine wpAnyL_tk 3 ?_
 refine wpAnyL_tk 4 ?_
 refine wpAnyL_tk 5 ?_
 refine wpAnyL_tk 6 ?_
 refine wpAnyL_tk 7 ?_
 refine wpAnyL_tk 8 ?_
 refine wpAnyL_tk 9 ?_
 refine wpAnyL_tk 10 ?_
 refine wpAnyL_ready (rs := [11]) (by kernel_rfl) (by simp) ?_
 refine AllReadyL.cons rfl (fun K hK => ?_) AllReadyL.nil
 go_simp
 refine hK.out _ _ ⟨(World.cell?_alloc_lt _ _ ⟨X.fp, 0, none⟩ hfpl).trans f0, (World.cell?_alloc_lt _ _ ⟨X.fp, 6, none⟩ hfpl).trans f6⟩ (fun hHeld2 => ?_)
 clear hK K hHeld
 try simp only [Act.put, List.getElem_toArray, List.getElem_cons_zero, List.getElem_cons_succ, List.setIfInBounds_toArray, List.set_cons_zero, List.set_cons_succ]
 refine wpAnyL_ready (rs := [12]) (by kernel_rfl) (by simp) ?_
 refine AllReadyL.last rfl (by kernel_rfl) (fun K hK => ?_) AllReadyL.nil
 go_simp
 refine Hput2.out.mono ?_
 rintro e w3 ⟨rfl, hE3, hb4⟩
 refine hK.out _ _ ?_
 clear hK K
 try simp only [Act.put, List.getElem_toArray, List.getElem_cons_zero, List.getElem_cons_succ, List.setIfInBounds_toArray, List.set_cons_zero, List.set_cons_succ]
 refine wpAnyL_done (by kernel_rfl) ?_ _
 have hb5 := Hba2.out.trans hb4
 have hs3 : (E2.put [⟨4, 0, 14, 0, o⟩]).sz ≤ E.sz + 3 := by rw [sz_put]; simp only [List.length_cons, List.length_nil]; omega
 have hE3e : E2.put [⟨4, 0, 14, 0, w32 X.res⟩] = E2.put [⟨4, 0, 14, 0, o⟩] := by rw [Ho.out]
 obtain ⟨E3, hE3q⟩ : ∃ E3, E2.put [⟨4, 0, 14, 0, o⟩] = E3 := ⟨_, rfl⟩
 rw [hE3q] at hE3 hs3 hE3e
 clear f0 f1' f6 c4r how hHeld2
 obtain ⟨HE3, Hb4, Hb5, HE3e, HE3q⟩ := hd5 hE3 hb4 hb5 hE3e hE3q
 clear hE3q hE3e hb5 hb4 hE3
 go_upto_region 5 with fail
 obtain ⟨_, _, _, _, _, f5, _⟩ := HE3.out.fn
 obtain ⟨cv, sv, zv, nv', Mc, J, L, lvs, _, hI⟩ := id HE3.out
 obtain ⟨SA, sc, hsvv, _⟩ := own_any (hI.own (i := 10) rfl)
 obtain ⟨m, hm⟩ : ∃ m, X.saves.length = m := ⟨_, rfl⟩
 rw [hm] at hsvv hsl
 rw [hsvv] at f5
 clear hI
 obtain ⟨Hsvv, Hm⟩ := hd2 hsvv hm
 clear hm hsvv
 go_wp2_with fail
 clear f5
 go_loopg [45] m (fun gk iv wr => ∃ j : Nat, j + gk = m ∧ iv = .int .i64 j ∧ Hid (EmAt wr base X (E3.fetch (X.saves.take j)) (.blk Rb 48 #[c0, c1, c2, c3, c4, .int .i64 (-1)] :: rest)) ∧ Hid (Below base w wr))
 case atStart => exact ⟨0, by omega, rfl, HE3, Hb5⟩
 case round =>
  obtain ⟨j, hj, rfl, hEj, hbj⟩ := hrel
  by_cases hjm : j < m
  ·obtain ⟨s, hs⟩ : ∃ s, X.saves[j]? = some s := ⟨_, List.getElem?_eq_getElem (by rw [Hm.out]; exact hjm)⟩
   obtain ⟨r, hr⟩ : ∃ r : Nat, s.1 = (r : Int) := ⟨s.1.toNat, by have := Hsv.out s (List.mem_of_getElem? hs); omega⟩
   obtain ⟨ad, c, hsa, k0, k1⟩ := hEj.out.save hs
   rw [Hsvv.out, Hm.out] at hsa
   injection hsa with h1 _ h2
   subst h1
   subst h2
   rw [hr] at k0
   have hji : (j : Int) < m := by omega
   have htk : X.saves.take (j + 1) = X.saves.take j ++ [s] := by rw [List.take_add_one, hs]; rfl
   have hsn := fetch_snoc E3 (X.saves.take j) s
   rw [← htk, show s.1.toNat = r by omega] at hsn
   obtain ⟨so, hso⟩ : ∃ so, s.2 = so := ⟨_, rfl⟩
   obtain ⟨o, ho⟩ : ∃ o, w32 so = o := ⟨_, rfl⟩
   have how : IntKind.i32.wrap so = o := ho
   rw [hso] at k1 hsn
   rw [ho] at hsn
   have htl : (X.saves.take j).length ≤ m := by rw [List.length_take]; omega
   have hbx := hEj.out.box 50 #[.int .i64 (r : Nat), .int .i64 so]
   have hbs := hbj.out.alloc hEj.out.size (.cells #[.int .i64 (r : Nat), .int .i64 so] 50)
   obtain ⟨T, hT⟩ : ∃ T, T = wr.heap.size := ⟨_, rfl⟩
   obtain ⟨w4, hw4⟩ : ∃ w4, w4 = wr.alloc (.cells #[.int .i64 (r : Nat), .int .i64 so] 50) := ⟨_, rfl⟩
   rw [← hw4, ← hT] at hbx
   rw [← hw4] at hbs
   obtain ⟨Hs, Hr, Htk, Hsn, Hso, Ho4, Hbx, Hbs⟩ := hd8 hs hr htk hsn hso ho hbx hbs
   obtain ⟨HT, Hw4⟩ := hd2 hT hw4
   clear hw4 hT hbs hbx ho hso hsn htk hr hs
   go_upto_region 8 with fail
   rw [← Hw4.out, ← HT.out]
   have kT := Hbx.out.blk
   have lT := kT.lt
   have kt0 := Blk.cell kT 0
   have kt1 := Blk.cell kT 1
   simp only [List.getElem?_toArray, List.getElem?_cons_zero, List.getElem?_cons_succ] at kt0 kt1
   obtain ⟨f0, _⟩ := Hbx.out.fn
   have hfpl2 := Hbx.out.fpb.2.1
   have hput := put_em ((Hbx.out.drew).alloc (.cells #[.int .u8 4, .int .i64 (r : Nat), .int .i64 14, .int .i64 0, .int .i32 o] 71)) (ms := [⟨4, r, 14, 0, o⟩]) (c := 1) (Reads.newS _ rfl _ _ _ _ _ rfl rfl) rfl (by rw [sz_fetch]; omega)
   have hba := (Hbs.out.drew).alloc Hbx.out.drew.size (.cells #[.int .u8 4, .int .i64 (r : Nat), .int .i64 14, .int .i64 0, .int .i32 o] 71)
   obtain ⟨Hput3, Hba3, HkT⟩ := hd3 hput hba kT
   clear kT hba hput
   refine wp_region_late (S := fun W => W.cell? ⟨X.fp, 0, none⟩ = some (.pointer (some ⟨X.ep, 0, none⟩)) ∧ W.cell? ⟨T, 0, none⟩ = some (.int .i64 (r : Nat)) ∧ W.cell? ⟨T, 1, none⟩ = some (.int .i64 so)) #[false, false, false, false, false, false, false, false, false, false, false, true] (by kernel_rfl) ⟨f0, kt0, kt1⟩ (fun hHeld => ?_)
   refine wpAnyL_tk 0 ?_
   refine wpAnyL_tk 1 ?_
   refine wpAnyL_tk 2 ?_
   refine wpAnyL_tk 3 ?_
   refine wpAnyL_tk 4 ?_
   refine wpAnyL_tk 5 ?_
   refine wpAnyL_tk 6 ?_
   refine wpAnyL_tk 7 ?_
   refine wpAnyL_tk 8 ?_
   refine wpAnyL_tk 9 ?_
   refine wpAnyL_ready (rs := [10]) (by kernel_rfl) (by simp) ?_
   refine AllReadyL.cons rfl (fun K hK => ?_) AllReadyL.nil
   go_simp
   refine hK.out _ _ ⟨(World.cell?_alloc_lt _ _ ⟨X.fp, 0, none⟩ hfpl2).trans f0, (World.cell?_alloc_lt _ _ ⟨T, 0, none⟩ lT).trans kt0, (World.cell?_alloc_lt _ _ ⟨T, 1, none⟩ lT).trans kt1⟩ (fun hHeld2 => ?_)
   clear hK K hHeld
   try simp only [Act.put, List.getElem_toArray, List.getElem_cons_zero, List.getElem_cons_succ, List.setIfInBounds_toArray, List.set_cons_zero, List.set_cons_succ]
   refine wpAnyL_ready (rs := [11]) (by kernel_rfl) (by simp) ?_
   refine AllReadyL.last rfl (by kernel_rfl) (fun K hK => ?_) AllReadyL.nil
   go_simp
   refine Hput3.out.mono ?_
   rintro e w5 ⟨rfl, hE5, hb6⟩
   refine hK.out _ _ ?_
   clear hK K
   try simp only [Act.put, List.getElem_toArray, List.getElem_cons_zero, List.getElem_cons_succ, List.setIfInBounds_toArray, List.set_cons_zero, List.set_cons_succ]
   refine wpAnyL_done (by kernel_rfl) ?_ _
   have hE6 := hE5.drop
   have hbn := Hba3.out.trans hb6
   rw [← Hsn.out] at hE6
   clear f0 kt0 kt1 k0 k1 how hHeld2
   obtain ⟨HE5, Hb6, HE6, Hbn⟩ := hd4 hE5 hb6 hE6 hbn
   clear hbn hE6 hb6 hE5
   go_wp2_with fail
   go_roundg (gk - 1)
   case measure => omega
   case rel => exact ⟨j + 1, by omega, by simp, HE6, Hbn⟩
  ·obtain rfl : m = j := by omega
   have hjI : ¬ (m : Int) < m := by omega
   rw [List.take_of_length_le (by rw [Hm.out]; exact Nat.le_refl _)] at hEj
   obtain ⟨E4, hE4e⟩ : ∃ E4, E3.fetch X.saves = E4 := ⟨_, rfl⟩
   have hs4 : E4.sz ≤ E.sz + 3 + m := by rw [← hE4e, sz_fetch, Hm.out]; omega
   rw [hE4e] at hEj
   have hE4 := hEj.out
   have hfpl4 := hE4.fpb.2.1
   obtain ⟨f0, _, f2, _⟩ := hE4.fn
   obtain ⟨o, ho⟩ : ∃ o, w32 X.size = o := ⟨_, rfl⟩
   have how : IntKind.i32.wrap X.size = o := ho
   have hput := put_em ((hE4.drew).alloc (.cells #[.int .u8 12, .int .i64 0, .int .i64 0, .int .i64 0, .int .i32 o, .int .u8 10, .int .i64 0, .int .i64 0, .int .i64 0, .int .i32 0] 71)) (ms := [⟨12, 0, 0, 0, o⟩, ⟨10, 0, 0, 0, 0⟩]) (m := 2) (c := 2) (Reads.newS _ rfl _ _ _ _ _ rfl rfl) rfl (by omega)
   have hba := (hbj.out.drew).alloc hE4.drew.size (.cells #[.int .u8 12, .int .i64 0, .int .i64 0, .int .i64 0, .int .i32 o, .int .u8 10, .int .i64 0, .int .i64 0, .int .i64 0, .int .i32 0] 71)
   obtain ⟨HE4e, HE4, Ho5, Hput5, Hba5⟩ := hd5 hE4e hE4 ho hput hba
   clear hba hput ho hE4 hE4e
   go_upto_region 10 with fail
   refine wp_region_late (S := fun W => W.cell? ⟨X.fp, 0, none⟩ = some (.pointer (some ⟨X.ep, 0, none⟩)) ∧ W.cell? ⟨X.fp, 2, none⟩ = some (.int .i64 X.size)) #[false, false, false, false, false, false, false, false, false, false, false, false, false, true] (by kernel_rfl) ⟨f0, f2⟩ (fun hHeld => ?_)
   refine wpAnyL_tk 0 ?_
   refine wpAnyL_tk 1 ?_
   refine wpAnyL_tk 2 ?_
   refine wpAnyL_tk 3 ?_
   refine wpAnyL_tk 4 ?_
   refine wpAnyL_tk 5 ?_
   refine wpAnyL_tk 6 ?_
   refine wpAnyL_tk 7 ?_
   refine wpAnyL_tk 8 ?_
   refine wpAnyL_tk 9 ?_
   refine wpAnyL_tk 10 ?_
   refine wpAnyL_tk 11 ?_
   refine wpAnyL_ready (rs := [12]) (by kernel_rfl) (by simp) ?_
   refine AllReadyL.cons rfl (fun K hK => ?_) AllReadyL.nil
   go_simp
   refine hK.out _ _ ⟨(World.cell?_alloc_lt _ _ ⟨X.fp, 0, none⟩ hfpl4).trans f0, (World.cell?_alloc_lt _ _ ⟨X.fp, 2, none⟩ hfpl4).trans f2⟩ (fun hHeld2 => ?_)
   clear hK K hHeld
   try simp only [Act.put, List.getElem_toArray, List.getElem_cons_zero, List.getElem_cons_succ, List.setIfInBounds_toArray, List.set_cons_zero, List.set_cons_succ]
   refine wpAnyL_ready (rs := [13]) (by kernel_rfl) (by simp) ?_
   refine AllReadyL.last rfl (by kernel_rfl) (fun K hK => ?_) AllReadyL.nil
   go_simp
   refine Hput5.out.mono ?_
   rintro e w5 ⟨rfl, hE5, hb6⟩
   refine hK.out _ _ ?_
   clear hK K
   try simp only [Act.put, List.getElem_toArray, List.getElem_cons_zero, List.getElem_cons_succ, List.setIfInBounds_toArray, List.set_cons_zero, List.set_cons_succ]
   refine wpAnyL_done (by kernel_rfl) ?_ _
   have hbn := Hba5.out.trans hb6
   have hE5e : E4.put [⟨12, 0, 0, 0, w32 X.size⟩, ⟨10, 0, 0, 0, 0⟩] = E4.put [⟨12, 0, 0, 0, o⟩, ⟨10, 0, 0, 0, 0⟩] := by rw [Ho5.out]
   obtain ⟨E5, hE5q⟩ : ∃ E5, E4.put [⟨12, 0, 0, 0, o⟩, ⟨10, 0, 0, 0, 0⟩] = E5 := ⟨_, rfl⟩
   have hs5 : E5.sz ≤ E.sz + 5 + m := by rw [← hE5q, sz_put]; simp only [List.length_cons, List.length_nil]; omega
   rw [hE5q] at hE5 hE5e
   have hlv : E.leave X true = E5 := by
    unfold EmS.leave
    simp only [Hdf.out, if_true, HE2e.out]
    rw [HE3e.out, HE4e.out, hE5e]
   clear f0 f2 how hHeld2
   obtain ⟨f0, f1, _, _, _, _, f6, f11, _⟩ := hE5.fn
   rw [Hga.out] at f1
   rw [Hdf.out] at f11
   obtain ⟨CA, cc, k0⟩ := hE5.code
   have hBR := hE5.blk
   have kr5 := hBR.cell 5
   have fr5 := hBR.frozen 5
   simp only [List.getElem?_toArray, List.getElem?_cons_zero, List.getElem?_cons_succ] at kr5
   have hraz : ra = ((E5.code.length : Nat) : Int) := by rw [← Hra.out]; unfold EmS.resumeAt; rw [Hdf.out, Hrs.out, hlv]; rfl
   obtain ⟨hE6, hRb⟩ := hE5.setFirst 5 (.int .i64 (E5.code.length : Nat))
   simp only [List.setIfInBounds_toArray, List.set_cons_succ, List.set_cons_zero] at hE6
   have hb7 := hbn.setCell (p := ⟨Rb, 5, none⟩) hRb (.int .i64 (E5.code.length : Nat))
   obtain ⟨w6, hw6⟩ : ∃ w6, w6 = w5.setCell ⟨Rb, 5, none⟩ (.int .i64 (E5.code.length : Nat)) := ⟨_, rfl⟩
   rw [← hw6] at hE6 hb7
   rw [← hraz] at hE6
   obtain ⟨HE5, Hb6, Hbn, HE5e, HE5q, Hlv, Hraz, HBR⟩ := hd8 hE5 hb6 hbn hE5e hE5q hlv hraz hBR
   obtain ⟨HE6, Hb7, Hw6⟩ := hd3 hE6 hb7 hw6
   clear hw6 hb7 hE6 hBR hraz hlv hE5q hE5e hbn hb6 hE5
   go_upto_region 13 with fail
   rw [← Hw6.out]
   clear f0 f1 f6 f11 k0 kr5 fr5
   obtain ⟨f0, f1, f2, f3, f4, _, f6, _⟩ := HE6.out.fn
   rw [Hga.out] at f1
   have c4s := (Hb7.out.cell (p := ⟨gb, go + 4, none⟩) hglt).trans (Hgc.out 4 _ rfl)
   have c5s := (Hb7.out.cell (p := ⟨gb, go + 5, none⟩) hglt).trans c5r
   rw [Hrs.out] at c4s
   have hnum := number_em HE6.out 13 0 (by unfold U64; omega) (by omega)
   have hkI : ¬ (0 : Int) ≤ g.keep := by omega
   have hkz := hkp
   have Hnum := Lib.hid hnum
   clear hnum
   go_wp2_with fail
   refine Hnum.out.mono ?_
   rintro e w7 ⟨rfl, hE7, hb8⟩
   have hb9 := Hb7.out.trans hb8
   have hsn7 := sz_number E5 13 0
   obtain ⟨E7, hE7q⟩ : ∃ E7, E5.number 13 0 = E7 := ⟨_, rfl⟩
   rw [hE7q] at hE7 hsn7
   have hs7 : E7.sz ≤ E.sz + 7 + m := by omega
   have hif : (if 0 ≤ g.keep then E5.put [⟨4, 13, 14, 0, w32 (8 * ((X.ns : Int) + g.keep))⟩] else E5.number 13 0) = E7 := by rw [if_neg (by omega), hE7q]
   clear f0 f1 f2 f3 f4 f6 c4s c5s
   obtain ⟨HE7, Hb8, Hb9, HE7q, Hif⟩ := hd5 hE7 hb8 hb9 hE7q hif
   clear hif hE7q hb9 hb8 hE7
   obtain ⟨f0, f1, _, _, _, _, f6, _⟩ := HE7.out.fn
   have hst := store_em HE7.out X.res 13 (by omega)
   have Hst := Lib.hid hst
   clear hst
   go_wp2_with fail
   refine Hst.out.mono ?_
   rintro e w8 ⟨rfl, hE8, hb10⟩
   have hb11 := Hb9.out.trans hb10
   have hs8 : (E7.store X.res 13).sz ≤ E.sz + 8 + m := by rw [sz_store]; omega
   obtain ⟨E8, hE8e⟩ : ∃ E8, E7.store X.res 13 = E8 := ⟨_, rfl⟩
   rw [hE8e] at hE8 hs8
   clear f0 f1 f6
   obtain ⟨HE8, Hb10, Hb11, HE8e⟩ := hd4 hE8 hb10 hb11 hE8e
   clear hE8e hb11 hb10 hE8
   have hjp := jump_em HE8.out 7 0 1048576 (by omega) (by omega) (by omega)
   have Hjp := Lib.hid hjp
   clear hjp
   go_wp2_with fail
   refine Hjp.out.mono ?_
   rintro e w9 ⟨rfl, hE9, hb12⟩
   have hb13 := Hb11.out.trans hb12
   have hs9 : (E8.jump 7 0 1048576).sz ≤ E.sz + 10 + m := by rw [sz_jump]; omega
   obtain ⟨E9, hE9e⟩ : ∃ E9, E8.jump 7 0 1048576 = E9 := ⟨_, rfl⟩
   rw [hE9e] at hE9 hs9

   obtain ⟨HE9, Hb12, Hb13, HE9e⟩ := hd4 hE9 hb12 hb13 hE9e
   clear hE9e hb13 hb12 hE9
   go_upto_region 19 with fail
   obtain ⟨cvy, svy, zvy, nvy, Mcy, Jy, Ly, lvsy, _, hIy⟩ := id HE9.out
   obtain ⟨ZAy, zcy, hzvy, _⟩ := own_any (hIy.own (i := 6) rfl)
   have fy : w9.cell? ⟨X.fp, 9, none⟩ = some zvy := (hIy.blk (i := 3) rfl).cell 9
   rw [hzvy] at fy
   have hpy := panics_em HE9.out 1048577 E9.zeros.length zcy ZAy 18446744073709551615 (by omega) (by unfold U64; omega) (by omega)
   clear hIy hzvy
   have Hpy := Lib.hid hpy
   clear hpy
   go_wp2_with fail
   refine Hpy.out.mono ?_
   rintro e wy ⟨rfl, hEy, hby⟩
   have hbby := Hb13.out.trans hby
   clear fy
   obtain ⟨HEy, Hby, Hbby⟩ := hd3 hEy hby hbby
   clear hbby hby hEy
   have hsy := sz_panics E9 1048577 E9.zeros.length 18446744073709551615
   have hny := nulls_panics E9 1048577 E9.zeros.length 18446744073709551615
   obtain ⟨Ey, hEye⟩ : ∃ Ey, E9.panics 1048577 E9.zeros.length 18446744073709551615 = Ey := ⟨_, rfl⟩
   rw [hEye] at hsy hny
   have hEy2 := HEy.out
   rw [hEye] at hEy2
   obtain ⟨HEy2, HEye, Hny⟩ := hd3 hEy2 hEye hny
   clear hny hEye hEy2
   obtain ⟨cvz, svz, zvz, nvz, Mcz, Jz, Lz, lvsz, _, hIz⟩ := id HEy2.out
   obtain ⟨ZAz, zcz, hzvz, _⟩ := own_any (hIz.own (i := 7) rfl)
   have fz : wy.cell? ⟨X.fp, 10, none⟩ = some nvz := (hIz.blk (i := 3) rfl).cell 10
   rw [hzvz] at fz
   have hpz := panics_em HEy2.out 1048578 Ey.nulls.length zcz ZAz 18446744073709551614 (by omega) (by unfold U64; omega) (by omega)
   clear hIz hzvz
   have Hpz := Lib.hid hpz
   clear hpz
   go_wp2_with fail
   refine Hpz.out.mono ?_
   rintro e wz ⟨rfl, hEz, hbz⟩
   have hbbz := Hbby.out.trans hbz
   clear fz
   obtain ⟨HEz, Hbz, Hbbz⟩ := hd3 hEz hbz hbbz
   clear hbbz hbz hEz
   have hRR := HR.out
   unfold EmS.end_ EmS.resume at hRR
   rw [Hrs.out, Hlv.out] at hRR
   simp only [Hdf.out, if_true] at hRR
   rw [Hif.out, HE8e.out, HE9e.out] at hRR
   rw [HEye.out, ← Hny.out] at hRR
   go_wp2_with fail
   go_end0
   refine ⟨rfl, ?_, Hbbz.out⟩
   rw [← hRR]
   exact HEz.out
theorem end_em {gb go Rb : Nat} {g : GraphD} {c0 c1 c2 c3 c4 : Value} (h : EmAt w base X E (.blk Rb 48 #[c0, c1, c2, c3, c4, .int .i64 (-1)] :: rest)) (hga : X.ga = ⟨gb, (go : Nat), none⟩) (hG : GrF w base gb go g) (hkeep : g.keep < X.nc) (hsv : ∀ s ∈ X.saves, 0 ≤ s.1) (hsl : X.saves.length ≤ 1048576)
  (hns : X.ns ≤ 1048560) (hnc : X.nc ≤ 1048576) (hsz : E.sz + 8388608 ≤ 1099511627776) :
  Calls Tryd.prog 41 #[.pointer (some ⟨X.fp, 0, none⟩), .pointer (some ⟨Rb, 0, none⟩)] w fun e w' => e = .returned (.tuple #[]) ∧ EmAt w' base X (E.end_ X g.result g.keep) (.blk Rb 48 #[c0, c1, c2, c3, c4, .int .i64 (E.resumeAt X g.result)] :: rest) ∧ Below base w w' := by
 rcases hdf : X.defers with _ | _ <;> rcases hrs : g.result with _ | _
 ·have := end_nv h hga hG hkeep hsv hsl hns hnc hsz hdf hrs
  rwa [hrs] at this
 ·have := end_nr h hga hG hkeep hsv hsl hns hnc hsz hdf hrs
  rwa [hrs] at this
 ·have := end_dv h hga hG hkeep hsv hsl hns hnc hsz hdf hrs
  rwa [hrs] at this
 ·by_cases hk : 0 ≤ g.keep
  ·have := end_drk h hga hG hkeep hsv hsl hns hnc hsz hdf hrs hk
   rwa [hrs] at this
  ·have := end_dro h hga hG hkeep hsv hsl hns hnc hsz hdf hrs (by omega)
   rwa [hrs] at this
end
end Go.Proofs.YtnfjjliiajaijaaDoor
