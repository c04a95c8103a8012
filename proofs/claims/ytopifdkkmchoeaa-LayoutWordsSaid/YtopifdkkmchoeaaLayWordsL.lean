/- The walk of the law LayoutWords. Conditions: what the law's arguments are read as. -/
import Derived.Test.YtopifdkkmchoeaaLayFirst
import Derived.Test.YtopifdkkmchoeaaLayErr
import Derived.Test.YtopifdkkmchoeaaLayRight
import Derived.Test.YtopifdkkmchoeaaIrRight
import Derived.Test.YtopifdkkmchoeaaOpenI
import Derived.Deep.RegionHeld3
set_option linter.unusedVariables false
set_option linter.unusedSimpArgs false
namespace Go.Proofs.Ytopifdkkmchoeaa
open Go.RowKit

theorem GraphsWf.okY {gs : List GraphD} (h : GraphsWf gs) : GraphsOk gs := ⟨fun g hg => (h.each g hg).lenK, fun g hg x hx => by have := ((h.each g hg).nodes x hx).len; omega⟩
set_option maxRecDepth 100000 in
set_option maxHeartbeats 8000000 in
theorem walk_LayoutWords (w : World) (gv0 : Value) (gs0 : List GraphD) (hg0 : GraphsIn w gv0 gs0) (a1 : Int) (w1 : (Lit.int .i64 a1).wf = true) :
    Calls Try.prog 4 #[.agg #[gv0], .int .i64 a1] w fun e w' => e = .returned (.bool true) ∧ Below w.heap.size w w' := by
  obtain ⟨hgs, hwf⟩ := hg0
  have hok := hwf.okY
  obtain ⟨GA, hGA⟩ : ∃ GA, GA = w.heap.size := ⟨_, rfl⟩
  obtain ⟨A0, cp, rfl, hc1, hc2⟩ := hgs.slice
  obtain ⟨n, hn⟩ : ∃ n, gs0.length = n := ⟨_, rfl⟩
  rw [hn] at hgs hc1 ⊢
  have hP := Blk.new w 33 #[.slice A0 n cp]
  have hb := (Below.refl w.heap.size w).alloc (Nat.le_refl _) (.cells #[.slice A0 n cp] 33)
  have hA := hgs.below hb
  obtain ⟨V, hV⟩ : ∃ V, V = w.alloc (.cells #[.slice A0 n cp] 33) := ⟨_, rfl⟩
  rw [← hV] at hb hA hP
  rw [← hGA] at hP
  have hPl := hP.lt
  obtain ⟨r, hr⟩ : ∃ r, checkB gs0 true = r := ⟨_, rfl⟩
  unfold maxLen at hc2
  have Hb := Lib.hid hb
  have HP := Lib.hid hP
  have HA := Lib.hid hA
  have HV := Lib.hid hV
  have HGGA := Lib.hid hGA
  have Hok := Lib.hid hok
  have Hgs := Lib.hid hgs
  have Hwf := Lib.hid hwf
  have Hn := Lib.hid hn
  have Hr := Lib.hid hr
  clear hr hn hwf hgs hok hGA hV hA hP hb
  clear w1
  go_enter Try.func4, Try.ntmps4
  go_upto_region 1 with fail
  rw [← HV.out, ← HGGA.out]
  go_wp2_with fail
  refine (firstL_any V).mono ?_
  rintro e w1 ⟨rfl, hb1⟩
  have hbw1 := Hb.out.trans (hb1.mono Hb.out.size)
  have hA1 := HA.out.below (hb1.mono Hb.out.size)
  have hP1 := HP.out.below hb1 hPl
  have kp0 := Blk.cell hP1 0
  simp only [List.getElem?_toArray, List.getElem?_cons_zero, List.getElem?_cons_succ] at kp0
  have hz1 := hbw1.size
  have Hbw1 := Lib.hid hbw1
  have HA1 := Lib.hid hA1
  have HP1 := Lib.hid hP1
  clear hP1 hA1 hbw1
  clear hb1
  by_cases hin : r = true ∧ 0 ≤ a1 ∧ a1 < n
  case neg =>
    obtain ⟨z, hz, hzc⟩ : ∃ z : Int, (checkB gs0 true = false ∧ z = 70 ∨ checkB gs0 true = true ∧ (a1 < 0 ∨ (gs0.length : Int) ≤ a1) ∧ z = 2) ∧ (r = false ∧ z = 70 ∨ r = true ∧ (a1 < 0 ∨ ¬ a1 < 0 ∧ (n : Int) ≤ a1) ∧ z = 2) := by
      rw [Hr.out, Hn.out]
      cases r
      · exact ⟨70, .inl ⟨rfl, rfl⟩, .inl ⟨rfl, rfl⟩⟩
      · refine ⟨2, .inr ⟨rfl, ?_, rfl⟩, .inr ⟨rfl, ?_, rfl⟩⟩ <;> (simp only [true_and] at hin; omega)
    have hly := layout_no w1 w.heap.size _ gs0 a1 z HA1.out hz1 Hok.out hz
    have Hly := Lib.hid hly
    have Hz := Lib.hid hz
    clear hz hly
    clear hin
    go_wp2_with fail
    refine Hly.out.mono ?_
    rintro e w2 ⟨rfl, hb2⟩
    have hbw2 := Hbw1.out.trans (hb2.mono hz1)
    have hA2 := HA1.out.below (hb2.mono hz1)
    have hP2 := HP1.out.below hb2 HP1.out.lt
    have hal := (Below.refl w2.heap.size w2).alloc (Nat.le_refl _) (.cells #[.int .i64 0, .slice none 0 0, .slice none 0 0, .slice none 0 0, .int .i64 0] 36)
    have hLb := Blk.new w2 36 #[.int .i64 0, .slice none 0 0, .slice none 0 0, .slice none 0 0, .int .i64 0]
    obtain ⟨W3, hW3⟩ : ∃ W3, W3 = w2.alloc (.cells #[.int .i64 0, .slice none 0 0, .slice none 0 0, .slice none 0 0, .int .i64 0] 36) := ⟨_, rfl⟩
    obtain ⟨Lb, hLL⟩ : ∃ Lb, Lb = w2.heap.size := ⟨_, rfl⟩
    rw [← hW3] at hal hLb
    rw [← hLL] at hLb
    have hbw3 := hbw2.trans (hal.mono hbw2.size)
    have hA3 := hA2.below (hal.mono hbw2.size)
    have hP3 := hP2.below hal hP2.lt
    have hz3 := hbw3.size
    have hrt := right_any hA3 hz3 Hok.out true
    rw [Hr.out] at hrt
    clear kp0
    have kp0 := Blk.cell hP3 0
    simp only [List.getElem?_toArray, List.getElem?_cons_zero, List.getElem?_cons_succ] at kp0
    have hLl := hLb.lt
    have hPl3 := hP3.lt
    unfold noLay
    have Hb2 := Lib.hid hb2
    have Hbw2 := Lib.hid hbw2
    have HA2 := Lib.hid hA2
    have HP2 := Lib.hid hP2
    have Hal := Lib.hid hal
    have HLb := Lib.hid hLb
    have HW3 := Lib.hid hW3
    have HLL := Lib.hid hLL
    have Hbw3 := Lib.hid hbw3
    have HA3 := Lib.hid hA3
    have HP3 := Lib.hid hP3
    have Hrt := Lib.hid hrt
    clear hrt hP3 hA3 hbw3 hLL hW3 hLb hal hP2 hA2 hbw2 hb2
    go_upto_region 4 with fail
    rw [← HW3.out, ← HLL.out]
    go_wp2_with fail
    refine Hrt.out.mono ?_
    rintro e w4 ⟨rfl, hb4⟩
    have hbw4 := Hbw3.out.trans (hb4.mono hz3)
    have hP4 := HP3.out.below hb4 hPl3
    have hL4 := HLb.out.below hb4 hLl
    clear kp0
    have kp0 := Blk.cell hP4 0
    simp only [List.getElem?_toArray, List.getElem?_cons_zero, List.getElem?_cons_succ] at kp0
    have kl0 := Blk.cell hL4 0
    have kl1 := Blk.cell hL4 1
    simp only [List.getElem?_toArray, List.getElem?_cons_zero, List.getElem?_cons_succ] at kl0 kl1
    have Hb4 := Lib.hid hb4
    have Hbw4 := Lib.hid hbw4
    have HP4 := Lib.hid hP4
    have HL4 := Lib.hid hL4
    clear hL4 hP4 hbw4 hb4
    rcases hzc with ⟨rfl, rfl⟩ | ⟨rfl, hcase, rfl⟩
    · go_wp2_with fail
      go_ret
      exact ⟨rfl, Hbw4.out⟩
    · rcases hcase with x1 | ⟨x1, x2⟩
      all_goals
        go_wp2_with fail
        go_ret
        exact ⟨rfl, Hbw4.out⟩
  case pos =>
    obtain ⟨rfl, ha0, ha1⟩ := hin
    obtain ⟨f, rfl⟩ := Int.eq_ofNat_of_zero_le ha0
    have hfn : f < n := by omega
    obtain ⟨g, hgf⟩ : ∃ g, gs0[f]? = some g := ⟨_, List.getElem?_eq_getElem (by have := Hn.out; omega)⟩
    have hly := layout_any w1 w.heap.size _ gs0 f g HA1.out hz1 Hok.out Hr.out hgf
    have Hly := Lib.hid hly
    have Hgf := Lib.hid hgf
    clear hgf hly
    go_wp2_with fail
    refine Hly.out.mono ?_
    rintro e w2 ⟨hb2, lv, rfl, hLO⟩
    obtain ⟨sv, cv, vv, rfl, hS, hC, hVv⟩ := id hLO
    obtain ⟨SA, sc, rfl, _⟩ := own_any hS
    obtain ⟨CA, cc, rfl, _⟩ := own_any hC
    obtain ⟨VA, vc, rfl, _⟩ := own_any hVv
    obtain ⟨la, hla⟩ : ∃ la : Array Value, la = #[.int .i64 (sizeL g), .slice SA (nSlots g) sc, .slice CA (nCells g) cc, .slice VA (nSaves g) vc, .int .i64 (resL g)] := ⟨_, rfl⟩
    have hbw2 := Hbw1.out.trans (hb2.mono hz1)
    have hA2 := HA1.out.below (hb2.mono hz1)
    have hP2 := HP1.out.below hb2 HP1.out.lt
    have hal := (Below.refl w2.heap.size w2).alloc (Nat.le_refl _) (.cells la 36)
    have hLb := Blk.new w2 36 la
    obtain ⟨W3, hW3⟩ : ∃ W3, W3 = w2.alloc (.cells la 36) := ⟨_, rfl⟩
    obtain ⟨Lb, hLL⟩ : ∃ Lb, Lb = w2.heap.size := ⟨_, rfl⟩
    rw [← hW3] at hal hLb
    rw [← hLL] at hLb
    have hbw3 := hbw2.trans (hal.mono hbw2.size)
    have hA3 := hA2.below (hal.mono hbw2.size)
    have hP3 := hP2.below hal hP2.lt
    have hz3 := hbw3.size
    have hrt := right_any hA3 hz3 Hok.out true
    rw [Hr.out] at hrt
    clear kp0
    have kp0 := Blk.cell hP3 0
    simp only [List.getElem?_toArray, List.getElem?_cons_zero, List.getElem?_cons_succ] at kp0
    have hLl := hLb.lt
    have hPl3 := hP3.lt
    have Hb2 := Lib.hid hb2
    have Hbw2 := Lib.hid hbw2
    have HA2 := Lib.hid hA2
    have HP2 := Lib.hid hP2
    have Hal := Lib.hid hal
    have HLb := Lib.hid hLb
    have HW3 := Lib.hid hW3
    have HLL := Lib.hid hLL
    have Hbw3 := Lib.hid hbw3
    have HA3 := Lib.hid hA3
    have HP3 := Lib.hid hP3
    have Hrt := Lib.hid hrt
    have Hla := Lib.hid hla
    have HLO := Lib.hid hLO
    have HS := Lib.hid hS
    have HC := Lib.hid hC
    have HVv := Lib.hid hVv
    clear hVv hC hS hLO hla hrt hP3 hA3 hbw3 hLL hW3 hLb hal hP2 hA2 hbw2 hb2
    go_upto_region 4 with fail
    rw [← Hla.out, ← HW3.out, ← HLL.out]
    go_wp2_with fail
    refine Hrt.out.mono ?_
    rintro e w4 ⟨rfl, hb4⟩
    have hbw4 := Hbw3.out.trans (hb4.mono hz3)
    have hP4 := HP3.out.below hb4 hPl3
    have hL4 := HLb.out.below hb4 hLl
    have hA4 := HA3.out.below (hb4.mono hz3)
    have hf0 : ¬ (f : Int) < 0 := by omega
    have hf1 : ¬ (n : Int) ≤ f := by omega
    clear kp0
    have kp0 := Blk.cell hP4 0
    simp only [List.getElem?_toArray, List.getElem?_cons_zero, List.getElem?_cons_succ] at kp0
    rw [Hla.out] at hL4
    have kl0 := Blk.cell hL4 0
    have kl1 := Blk.cell hL4 1
    have kl2 := Blk.cell hL4 2
    have kl3 := Blk.cell hL4 3
    have kl4 := Blk.cell hL4 4
    simp only [List.getElem?_toArray, List.getElem?_cons_zero, List.getElem?_cons_succ] at kl0 kl1 kl2 kl3 kl4
    have Hb4 := Lib.hid hb4
    have Hbw4 := Lib.hid hbw4
    have HP4 := Lib.hid hP4
    have HL4 := Lib.hid hL4
    have HA4 := Lib.hid hA4
    clear hA4 hL4 hP4 hbw4 hb4
    go_upto_region 8 with fail
    have hRG := right_of Hr.out g (List.mem_of_getElem? Hgf.out)
    obtain ⟨ad, pv, kv, iv, nv, hAd, _, hGM⟩ := HA4.out.at_ Hgf.out
    subst hAd
    obtain ⟨KA, kc, hkv, _⟩ := hGM.kinds.slice
    obtain ⟨NA, nc, hnv⟩ : ∃ NA nc, nv = .slice NA g.nodes.length nc := by
      obtain ⟨NA, nn, nc, css, h1, h2, h3, h4, _⟩ := hGM.nodes
      exact ⟨NA, nc, by rw [h1, h4]⟩
    obtain ⟨PA, pc, hpv, _⟩ := hGM.params.slice
    obtain ⟨IA, ic, hiv, _⟩ := hGM.init.slice
    have c0 := hGM.c0
    have c1 := hGM.c1
    have c2 := hGM.c2
    have c3 := hGM.c3
    have c4 := hGM.c4
    have c5 := hGM.c5
    have c6 := hGM.c6
    have c7 := hGM.c7
    have hLO4 : LayOwn w4 w1.heap.size (.agg #[.int .i64 (sizeL g), .slice SA (nSlots g) sc, .slice CA (nCells g) cc, .slice VA (nSaves g) vc, .int .i64 (resL g)]) g :=
      ⟨_, _, _, rfl, own_kept' (own_kept' HS.out (only_of_below Hal.out none) nofun) (only_of_below Hb4.out none) nofun, own_kept' (own_kept' HC.out (only_of_below Hal.out none) nofun) (only_of_below Hb4.out none) nofun, own_kept' (own_kept' HVv.out (only_of_below Hal.out none) nofun) (only_of_below Hb4.out none) nofun⟩
    have hrg := layright_any w4.drew w.heap.size w1.heap.size g pv kv iv nv _ Hbw4.out.size (show NumsAt .u8 w4 _ _ _ from hGM.kinds) (show RowsAt 12 NodeAt w4 _ _ _ from hGM.nodes) hRG hLO4
    simp only [gcells] at hrg
    rw [hpv, hkv, hiv, hnv] at hrg
    rw [hpv] at c0
    rw [hkv] at c1
    rw [hiv] at c3
    rw [hnv] at c6
    have HRG := Lib.hid hRG
    have HGM := Lib.hid hGM
    have Hkv := Lib.hid hkv
    have Hnv := Lib.hid hnv
    have Hpv := Lib.hid hpv
    have Hiv := Lib.hid hiv
    have HLO4 := Lib.hid hLO4
    have Hrg := Lib.hid hrg
    clear hrg hLO4 hiv hpv hnv hkv hGM hRG
    refine wp_region_noPanic ?_
    refine wp_region_held_drew (S := fun W => W.cell? ⟨GA, 0, none⟩ = some (.slice (some ad) n cp) ∧ W.cell? (ad.add (f * 8)) = some (.slice PA g.params.length pc) ∧ W.cell? ⟨(ad.add (f * 8)).block, (ad.add (f * 8)).off + 1, none⟩ = some (.slice KA g.kinds.length kc) ∧ W.cell? ⟨(ad.add (f * 8)).block, (ad.add (f * 8)).off + 2, none⟩ = some (.int .i64 g.cells) ∧ W.cell? ⟨(ad.add (f * 8)).block, (ad.add (f * 8)).off + 3, none⟩ = some (.slice IA g.init.length ic) ∧ W.cell? ⟨(ad.add (f * 8)).block, (ad.add (f * 8)).off + 4, none⟩ = some (.bool g.result) ∧ W.cell? ⟨(ad.add (f * 8)).block, (ad.add (f * 8)).off + 5, none⟩ = some (.int .i64 g.keep) ∧ W.cell? ⟨(ad.add (f * 8)).block, (ad.add (f * 8)).off + 6, none⟩ = some (.slice NA g.nodes.length nc) ∧ W.cell? ⟨(ad.add (f * 8)).block, (ad.add (f * 8)).off + 7, none⟩ = some (.int .i64 g.entry) ∧ W.cell? ⟨Lb, 0, none⟩ = some (.int .i64 (sizeL g)) ∧ W.cell? ⟨Lb, 1, none⟩ = some (.slice SA (nSlots g) sc) ∧ W.cell? ⟨Lb, 2, none⟩ = some (.slice CA (nCells g) cc) ∧ W.cell? ⟨Lb, 3, none⟩ = some (.slice VA (nSaves g) vc) ∧ W.cell? ⟨Lb, 4, none⟩ = some (.int .i64 (resL g))) (by kernel_rfl) ⟨kp0, c0, c1, c2, c3, c4, c5, c6, c7, kl0, kl1, kl2, kl3, kl4⟩ (fun hHeld => ?_)
    refine wpAnyH_take (i := 0) (v := ?_) rfl (by kernel_rfl) (by kernel_rfl) (by kernel_rfl) (fun _ _ _ h => h) (Or.inl ⟨by rfl, ?_⟩) (by assumption) ?_
    rotate_left
    · intro w hSw; (try dsimp only at hSw); go_simp; try with_reducible rfl
    simp only [Act.put, List.getElem_toArray, List.getElem_cons_zero, List.getElem_cons_succ, List.setIfInBounds_toArray, List.set_cons_zero, List.set_cons_succ]
    refine wpAnyH_take (i := 1) (v := ?_) rfl (by kernel_rfl) (by kernel_rfl) (by kernel_rfl) (fun _ _ _ h => h) (Or.inl ⟨by rfl, ?_⟩) (by assumption) ?_
    rotate_left
    · intro w hSw; (try dsimp only at hSw); go_simp; try with_reducible rfl
    simp only [Act.put, List.getElem_toArray, List.getElem_cons_zero, List.getElem_cons_succ, List.setIfInBounds_toArray, List.set_cons_zero, List.set_cons_succ]
    refine wpAnyH_take (i := 2) (v := ?_) rfl (by kernel_rfl) (by kernel_rfl) (by kernel_rfl) (fun _ _ _ h => h) (Or.inl ⟨by rfl, ?_⟩) (by assumption) ?_
    rotate_left
    · intro w hSw; (try dsimp only at hSw); go_simp; try with_reducible rfl
    simp only [Act.put, List.getElem_toArray, List.getElem_cons_zero, List.getElem_cons_succ, List.setIfInBounds_toArray, List.set_cons_zero, List.set_cons_succ]
    refine wpAnyH_take (i := 3) (v := ?_) rfl (by kernel_rfl) (by kernel_rfl) (by kernel_rfl) (fun _ _ _ h => h) (Or.inl ⟨by rfl, ?_⟩) (by assumption) ?_
    rotate_left
    · intro w hSw; (try dsimp only at hSw); go_simp; try with_reducible rfl
    simp only [Act.put, List.getElem_toArray, List.getElem_cons_zero, List.getElem_cons_succ, List.setIfInBounds_toArray, List.set_cons_zero, List.set_cons_succ]
    refine wpAnyH_take (i := 4) (v := ?_) rfl (by kernel_rfl) (by kernel_rfl) (by kernel_rfl) (fun _ _ _ h => h) (Or.inl ⟨by rfl, ?_⟩) (by assumption) ?_
    rotate_left
    · intro w hSw; (try dsimp only at hSw); go_simp; try with_reducible rfl
    simp only [Act.put, List.getElem_toArray, List.getElem_cons_zero, List.getElem_cons_succ, List.setIfInBounds_toArray, List.set_cons_zero, List.set_cons_succ]
    refine wpAnyH_take (i := 5) (v := ?_) rfl (by kernel_rfl) (by kernel_rfl) (by kernel_rfl) (fun _ _ _ h => h) (Or.inl ⟨by rfl, ?_⟩) (by assumption) ?_
    rotate_left
    · intro w hSw; (try dsimp only at hSw); go_simp; try with_reducible rfl
    simp only [Act.put, List.getElem_toArray, List.getElem_cons_zero, List.getElem_cons_succ, List.setIfInBounds_toArray, List.set_cons_zero, List.set_cons_succ]
    refine wpAnyH_take (i := 6) (v := ?_) rfl (by kernel_rfl) (by kernel_rfl) (by kernel_rfl) (fun _ _ _ h => h) (Or.inl ⟨by rfl, ?_⟩) (by assumption) ?_
    rotate_left
    · intro w hSw; (try dsimp only at hSw); go_simp; try with_reducible rfl
    simp only [Act.put, List.getElem_toArray, List.getElem_cons_zero, List.getElem_cons_succ, List.setIfInBounds_toArray, List.set_cons_zero, List.set_cons_succ]
    refine wpAnyH_take (i := 7) (v := ?_) rfl (by kernel_rfl) (by kernel_rfl) (by kernel_rfl) (fun _ _ _ h => h) (Or.inl ⟨by rfl, ?_⟩) (by assumption) ?_
    rotate_left
    · intro w hSw; (try dsimp only at hSw); go_simp; try with_reducible rfl
    simp only [Act.put, List.getElem_toArray, List.getElem_cons_zero, List.getElem_cons_succ, List.setIfInBounds_toArray, List.set_cons_zero, List.set_cons_succ]
    refine wpAnyH_take (i := 8) (v := ?_) rfl (by kernel_rfl) (by kernel_rfl) (by kernel_rfl) (fun _ _ _ h => h) (Or.inl ⟨by rfl, ?_⟩) (by assumption) ?_
    rotate_left
    · intro w hSw; (try dsimp only at hSw); go_simp; try with_reducible rfl
    simp only [Act.put, List.getElem_toArray, List.getElem_cons_zero, List.getElem_cons_succ, List.setIfInBounds_toArray, List.set_cons_zero, List.set_cons_succ]
    refine wpAnyH_ready (rs := [9]) (by kernel_rfl) (by simp) ?_
    refine AllReadyH.cons rfl (fun K hK => ?_) AllReadyH.nil
    go_simp
    refine Hrg.out.mono ?_
    rintro e w5 ⟨rfl, hb5⟩
    have hb6 : Below w4.heap.size w4 w5 := ⟨hb5.os, hb5.tape, hb5.output, hb5.size, hb5.block⟩
    have hgl : (ad.add (f * 8)).block < w4.heap.size := Nat.lt_of_lt_of_le HGM.out.lt Hbw4.out.size
    have hbe := Hbw4.out.trans (hb6.mono Hbw4.out.size)
    refine hK.out _ _ ⟨(hb6.cell (p := ⟨GA, 0, none⟩) HP4.out.lt).trans kp0, (hb6.cell (p := ad.add (f * 8)) hgl).trans c0, (hb6.cell (p := ⟨(ad.add (f * 8)).block, (ad.add (f * 8)).off + 1, none⟩) hgl).trans c1, (hb6.cell (p := ⟨(ad.add (f * 8)).block, (ad.add (f * 8)).off + 2, none⟩) hgl).trans c2, (hb6.cell (p := ⟨(ad.add (f * 8)).block, (ad.add (f * 8)).off + 3, none⟩) hgl).trans c3, (hb6.cell (p := ⟨(ad.add (f * 8)).block, (ad.add (f * 8)).off + 4, none⟩) hgl).trans c4, (hb6.cell (p := ⟨(ad.add (f * 8)).block, (ad.add (f * 8)).off + 5, none⟩) hgl).trans c5, (hb6.cell (p := ⟨(ad.add (f * 8)).block, (ad.add (f * 8)).off + 6, none⟩) hgl).trans c6, (hb6.cell (p := ⟨(ad.add (f * 8)).block, (ad.add (f * 8)).off + 7, none⟩) hgl).trans c7, (hb6.cell (p := ⟨Lb, 0, none⟩) HL4.out.lt).trans kl0, (hb6.cell (p := ⟨Lb, 1, none⟩) HL4.out.lt).trans kl1, (hb6.cell (p := ⟨Lb, 2, none⟩) HL4.out.lt).trans kl2, (hb6.cell (p := ⟨Lb, 3, none⟩) HL4.out.lt).trans kl3, (hb6.cell (p := ⟨Lb, 4, none⟩) HL4.out.lt).trans kl4⟩ (fun hHeld2 => ?_)
    clear hK K hHeld
    try simp only [Act.put, List.getElem_toArray, List.getElem_cons_zero, List.getElem_cons_succ, List.setIfInBounds_toArray, List.set_cons_zero, List.set_cons_succ]
    refine wpAnyH_take (i := 10) (v := ?_) rfl (by kernel_rfl) (by kernel_rfl) (by kernel_rfl) (fun _ _ _ h => h) (Or.inl ⟨by rfl, ?_⟩) (by assumption) ?_
    rotate_left
    · intro w hSw; (try dsimp only at hSw); go_simp; try with_reducible rfl
    simp only [Act.put, List.getElem_toArray, List.getElem_cons_zero, List.getElem_cons_succ, List.setIfInBounds_toArray, List.set_cons_zero, List.set_cons_succ]
    refine wpAnyH_take (i := 11) (v := ?_) rfl (by kernel_rfl) (by kernel_rfl) (by kernel_rfl) (fun _ _ _ h => h) (Or.inl ⟨by rfl, ?_⟩) (by assumption) ?_
    rotate_left
    · intro w hSw; (try dsimp only at hSw); go_simp; try with_reducible rfl
    simp only [Act.put, List.getElem_toArray, List.getElem_cons_zero, List.getElem_cons_succ, List.setIfInBounds_toArray, List.set_cons_zero, List.set_cons_succ]
    have Hbe := Lib.hid hbe
    have Hb5 := Lib.hid hb5
    have Hb6 := Lib.hid hb6
    clear hb6 hb5 hbe
    refine wpAnyH_done (by kernel_rfl) ?_ _
    refine NoPanic.normal ?_
    clear hHeld2 kp0 kl0 kl1 kl2 kl3 kl4 c0 c1 c2 c3 c4 c5 c6 c7
    go_wp2_with fail
    go_ret
    exact ⟨rfl, Hbe.out⟩
end Go.Proofs.Ytopifdkkmchoeaa
