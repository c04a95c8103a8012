/- The walk of the law IrNodes. Conditions: what the law's argument is read as. -/
import Derived.Test.YtfjalejlbegkeaaIrFirst
import Derived.Test.YtfjalejlbegkeaaOpenI
set_option linter.unusedVariables false
set_option linter.unusedSimpArgs false
namespace Go.Proofs.Ytfjalejlbegkeaa
open Go.RowKit

theorem Lst.nums {w : World} {v : Value} {l : List Int} (h : Lst w v l) : NumsAt .i64 w w.heap.size v l := by
  obtain ⟨A, c, h1, h2, h3, h4⟩ := h
  exact ⟨A, _, c, h1, h2, h3, rfl, h4⟩
theorem sameInts_same {v1 v2 : Value} {xs : List Int} {w : World} {B C : Nat} (h1 : NumsAt .i64 w B v1 xs) (h2 : NumsAt .i64 w C v2 xs) :
    Calls Try.prog 12 #[v1, v2] w fun e w' => e = .returned (.bool true) ∧ ∃ q, w' = w.drewN q :=
  (sameInts_any v1 v2 xs xs w B C h1 h2).mono fun e w' h => ⟨by rw [h.1, decide_eq_true rfl], h.2⟩
set_option maxRecDepth 100000 in
set_option maxHeartbeats 8000000 in
theorem nodes_core (w : World) (x : NodeD) (av : Value) (hav : NumsAt .i64 w w.heap.size av x.args) (hal : x.args.length * 8 ≤ 140737488351232) :
    Calls Try.prog 4 #[.agg (ncells x av).toArray] w fun e w' => e = .returned (.bool true) ∧ Below w.heap.size w w' := by
  obtain ⟨i0, hi0, hz0, hz1, hz2⟩ := info_parts infoIntr
  obtain ⟨NC, hNC⟩ : ∃ NC : Array Value, NC = (ncells x av).toArray := ⟨_, rfl⟩
  have hag : (ncells x av).toArray = NC := hNC.symm
  rw [hag]
  obtain ⟨G, hG⟩ : ∃ G, G = w.heap.size := ⟨_, rfl⟩
  have hP := Blk.new w 38 NC
  have hb := (Below.refl w.heap.size w).alloc (Nat.le_refl _) (.cells NC 38)
  have hA := hav.below hb
  rw [← hG] at hP
  obtain ⟨V, hV⟩ : ∃ V, V = w.alloc (.cells NC 38) := ⟨_, rfl⟩
  rw [← hV] at hb hP hA
  have hNS : NC.size = 12 := by rw [hNC]; rfl
  have hGl := hP.lt
  have hN9 : NC[9]? = some av := by rw [hNC]; rfl
  have Hb := Lib.hid hb
  have HP := Lib.hid hP
  have HA := Lib.hid hA
  have Hav := Lib.hid hav
  have HV := Lib.hid hV
  have HG := Lib.hid hG
  have HNC := Lib.hid hNC
  have HNS := Lib.hid hNS
  have HN9 := Lib.hid hN9
  clear hN9 hNS hNC hG hV hav hA hP hb
  go_enter Try.func4, Try.ntmps4
  go_upto_region 1 with fail
  rw [← HV.out, ← HG.out]
  go_wp2_with fail
  refine (first_any V).mono ?_
  rintro e w1 ⟨rfl, hb1⟩
  have hP1 := HP.out.below hb1 hGl
  have hA1 := HA.out.below (hb1.mono Hb.out.size)
  have hbw1 := Hb.out.trans (hb1.mono Hb.out.size)
  obtain ⟨AA, ac, rfl, _, _, hAr⟩ := hA1.slice
  have kp9 := hP1.cell 9
  rw [HN9.out] at kp9
  have hE := own_lit0 w1 3 1
  have hSrc := hAr.below ((Below.refl w.heap.size w1).alloc hbw1.size (.cells #[] 3))
  have hz := hbw1.size
  have hG1 := hP1.lt
  have HP1 := Lib.hid hP1
  have HA1 := Lib.hid hA1
  have Hbw1 := Lib.hid hbw1
  have HAr := Lib.hid hAr
  have HE := Lib.hid hE
  have HSrc := Lib.hid hSrc
  clear hSrc hE hAr hbw1 hA1 hP1
  clear hb1
  go_upto_region 4 with (first
    | (at_builtin
       refine wpList_append_any _ rfl (.tmp 6) (.tmp 8) _ rfl w1.heap.size 3 i0 _ 1 8 Try.underlying36 hi0 hz0 hz1 hz2 rfl (by omega) _ 0 [] rfl HE.out w.heap.size AA x.args.length ac (x.args.map (Value.int .i64)) rfl HSrc.out ?c1 ?c2 ?c3 ?c4 ?_
       case c1 => intro u hu; obtain ⟨z, _, rfl⟩ := List.mem_map.1 hu; rfl
       case c2 => unfold maxLen; omega
       case c3 => omega
       case c4 => simp
       intro v3 w3 hown3 hg3 hat3))
  have hl3 : Lst w3 v3 x.args := Lst.of_own (by simpa using hown3)
  have hb3 : Below w1.heap.size w1 w3 := ((Below.refl _ _).alloc (Nat.le_refl _) _).grown hg3 (by simp) (fun g e => by have := (HE.out.lt g e).1; omega)
  have hbw3 := Hbw1.out.trans (hb3.mono hz)
  have hP3 := HP1.out.below hb3 HP1.out.lt
  have hA3 := HA1.out.below (hb3.mono hz)
  have hr3 : w3.drew.rangeAt G 0 (ncells x (.slice AA x.args.length ac)) := fun j v hv => by
    show w3.cell? _ = _
    rw [hP3.cell (0 + j), HNC.out, Nat.zero_add]
    exact (List.getElem?_toArray ..).trans hv
  have kq9 : w3.drew.cell? ⟨G, 9, none⟩ = some (.slice AA x.args.length ac) := by
    show w3.cell? _ = _
    rw [hP3.cell 9, HN9.out]
  have hz3 := hbw3.size
  have hG3 := hP3.lt
  obtain ⟨av, hav⟩ : ∃ av, av = Value.slice AA x.args.length ac := ⟨_, rfl⟩
  rw [← hav] at hr3 kq9 hag
  have hA3' := hA3
  rw [← hav] at hA3'
  have Hl3 := Lib.hid hl3
  have Hbw3 := Lib.hid hbw3
  have HP3 := Lib.hid hP3
  have HA3 := Lib.hid hA3
  have HA4 := Lib.hid hA3'
  have HAV := Lib.hid hav
  clear hav hA3' hA3 hP3 hbw3 hl3
  clear hb3 hown3 hg3 hat3 kp9
  have hkeep : ∀ W W' : World, Below w3.heap.size w3.drew W → Below W.heap.size W W' → W.rangeAt G 0 (ncells x av) ∧ W.cell? ⟨G, 9, none⟩ = some av → (W'.rangeAt G 0 (ncells x av) ∧ W'.cell? ⟨G, 9, none⟩ = some av ∧ Hid (Below w3.heap.size w3.drew W')) := fun W W' h1 h2 h3 => by
    have hs : w3.heap.size ≤ W.heap.size := h1.size
    exact ⟨fun j v hv => (h2.cell (p := ⟨G, 0 + j, none⟩) (Nat.lt_of_lt_of_le hG3 hs)).trans (h3.1 j v hv), (h2.cell (p := ⟨G, 9, none⟩) (Nat.lt_of_lt_of_le hG3 hs)).trans h3.2, Lib.hid (h1.trans (h2.mono hs))⟩
  have hargs : ∀ W : World, Below w3.heap.size w3.drew W → NumsAt .i64 W w.heap.size av x.args := fun W h => (show NumsAt .i64 w3.drew w.heap.size av x.args from HA4.out).below (h.mono hz3)
  have HKEEP := Lib.hid hkeep
  have HARGS := Lib.hid hargs
  clear hkeep hargs
  have HK0 : Hid (∀ W : World, Below w3.heap.size w3.drew W → Calls Try.prog 13 #[.agg NC] W fun e w' => (∃ v, e = .returned v ∧ Lst w' v (readsL x)) ∧ Below W.heap.size W w') := Lib.hid fun W h => by
    rw [← hag]
    exact reads_any _ x av w.heap.size (Nat.le_trans hz3 (show w3.heap.size ≤ _ from h.size)) (HARGS.out _ h) hal
  have HK1 : Hid (∀ W : World, Below w3.heap.size w3.drew W → Calls Try.prog 14 #[.agg NC] W fun e w' => (∃ v, e = .returned v ∧ Lst w' v (readsL x)) ∧ Below W.heap.size W w') := Lib.hid fun W h => by
    rw [← hag]
    exact refreads_any _ x av w.heap.size (Nat.le_trans hz3 (show w3.heap.size ≤ _ from h.size)) (HARGS.out _ h) hal
  have HK2 : Hid (∀ W : World, Below w3.heap.size w3.drew W → Calls Try.prog 15 #[.agg NC] W fun e w' => (∃ v, e = .returned v ∧ Lst w' v (writesL x)) ∧ Below W.heap.size W w') := Lib.hid fun W h => by
    rw [← hag]
    exact writes_any _ x av
  have HK3 : Hid (∀ W : World, Below w3.heap.size w3.drew W → Calls Try.prog 16 #[.agg NC] W fun e w' => (∃ v, e = .returned v ∧ Lst w' v (writesL x)) ∧ Below W.heap.size W w') := Lib.hid fun W h => by
    rw [← hag]
    exact refwrites_any _ x av
  have HK4 : Hid (∀ W : World, Below w3.heap.size w3.drew W → Calls Try.prog 17 #[.agg NC] W fun e w' => (∃ v, e = .returned v ∧ Lst w' v (nextL x)) ∧ Below W.heap.size W w') := Lib.hid fun W h => by
    rw [← hag]
    exact next_any _ x av
  have HK5 : Hid (∀ W : World, Below w3.heap.size w3.drew W → Calls Try.prog 18 #[.agg NC] W fun e w' => (∃ v, e = .returned v ∧ Lst w' v (nextL x)) ∧ Below W.heap.size W w') := Lib.hid fun W h => by
    rw [← hag]
    exact refnext_any _ x av
  refine wp_region_noPanic ?_
  refine wp_region_held_drew (S := fun W => W.rangeAt G 0 (ncells x av) ∧ W.cell? ⟨G, 9, none⟩ = some av ∧ Hid (Below w3.heap.size w3.drew W)) (by kernel_rfl) ⟨hr3, kq9, Lib.hid (Below.refl _ _)⟩ (fun hHeld => ?_)
  refine wpAnyH_take (i := 0) rfl (by kernel_rfl) (by kernel_rfl) (by kernel_rfl) (fun _ _ _ h => h) (yieldsIf_load_mid (by rfl) 38 _ rfl G 0 rfl (ncells x av) _ (fun w h => h.1) Try.underlying38 rfl (by kernel_rfl)) (by assumption) ?_
  try simp only [Act.put, List.getElem_toArray, List.getElem_cons_zero, List.getElem_cons_succ, List.setIfInBounds_toArray, List.set_cons_zero, List.set_cons_succ]
  refine wpAnyH_take (i := 2) rfl (by kernel_rfl) (by kernel_rfl) (by kernel_rfl) (fun _ _ _ h => h) (yieldsIf_load_mid (by rfl) 38 _ rfl G 0 rfl (ncells x av) _ (fun w h => h.1) Try.underlying38 rfl (by kernel_rfl)) (by assumption) ?_
  try simp only [Act.put, List.getElem_toArray, List.getElem_cons_zero, List.getElem_cons_succ, List.setIfInBounds_toArray, List.set_cons_zero, List.set_cons_succ]
  refine wpAnyH_ready (rs := [1]) (by kernel_rfl) (by simp) ?_
  refine AllReadyH.cons rfl (fun K hK => ?_) AllReadyH.nil
  go_simp
  refine (HK0.out _ hHeld.2.2.out).mono ?_
  rintro e w5 ⟨⟨v1, rfl, hL1⟩, hb5⟩
  have hS5 := HKEEP.out _ _ hHeld.2.2.out hb5 ⟨hHeld.1, hHeld.2.1⟩
  refine hK.out _ _ hS5 (fun hHeld2 => ?_)
  have HL1 := Lib.hid hL1
  clear hL1
  clear hK K hS5 hb5 hHeld
  try simp only [Act.put, List.getElem_toArray, List.getElem_cons_zero, List.getElem_cons_succ, List.setIfInBounds_toArray, List.set_cons_zero, List.set_cons_succ]
  refine wpAnyH_ready (rs := [3]) (by kernel_rfl) (by simp) ?_
  refine AllReadyH.cons rfl (fun K hK => ?_) AllReadyH.nil
  go_simp
  refine (HK1.out _ hHeld2.2.2.out).mono ?_
  rintro e w6 ⟨⟨v2, rfl, hL2⟩, hb6⟩
  have hS6 := HKEEP.out _ _ hHeld2.2.2.out hb6 ⟨hHeld2.1, hHeld2.2.1⟩
  have hL1 := HL1.out.below hb6
  refine hK.out _ _ hS6 (fun hHeld => ?_)
  have HL1 := Lib.hid hL1
  have HL2 := Lib.hid hL2
  clear hL2 hL1
  clear hK K hS6 hb6 hHeld2
  try simp only [Act.put, List.getElem_toArray, List.getElem_cons_zero, List.getElem_cons_succ, List.setIfInBounds_toArray, List.set_cons_zero, List.set_cons_succ]
  refine wpAnyH_ready (rs := [4]) (by kernel_rfl) (by simp) ?_
  refine AllReadyH.cons rfl (fun K hK => ?_) AllReadyH.nil
  go_simp
  refine (sameInts_same HL1.out.nums HL2.out.nums).mono ?_
  rintro e w7 ⟨rfl, q, rfl⟩
  refine hK.out _ _ ⟨hHeld.1, hHeld.2.1, Lib.hid (below_drewN hHeld.2.2.out _)⟩ (fun hHeld2 => ?_)
  clear hK K HL1 HL2 hHeld
  try simp only [Act.put, List.getElem_toArray, List.getElem_cons_zero, List.getElem_cons_succ, List.setIfInBounds_toArray, List.set_cons_zero, List.set_cons_succ]
  have hHeld := hHeld2
  clear hHeld2
  refine wpAnyH_take (i := 5) (v := ?_) rfl (by kernel_rfl) (by kernel_rfl) (by kernel_rfl) (fun _ _ _ h => h) (Or.inl ⟨by rfl, ?_⟩) (by assumption) ?_
  rotate_left
  · intro w hSw; (try dsimp only at hSw); go_simp; try with_reducible rfl
  simp only [Act.put, List.getElem_toArray, List.getElem_cons_zero, List.getElem_cons_succ, List.setIfInBounds_toArray, List.set_cons_zero, List.set_cons_succ]
  refine wpAnyH_take (i := 6) rfl (by kernel_rfl) (by kernel_rfl) (by kernel_rfl) (fun _ _ _ h => h) (yieldsIf_load_mid (by rfl) 38 _ rfl G 0 rfl (ncells x av) _ (fun w h => h.1) Try.underlying38 rfl (by kernel_rfl)) (by assumption) ?_
  try simp only [Act.put, List.getElem_toArray, List.getElem_cons_zero, List.getElem_cons_succ, List.setIfInBounds_toArray, List.set_cons_zero, List.set_cons_succ]
  refine wpAnyH_take (i := 8) rfl (by kernel_rfl) (by kernel_rfl) (by kernel_rfl) (fun _ _ _ h => h) (yieldsIf_load_mid (by rfl) 38 _ rfl G 0 rfl (ncells x av) _ (fun w h => h.1) Try.underlying38 rfl (by kernel_rfl)) (by assumption) ?_
  try simp only [Act.put, List.getElem_toArray, List.getElem_cons_zero, List.getElem_cons_succ, List.setIfInBounds_toArray, List.set_cons_zero, List.set_cons_succ]
  refine wpAnyH_ready (rs := [7]) (by kernel_rfl) (by simp) ?_
  refine AllReadyH.cons rfl (fun K hK => ?_) AllReadyH.nil
  go_simp
  refine (HK2.out _ hHeld.2.2.out).mono ?_
  rintro e w5 ⟨⟨v1, rfl, hL1⟩, hb5⟩
  have hS5 := HKEEP.out _ _ hHeld.2.2.out hb5 ⟨hHeld.1, hHeld.2.1⟩
  refine hK.out _ _ hS5 (fun hHeld2 => ?_)
  have HL1 := Lib.hid hL1
  clear hL1
  clear hK K hS5 hb5 hHeld
  try simp only [Act.put, List.getElem_toArray, List.getElem_cons_zero, List.getElem_cons_succ, List.setIfInBounds_toArray, List.set_cons_zero, List.set_cons_succ]
  refine wpAnyH_ready (rs := [9]) (by kernel_rfl) (by simp) ?_
  refine AllReadyH.cons rfl (fun K hK => ?_) AllReadyH.nil
  go_simp
  refine (HK3.out _ hHeld2.2.2.out).mono ?_
  rintro e w6 ⟨⟨v2, rfl, hL2⟩, hb6⟩
  have hS6 := HKEEP.out _ _ hHeld2.2.2.out hb6 ⟨hHeld2.1, hHeld2.2.1⟩
  have hL1 := HL1.out.below hb6
  refine hK.out _ _ hS6 (fun hHeld => ?_)
  have HL1 := Lib.hid hL1
  have HL2 := Lib.hid hL2
  clear hL2 hL1
  clear hK K hS6 hb6 hHeld2
  try simp only [Act.put, List.getElem_toArray, List.getElem_cons_zero, List.getElem_cons_succ, List.setIfInBounds_toArray, List.set_cons_zero, List.set_cons_succ]
  refine wpAnyH_ready (rs := [10]) (by kernel_rfl) (by simp) ?_
  refine AllReadyH.cons rfl (fun K hK => ?_) AllReadyH.nil
  go_simp
  refine (sameInts_same HL1.out.nums HL2.out.nums).mono ?_
  rintro e w7 ⟨rfl, q, rfl⟩
  refine hK.out _ _ ⟨hHeld.1, hHeld.2.1, Lib.hid (below_drewN hHeld.2.2.out _)⟩ (fun hHeld2 => ?_)
  clear hK K HL1 HL2 hHeld
  try simp only [Act.put, List.getElem_toArray, List.getElem_cons_zero, List.getElem_cons_succ, List.setIfInBounds_toArray, List.set_cons_zero, List.set_cons_succ]
  have hHeld := hHeld2
  clear hHeld2
  refine wpAnyH_take (i := 11) (v := ?_) rfl (by kernel_rfl) (by kernel_rfl) (by kernel_rfl) (fun _ _ _ h => h) (Or.inl ⟨by rfl, ?_⟩) (by assumption) ?_
  rotate_left
  · intro w hSw; (try dsimp only at hSw); go_simp; try with_reducible rfl
  simp only [Act.put, List.getElem_toArray, List.getElem_cons_zero, List.getElem_cons_succ, List.setIfInBounds_toArray, List.set_cons_zero, List.set_cons_succ]
  refine wpAnyH_take (i := 12) (v := ?_) rfl (by kernel_rfl) (by kernel_rfl) (by kernel_rfl) (fun _ _ _ h => h) (Or.inl ⟨by rfl, ?_⟩) (by assumption) ?_
  rotate_left
  · intro w hSw; (try dsimp only at hSw); go_simp; try with_reducible rfl
  simp only [Act.put, List.getElem_toArray, List.getElem_cons_zero, List.getElem_cons_succ, List.setIfInBounds_toArray, List.set_cons_zero, List.set_cons_succ]
  refine wpAnyH_take (i := 13) rfl (by kernel_rfl) (by kernel_rfl) (by kernel_rfl) (fun _ _ _ h => h) (yieldsIf_load_mid (by rfl) 38 _ rfl G 0 rfl (ncells x av) _ (fun w h => h.1) Try.underlying38 rfl (by kernel_rfl)) (by assumption) ?_
  try simp only [Act.put, List.getElem_toArray, List.getElem_cons_zero, List.getElem_cons_succ, List.setIfInBounds_toArray, List.set_cons_zero, List.set_cons_succ]
  refine wpAnyH_take (i := 15) rfl (by kernel_rfl) (by kernel_rfl) (by kernel_rfl) (fun _ _ _ h => h) (yieldsIf_load_mid (by rfl) 38 _ rfl G 0 rfl (ncells x av) _ (fun w h => h.1) Try.underlying38 rfl (by kernel_rfl)) (by assumption) ?_
  try simp only [Act.put, List.getElem_toArray, List.getElem_cons_zero, List.getElem_cons_succ, List.setIfInBounds_toArray, List.set_cons_zero, List.set_cons_succ]
  refine wpAnyH_ready (rs := [14]) (by kernel_rfl) (by simp) ?_
  refine AllReadyH.cons rfl (fun K hK => ?_) AllReadyH.nil
  go_simp
  refine (HK4.out _ hHeld.2.2.out).mono ?_
  rintro e w5 ⟨⟨v1, rfl, hL1⟩, hb5⟩
  have hS5 := HKEEP.out _ _ hHeld.2.2.out hb5 ⟨hHeld.1, hHeld.2.1⟩
  refine hK.out _ _ hS5 (fun hHeld2 => ?_)
  have HL1 := Lib.hid hL1
  clear hL1
  clear hK K hS5 hb5 hHeld
  try simp only [Act.put, List.getElem_toArray, List.getElem_cons_zero, List.getElem_cons_succ, List.setIfInBounds_toArray, List.set_cons_zero, List.set_cons_succ]
  refine wpAnyH_ready (rs := [16]) (by kernel_rfl) (by simp) ?_
  refine AllReadyH.cons rfl (fun K hK => ?_) AllReadyH.nil
  go_simp
  refine (HK5.out _ hHeld2.2.2.out).mono ?_
  rintro e w6 ⟨⟨v2, rfl, hL2⟩, hb6⟩
  have hS6 := HKEEP.out _ _ hHeld2.2.2.out hb6 ⟨hHeld2.1, hHeld2.2.1⟩
  have hL1 := HL1.out.below hb6
  refine hK.out _ _ hS6 (fun hHeld => ?_)
  have HL1 := Lib.hid hL1
  have HL2 := Lib.hid hL2
  clear hL2 hL1
  clear hK K hS6 hb6 hHeld2
  try simp only [Act.put, List.getElem_toArray, List.getElem_cons_zero, List.getElem_cons_succ, List.setIfInBounds_toArray, List.set_cons_zero, List.set_cons_succ]
  refine wpAnyH_ready (rs := [17]) (by kernel_rfl) (by simp) ?_
  refine AllReadyH.cons rfl (fun K hK => ?_) AllReadyH.nil
  go_simp
  refine (sameInts_same HL1.out.nums HL2.out.nums).mono ?_
  rintro e w7 ⟨rfl, q, rfl⟩
  refine hK.out _ _ ⟨hHeld.1, hHeld.2.1, Lib.hid (below_drewN hHeld.2.2.out _)⟩ (fun hHeld2 => ?_)
  clear hK K HL1 HL2 hHeld
  try simp only [Act.put, List.getElem_toArray, List.getElem_cons_zero, List.getElem_cons_succ, List.setIfInBounds_toArray, List.set_cons_zero, List.set_cons_succ]
  have hHeld := hHeld2
  clear hHeld2
  refine wpAnyH_take (i := 18) (v := ?_) rfl (by kernel_rfl) (by kernel_rfl) (by kernel_rfl) (fun _ _ _ h => h) (Or.inl ⟨by rfl, ?_⟩) (by assumption) ?_
  rotate_left
  · intro w hSw; (try dsimp only at hSw); go_simp; try with_reducible rfl
  simp only [Act.put, List.getElem_toArray, List.getElem_cons_zero, List.getElem_cons_succ, List.setIfInBounds_toArray, List.set_cons_zero, List.set_cons_succ]
  refine wpAnyH_take (i := 19) (v := ?_) rfl (by kernel_rfl) (by kernel_rfl) (by kernel_rfl) (fun _ _ _ h => h) (Or.inl ⟨by rfl, ?_⟩) (by assumption) ?_
  rotate_left
  · intro w hSw; (try dsimp only at hSw); go_simp; try with_reducible rfl
  simp only [Act.put, List.getElem_toArray, List.getElem_cons_zero, List.getElem_cons_succ, List.setIfInBounds_toArray, List.set_cons_zero, List.set_cons_succ]
  refine wpAnyH_take (i := 20) (v := ?_) rfl (by kernel_rfl) (by kernel_rfl) (by kernel_rfl) (fun _ _ _ h => h) (Or.inl ⟨by rfl, ?_⟩) (by assumption) ?_
  rotate_left
  · intro w hSw; (try dsimp only at hSw); go_simp; try with_reducible rfl
  simp only [Act.put, List.getElem_toArray, List.getElem_cons_zero, List.getElem_cons_succ, List.setIfInBounds_toArray, List.set_cons_zero, List.set_cons_succ]
  refine wpAnyH_take (i := 21) (v := ?_) rfl (by kernel_rfl) (by kernel_rfl) (by kernel_rfl) (fun _ _ _ h => h) (Or.inl ⟨by rfl, ?_⟩) (by assumption) ?_
  rotate_left
  · intro w hSw; (try dsimp only at hSw); go_simp; try with_reducible rfl
  simp only [Act.put, List.getElem_toArray, List.getElem_cons_zero, List.getElem_cons_succ, List.setIfInBounds_toArray, List.set_cons_zero, List.set_cons_succ]
  refine wpAnyH_take (i := 22) (v := ?_) rfl (by kernel_rfl) (by kernel_rfl) (by kernel_rfl) (fun _ _ _ h => h) (Or.inl ⟨by rfl, ?_⟩) (by assumption) ?_
  rotate_left
  · intro w hSw; (try dsimp only at hSw); go_simp; try with_reducible rfl
  simp only [Act.put, List.getElem_toArray, List.getElem_cons_zero, List.getElem_cons_succ, List.setIfInBounds_toArray, List.set_cons_zero, List.set_cons_succ]
  refine wpAnyH_ready (rs := [23]) (by kernel_rfl) (by simp) ?_
  refine AllReadyH.cons rfl (fun K hK => ?_) AllReadyH.nil
  go_simp
  have hA9 := HARGS.out _ hHeld.2.2
  have hl9 := Hl3.out.nums.below (show Below w3.heap.size w3 _ from (Below.refl _ w3).drew.trans hHeld.2.2.out)
  refine (sameInts_same hl9 hA9).mono ?_
  rintro e w7 ⟨rfl, q, rfl⟩
  have hfin := below_drewN (Hbw3.out.drew.trans (hHeld.2.2.out.mono hz3)) q
  refine hK.out _ _ ⟨hHeld.1, hHeld.2.1, Lib.hid (below_drewN hHeld.2.2.out _)⟩ (fun hHeld2 => ?_)
  clear hK K hHeld hA9 hl9
  try simp only [Act.put, List.getElem_toArray, List.getElem_cons_zero, List.getElem_cons_succ, List.setIfInBounds_toArray, List.set_cons_zero, List.set_cons_succ]
  refine wpAnyH_take (i := 24) (v := ?_) rfl (by kernel_rfl) (by kernel_rfl) (by kernel_rfl) (fun _ _ _ h => h) (Or.inl ⟨by rfl, ?_⟩) (by assumption) ?_
  rotate_left
  · intro w hSw; (try dsimp only at hSw); go_simp; try with_reducible rfl
  simp only [Act.put, List.getElem_toArray, List.getElem_cons_zero, List.getElem_cons_succ, List.setIfInBounds_toArray, List.set_cons_zero, List.set_cons_succ]
  refine wpAnyH_take (i := 25) (v := ?_) rfl (by kernel_rfl) (by kernel_rfl) (by kernel_rfl) (fun _ _ _ h => h) (Or.inl ⟨by rfl, ?_⟩) (by assumption) ?_
  rotate_left
  · intro w hSw; (try dsimp only at hSw); go_simp; try with_reducible rfl
  simp only [Act.put, List.getElem_toArray, List.getElem_cons_zero, List.getElem_cons_succ, List.setIfInBounds_toArray, List.set_cons_zero, List.set_cons_succ]
  refine wpAnyH_done (by kernel_rfl) ?_ _
  refine NoPanic.normal ?_
  have Hfin := Lib.hid hfin
  clear hfin
  clear hHeld2
  go_wp2_with fail
  go_ret
  exact ⟨rfl, Hfin.out⟩
  theorem walk_IrNodes (w : World) (av0 : Value) (x0 : NodeD) (ha0 : NumsAt .i64 w w.heap.size av0 x0.args) (wf0 : NodeWf x0) :
    Calls Try.prog 4 #[.agg (ncells x0 av0).toArray] w fun e w' => e = .returned (.bool true) ∧ Below w.heap.size w w' := nodes_core w x0 av0 ha0 wf0.len
end Go.Proofs.Ytfjalejlbegkeaa
  