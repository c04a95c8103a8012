/- Walk of the checker's question whether all is well with a call. Conditions: checker and node lie in memory. -/
import Derived.Test.YtnfjjliiajaijaaDoorPkAA
import Derived.Test.YtnfjjliiajaijaaDoorPkAD
set_option linter.unusedVariables false
set_option linter.unusedSimpArgs false
set_option maxRecDepth 100000
set_option maxHeartbeats 10000000
namespace Go.Proofs.YtnfjjliiajaijaaDoor
open Go.RowKit

theorem nodecall_ir {w : World} {B cb : Nat} {allv : Value} {gs : List GraphD} {ga : Addr} {g : GraphD} {pv kv iv nv : Value} {bound : Bool} (h : Ck w B cb allv gs ga g pv kv iv nv bound)
  (hpar : ∀ f ∈ gs, ∀ p ∈ f.params, 0 ≤ p ∧ p < f.kinds.length) (hgl : gs.length ≤ 16) (x : NodeD) (av : Value) (D : Nat) (hD : D ≤ w.heap.size) (hav : NumsAt .i64 w D av x.args) (hal : x.args.length ≤ 140737488351232) (hpl : ∀ f ∈ gs, f.params.length ≤ 4) (hkl : ∀ f ∈ gs, f.kinds.length ≤ 1024) (hop : x.op = 11) :
  Calls Tryd.prog 33 #[.pointer (some ⟨cb, 0, none⟩), .agg (ncells x av).toArray] w fun e w' => e = .returned (.bool (nodeB gs g bound x)) ∧ Below w.heap.size w w' := by
 obtain ⟨r, hr⟩ : ∃ r, nodeB gs g bound x = r := ⟨_, rfl⟩
 rw [hr]
 unfold nodeB at hr
 obtain ⟨r2, hr2⟩ : ∃ r2, opB gs g bound x = r2 := ⟨_, rfl⟩
 rw [hr2] at hr
 obtain ⟨G, hG⟩ : ∃ G, G = w.heap.size := ⟨_, rfl⟩
 obtain ⟨NC, hNC⟩ : ∃ NC : Array Value, NC = (ncells x av).toArray := ⟨_, rfl⟩
 rw [← hNC]
 have hP := Blk.new w 55 NC
 have hb := (Below.refl w.heap.size w).alloc (Nat.le_refl _) (.cells NC 55)
 have hC := h.below hb
 have hA := hav.below (hb.mono hD)
 have hnx := next_any (w.alloc (.cells NC 55)) x av
 rw [← hNC] at hnx
 obtain ⟨V, hV⟩ : ∃ V, V = w.alloc (.cells NC 55) := ⟨_, rfl⟩
 rw [← hV] at hC hb hA hP hnx
 have hGV : G < V.heap.size := by rw [hV, World.size_alloc, hG]; omega
 rw [← hG] at hP
 obtain ⟨NA, nn, nc, css, rfl, _, _, hnn, hrest⟩ := hC.gm.nodes
 have hNS : NC.size = 12 := by rw [hNC]; rfl
 obtain ⟨Hrest, Hb, HA, HC, Hr, Hr2, HP, H⟩ := hd8 hrest hb hA hC hr hr2 hP h
 obtain ⟨Hpar, Hpl, HNC, HV, Hkl, HG, Hnx, Hnn⟩ := hd8 hpar hpl hNC hV hkl hG hnx hnn
 obtain ⟨Hav, HNS⟩ := hd2 hav hNS
 clear hNS hav hnn hnx hG hkl hV hNC hpl hpar h hP hr2 hr hC hA hb hrest
 go_enter Tryd.func33, Tryd.ntmps33
 go_upto_region 1 with fail
 rw [← HV.out, ← HG.out]
 have hrange : V.rangeAt G 0 (ncells x av) := fun j v hv => by
  rw [HP.out.cell (0 + j), HNC.out, Nat.zero_add, List.getElem?_toArray]
  exact hv
 have hag : (ncells x av).toArray = NC := HNC.out.symm
 have Hrange := Lib.hid hrange
 clear hrange
 go_wp2_with (refine wpList_load_mid rfl 55 _ rfl G 0 rfl (ncells x av) _ Hrange.out Tryd.underlying55 rfl (by kernel_rfl) ?_)
 refine Hnx.out.mono ?_
 rintro e w1 ⟨⟨v, rfl, hL⟩, hb1⟩
 obtain ⟨LA, lc, rfl, _, hlc, hLr⟩ := hL
 obtain ⟨L, hLe⟩ : ∃ L, nextL x = L := ⟨_, rfl⟩
 obtain ⟨m, hm⟩ : ∃ m, L.length = m := ⟨_, rfl⟩
 rw [hLe] at hLr ⊢
 rw [hm] at hLr ⊢
 have hm2 : m ≤ 2 := by
  rw [← hm, ← hLe]
  unfold nextL
  repeat' split
  all_goals simp
 have hC1 := HC.out.below hb1
 have hbb1 := Hb.out.trans (hb1.mono Hb.out.size)
 have hP1 := HP.out.below hb1 hGV
 have hG1 : G < w1.heap.size := by have := hb1.size; omega
 have hA1 := HA.out.below (hb1.mono (by have := Hb.out.size; omega))
 have hrA := Hr.out
 rw [hLe] at hrA
 obtain ⟨HC1, Hbb1, HP1, HLr, HLe, Hm, HrA, HA1⟩ := hd8 hC1 hbb1 hP1 hLr hLe hm hrA hA1
 clear hA1 hrA hm hLe hLr hP1 hbb1 hC1
 clear hb1
 go_wp2_with fail
 go_loopw [10] (fun i wq => ∃ j : Nat, j ≤ m ∧ i = .int .i64 j ∧ wq = w1 ∧ Hid (∀ t ∈ L.take j, (decide (0 ≤ t) && decide (t < g.nodes.length)) = true)) (fun i _ => m - (intOf i).toNat)
 case atStart => exact ⟨0, by omega, rfl, rfl, (show ∀ t ∈ L.take 0, (decide (0 ≤ t) && decide (t < g.nodes.length)) = true from fun t ht => by simp at ht)⟩
 case round =>
  obtain ⟨j, hj, rfl, hwr, hall⟩ := hrel
  subst hwr
  by_cases hjm : j < m
  ·obtain ⟨ad, u0, hAd, _, hu0, hce⟩ := HLr.out.at_ hjm
   subst hAd
   obtain ⟨p, hpj, rfl⟩ : ∃ p, L[j]? = some p ∧ u0 = .int .i64 p := by
    rw [List.getElem?_map, Option.map_eq_some_iff] at hu0
    obtain ⟨x, h1, h2⟩ := hu0
    exact ⟨x, h1, h2.symm⟩
   have hmem := List.mem_of_getElem? hpj
   have hjI : (j : Int) < m := by omega
   have g6 := HC1.out.gm.c6
   have kc1 := Blk.cell HC1.out.blk 1
   simp only [List.getElem?_toArray, List.getElem?_cons_zero, List.getElem?_cons_succ] at kc1
   have hbad : (decide (0 ≤ p) && decide (p < g.nodes.length)) = false → r = false := fun hf => by
    rw [← HrA.out]
    rcases hq : L.all (fun t => decide (0 ≤ t) && decide (t < g.nodes.length)) with _ | _
    ·rfl
    ·rw [List.all_eq_true.1 hq p hmem] at hf; cases hf
   clear hu0
   by_cases c0 : 0 ≤ p
   ·by_cases c1 : p < nn
    ·have hs : ∀ t ∈ L.take (j + 1), (decide (0 ≤ t) && decide (t < g.nodes.length)) = true := fun t ht => by
      rw [List.take_add_one, hpj] at ht
      rcases List.mem_append.1 ht with ht | ht
      ·exact hall.out t ht
      ·simp at ht; rw [ht, Hnn.out]; simp [c0, c1]
     have c0' : ¬ p < 0 := by omega
     have c1' : ¬ (nn : Int) ≤ p := by omega
     obtain ⟨Hs, Hall, Hpj, Hmem, Hbad⟩ := hd5 hs hall hpj hmem hbad
     clear hbad hmem hpj hall hs
     clear c0 c1
     go_wp2_with fail
     exact ⟨⟨j + 1, by omega, by go_num, trivial, Lib.hid Hs.out⟩, by simp [intOf]; omega⟩
    ·have hs := hbad (by rw [Hnn.out]; simp [c1])
     have c0' : ¬ p < 0 := by omega
     have c1' : (nn : Int) ≤ p := by omega
     obtain ⟨Hs, Hall, Hpj, Hmem, Hbad⟩ := hd5 hs hall hpj hmem hbad
     clear hbad hmem hpj hall hs
     clear c0 c1
     go_wp2_with fail
     go_ret
     rw [Hs.out]
     exact ⟨rfl, Hbb1.out⟩
   ·have hs := hbad (by simp [c0])
    have c0' : p < 0 := by omega
    obtain ⟨Hs, Hall, Hpj, Hmem, Hbad⟩ := hd5 hs hall hpj hmem hbad
    clear hbad hmem hpj hall hs
    clear c0
    go_wp2_with fail
    go_ret
    rw [Hs.out]
    exact ⟨rfl, Hbb1.out⟩
  ·have hrr : r2 = r := by
    have h1 := HrA.out
    rw [List.take_of_length_le (by rw [Hm.out]; omega)] at hall
    rw [List.all_eq_true.2 hall.out, Bool.true_and] at h1
    exact h1
   have HCq := HC1
   have Hbnd := Hbb1
   have hNC2 := HNC.out
   obtain ⟨op, byo, d, e_, a, b, f, cell, imm, args, next, els⟩ := x
   have hPq := HP1.out
   rw [hNC2] at hPq
   have hPq : Blk wr G 55 #[.int .u8 op, .int .u8 byo, .int .i64 d, .int .i64 e_, .int .i64 a, .int .i64 b, .int .i64 f, .int .i64 cell, .int .u64 imm, av, .int .i64 next, .int .i64 els] := hPq
   have kp0 := Blk.cell hPq 0
   have kp1 := Blk.cell hPq 1
   have kp2 := Blk.cell hPq 2
   have kp3 := Blk.cell hPq 3
   have kp4 := Blk.cell hPq 4
   have kp5 := Blk.cell hPq 5
   have kp6 := Blk.cell hPq 6
   have kp7 := Blk.cell hPq 7
   simp only [List.getElem?_toArray, List.getElem?_cons_zero, List.getElem?_cons_succ] at kp0 kp1 kp2 kp3 kp4 kp5 kp6 kp7
   obtain ⟨Hrr, Hall, HNC2, HPq⟩ := hd4 hrr hall hNC2 hPq
   clear hPq hNC2 hall hrr
   have hjI : ¬ (j : Int) < m := by omega
   simp only at hop
   subst hop
   have hres : (argsB gs g bound ⟨11, byo, d, e_, a, b, f, cell, imm, args, next, els⟩ && (decide (d = -1) || (isB g bound 0 [d] && (match gs[f.toNat]? with | none => false | some f => f.result) && (!bound || decide (d = 0))))) = r2 := Hr2.out
   obtain ⟨ba, hba⟩ : ∃ ba, argsB gs g bound ⟨11, byo, d, e_, a, b, f, cell, imm, args, next, els⟩ = ba := ⟨_, rfl⟩
   have hwd : Below wr.heap.size wr wr.drew := (Below.refl wr.heap.size wr).drew
   have hCd := HCq.out.below hwd
   have har := args_any hCd Hpar.out hgl ⟨11, byo, d, e_, a, b, f, cell, imm, args, next, els⟩ av D (by have := HCq.out.blk.lt; have := Hbnd.out.size; show D ≤ wr.heap.size; omega) (HA1.out.below (hwd.mono (by have := HCq.out.blk.lt; have := Hbnd.out.size; omega))) hal Hpl.out Hkl.out
   rw [hba, ← HNC2.out] at har
   rw [hba] at hres
   have hrange2 : wr.drew.rangeAt G 0 (ncells ⟨11, byo, d, e_, a, b, f, cell, imm, args, next, els⟩ av) := fun j v hv => by
    show wr.cell? _ = _
    rw [HPq.out.cell (0 + j), Nat.zero_add]
    exact (List.getElem?_toArray ..).trans hv
   obtain ⟨GA, gc, hga, _, _⟩ := HCq.out.all.slice
   have hall0 := HCq.out.blk
   rw [hga] at hall0
   have kc0 := Blk.cell hall0 0
   have kc2 := Blk.cell hall0 2
   simp only [List.getElem?_toArray, List.getElem?_cons_zero, List.getElem?_cons_succ] at kc0 kc2
   obtain ⟨Z, hZ⟩ : ∃ Z, gs.length = Z := ⟨_, rfl⟩
   rw [hZ] at kc0
   have hcbl := HCq.out.blk.lt
   obtain ⟨Hres, Har, Hrange2, Hga, Hall0, HCd, Hba, Hwd⟩ := hd8 hres har hrange2 hga hall0 hCd hba hwd
   have HZ := Lib.hid hZ
   clear hZ hwd hba hCd hall0 hga hrange2 har hres
   have hnc : (ncells ⟨11, byo, d, e_, a, b, f, cell, imm, args, next, els⟩ av).length = 12 := rfl
   have HLN := Lib.hid hnc
   clear hnc
   cases ba
   case false =>
    have hs : false = r2 := by rw [← Hres.out]; rfl
    have Hs := Lib.hid hs
    clear hs
    go_upto_region 37 with fail
    clear kp0 kp1 kp2 kp3 kp4 kp5 kp6 kp7
    refine wp_region_noPanic ?_
    refine wp_region_held_drew (S := fun W => W.rangeAt G 0 (ncells ⟨11, byo, d, e_, a, b, f, cell, imm, args, next, els⟩ av)) (by kernel_rfl) Hrange2.out (fun hHeld => ?_)
    refine wpAnyH_tk 0 ?_
    refine wpAnyH_take (i := 1) rfl (by kernel_rfl) (by kernel_rfl) (by kernel_rfl) (fun _ _ _ h => h) (yieldsIf_load_mid (by rfl) 55 _ rfl G 0 rfl (ncells ⟨11, byo, d, e_, a, b, f, cell, imm, args, next, els⟩ av) _ (fun w h => h) Tryd.underlying55 rfl (by kernel_rfl)) (by assumption) ?_
    try simp only [Act.put, List.getElem_toArray, List.getElem_cons_zero, List.getElem_cons_succ, List.setIfInBounds_toArray, List.set_cons_zero, List.set_cons_succ]
    refine wpAnyH_ready (rs := [2]) (by kernel_rfl) (by simp) ?_
    refine AllReadyH.cons rfl (fun K hK => ?_) AllReadyH.nil
    go_simp
    refine Har.out.mono ?_
    rintro e w9 ⟨rfl, hb9⟩
    have hr9 : w9.rangeAt G 0 (ncells ⟨11, byo, d, e_, a, b, f, cell, imm, args, next, els⟩ av) := fun j v hv => (hb9.cell (p := ⟨G, 0 + j, none⟩) HPq.out.lt).trans (Hrange2.out j v hv)
    have hfin := Hbnd.out.trans ((Hwd.out.trans (hb9.mono Hwd.out.size)).mono Hbnd.out.size)
    refine hK.out _ _ hr9 (fun hHeld2 => ?_)
    obtain ⟨Hfin, Hb9, Hr9⟩ := hd3 hfin hb9 hr9
    clear hr9 hb9 hfin
    clear hK K hHeld
    try simp only [Act.put, List.getElem_toArray, List.getElem_cons_zero, List.getElem_cons_succ, List.setIfInBounds_toArray, List.set_cons_zero, List.set_cons_succ]
    refine wpAnyH_tk 3 ?_
    refine wpAnyH_take (i := 4) (v := undef) rfl (by kernel_rfl) (by kernel_rfl) (by kernel_rfl) (fun _ _ _ h => h) (Or.inr ⟨by rfl, rfl⟩) (by assumption) ?_
    simp only [Act.put, List.getElem_toArray, List.getElem_cons_zero, List.getElem_cons_succ, List.setIfInBounds_toArray, List.set_cons_zero, List.set_cons_succ]
    refine wpAnyH_take (i := 5) (v := undef) rfl (by kernel_rfl) (by kernel_rfl) (by kernel_rfl) (fun _ _ _ h => h) (Or.inr ⟨by rfl, rfl⟩) (by assumption) ?_
    simp only [Act.put, List.getElem_toArray, List.getElem_cons_zero, List.getElem_cons_succ, List.setIfInBounds_toArray, List.set_cons_zero, List.set_cons_succ]
    refine wpAnyH_take (i := 6) (v := undef) rfl (by kernel_rfl) (by kernel_rfl) (by kernel_rfl) (fun _ _ _ h => h) (Or.inr ⟨by rfl, rfl⟩) (by assumption) ?_
    simp only [Act.put, List.getElem_toArray, List.getElem_cons_zero, List.getElem_cons_succ, List.setIfInBounds_toArray, List.set_cons_zero, List.set_cons_succ]
    refine wpAnyH_take (i := 7) (v := undef) rfl (by kernel_rfl) (by kernel_rfl) (by kernel_rfl) (fun _ _ _ h => h) (Or.inr ⟨by rfl, rfl⟩) (by assumption) ?_
    simp only [Act.put, List.getElem_toArray, List.getElem_cons_zero, List.getElem_cons_succ, List.setIfInBounds_toArray, List.set_cons_zero, List.set_cons_succ]
    refine wpAnyH_take (i := 8) (v := undef) rfl (by kernel_rfl) (by kernel_rfl) (by kernel_rfl) (fun _ _ _ h => h) (Or.inr ⟨by rfl, rfl⟩) (by assumption) ?_
    simp only [Act.put, List.getElem_toArray, List.getElem_cons_zero, List.getElem_cons_succ, List.setIfInBounds_toArray, List.set_cons_zero, List.set_cons_succ]
    refine wpAnyH_take (i := 9) (v := undef) rfl (by kernel_rfl) (by kernel_rfl) (by kernel_rfl) (fun _ _ _ h => h) (Or.inr ⟨by rfl, rfl⟩) (by assumption) ?_
    simp only [Act.put, List.getElem_toArray, List.getElem_cons_zero, List.getElem_cons_succ, List.setIfInBounds_toArray, List.set_cons_zero, List.set_cons_succ]
    refine wpAnyH_take (i := 10) (v := undef) rfl (by kernel_rfl) (by kernel_rfl) (by kernel_rfl) (fun _ _ _ h => h) (Or.inr ⟨by rfl, rfl⟩) (by assumption) ?_
    simp only [Act.put, List.getElem_toArray, List.getElem_cons_zero, List.getElem_cons_succ, List.setIfInBounds_toArray, List.set_cons_zero, List.set_cons_succ]
    refine wpAnyH_take (i := 11) (v := undef) rfl (by kernel_rfl) (by kernel_rfl) (by kernel_rfl) (fun _ _ _ h => h) (Or.inr ⟨by rfl, rfl⟩) (by assumption) ?_
    simp only [Act.put, List.getElem_toArray, List.getElem_cons_zero, List.getElem_cons_succ, List.setIfInBounds_toArray, List.set_cons_zero, List.set_cons_succ]
    refine wpAnyH_take (i := 12) (v := undef) rfl (by kernel_rfl) (by kernel_rfl) (by kernel_rfl) (fun _ _ _ h => h) (Or.inr ⟨by rfl, rfl⟩) (by assumption) ?_
    simp only [Act.put, List.getElem_toArray, List.getElem_cons_zero, List.getElem_cons_succ, List.setIfInBounds_toArray, List.set_cons_zero, List.set_cons_succ]
    refine wpAnyH_take (i := 13) (v := undef) rfl (by kernel_rfl) (by kernel_rfl) (by kernel_rfl) (fun _ _ _ h => h) (Or.inr ⟨by rfl, rfl⟩) (by assumption) ?_
    simp only [Act.put, List.getElem_toArray, List.getElem_cons_zero, List.getElem_cons_succ, List.setIfInBounds_toArray, List.set_cons_zero, List.set_cons_succ]
    refine wpAnyH_take (i := 14) (v := undef) rfl (by kernel_rfl) (by kernel_rfl) (by kernel_rfl) (fun _ _ _ h => h) (Or.inr ⟨by rfl, rfl⟩) (by assumption) ?_
    simp only [Act.put, List.getElem_toArray, List.getElem_cons_zero, List.getElem_cons_succ, List.setIfInBounds_toArray, List.set_cons_zero, List.set_cons_succ]
    refine wpAnyH_take (i := 15) (v := undef) rfl (by kernel_rfl) (by kernel_rfl) (by kernel_rfl) (fun _ _ _ h => h) (Or.inr ⟨by rfl, rfl⟩) (by assumption) ?_
    simp only [Act.put, List.getElem_toArray, List.getElem_cons_zero, List.getElem_cons_succ, List.setIfInBounds_toArray, List.set_cons_zero, List.set_cons_succ]
    refine wpAnyH_take (i := 16) (v := undef) rfl (by kernel_rfl) (by kernel_rfl) (by kernel_rfl) (fun _ _ _ h => h) (Or.inr ⟨by rfl, rfl⟩) (by assumption) ?_
    simp only [Act.put, List.getElem_toArray, List.getElem_cons_zero, List.getElem_cons_succ, List.setIfInBounds_toArray, List.set_cons_zero, List.set_cons_succ]
    refine wpAnyH_take (i := 17) (v := undef) rfl (by kernel_rfl) (by kernel_rfl) (by kernel_rfl) (fun _ _ _ h => h) (Or.inr ⟨by rfl, rfl⟩) (by assumption) ?_
    simp only [Act.put, List.getElem_toArray, List.getElem_cons_zero, List.getElem_cons_succ, List.setIfInBounds_toArray, List.set_cons_zero, List.set_cons_succ]
    refine wpAnyH_take (i := 18) (v := undef) rfl (by kernel_rfl) (by kernel_rfl) (by kernel_rfl) (fun _ _ _ h => h) (Or.inr ⟨by rfl, rfl⟩) (by assumption) ?_
    simp only [Act.put, List.getElem_toArray, List.getElem_cons_zero, List.getElem_cons_succ, List.setIfInBounds_toArray, List.set_cons_zero, List.set_cons_succ]
    refine wpAnyH_take (i := 19) (v := undef) rfl (by kernel_rfl) (by kernel_rfl) (by kernel_rfl) (fun _ _ _ h => h) (Or.inr ⟨by rfl, rfl⟩) (by assumption) ?_
    simp only [Act.put, List.getElem_toArray, List.getElem_cons_zero, List.getElem_cons_succ, List.setIfInBounds_toArray, List.set_cons_zero, List.set_cons_succ]
    refine wpAnyH_take (i := 20) (v := undef) rfl (by kernel_rfl) (by kernel_rfl) (by kernel_rfl) (fun _ _ _ h => h) (Or.inr ⟨by rfl, rfl⟩) (by assumption) ?_
    simp only [Act.put, List.getElem_toArray, List.getElem_cons_zero, List.getElem_cons_succ, List.setIfInBounds_toArray, List.set_cons_zero, List.set_cons_succ]
    refine wpAnyH_take (i := 21) (v := undef) rfl (by kernel_rfl) (by kernel_rfl) (by kernel_rfl) (fun _ _ _ h => h) (Or.inr ⟨by rfl, rfl⟩) (by assumption) ?_
    simp only [Act.put, List.getElem_toArray, List.getElem_cons_zero, List.getElem_cons_succ, List.setIfInBounds_toArray, List.set_cons_zero, List.set_cons_succ]
    refine wpAnyH_take (i := 22) (v := undef) rfl (by kernel_rfl) (by kernel_rfl) (by kernel_rfl) (fun _ _ _ h => h) (Or.inr ⟨by rfl, rfl⟩) (by assumption) ?_
    simp only [Act.put, List.getElem_toArray, List.getElem_cons_zero, List.getElem_cons_succ, List.setIfInBounds_toArray, List.set_cons_zero, List.set_cons_succ]
    refine wpAnyH_take (i := 23) (v := undef) rfl (by kernel_rfl) (by kernel_rfl) (by kernel_rfl) (fun _ _ _ h => h) (Or.inr ⟨by rfl, rfl⟩) (by assumption) ?_
    simp only [Act.put, List.getElem_toArray, List.getElem_cons_zero, List.getElem_cons_succ, List.setIfInBounds_toArray, List.set_cons_zero, List.set_cons_succ]
    refine wpAnyH_take (i := 24) (v := undef) rfl (by kernel_rfl) (by kernel_rfl) (by kernel_rfl) (fun _ _ _ h => h) (Or.inr ⟨by rfl, rfl⟩) (by assumption) ?_
    simp only [Act.put, List.getElem_toArray, List.getElem_cons_zero, List.getElem_cons_succ, List.setIfInBounds_toArray, List.set_cons_zero, List.set_cons_succ]
    refine wpAnyH_take (i := 25) (v := undef) rfl (by kernel_rfl) (by kernel_rfl) (by kernel_rfl) (fun _ _ _ h => h) (Or.inr ⟨by rfl, rfl⟩) (by assumption) ?_
    simp only [Act.put, List.getElem_toArray, List.getElem_cons_zero, List.getElem_cons_succ, List.setIfInBounds_toArray, List.set_cons_zero, List.set_cons_succ]
    refine wpAnyH_take (i := 26) (v := undef) rfl (by kernel_rfl) (by kernel_rfl) (by kernel_rfl) (fun _ _ _ h => h) (Or.inr ⟨by rfl, rfl⟩) (by assumption) ?_
    simp only [Act.put, List.getElem_toArray, List.getElem_cons_zero, List.getElem_cons_succ, List.setIfInBounds_toArray, List.set_cons_zero, List.set_cons_succ]
    refine wpAnyH_take (i := 27) (v := undef) rfl (by kernel_rfl) (by kernel_rfl) (by kernel_rfl) (fun _ _ _ h => h) (Or.inr ⟨by rfl, rfl⟩) (by assumption) ?_
    simp only [Act.put, List.getElem_toArray, List.getElem_cons_zero, List.getElem_cons_succ, List.setIfInBounds_toArray, List.set_cons_zero, List.set_cons_succ]
    refine wpAnyH_take (i := 28) (v := undef) rfl (by kernel_rfl) (by kernel_rfl) (by kernel_rfl) (fun _ _ _ h => h) (Or.inr ⟨by rfl, rfl⟩) (by assumption) ?_
    simp only [Act.put, List.getElem_toArray, List.getElem_cons_zero, List.getElem_cons_succ, List.setIfInBounds_toArray, List.set_cons_zero, List.set_cons_succ]
    refine wpAnyH_take (i := 29) (v := undef) rfl (by kernel_rfl) (by kernel_rfl) (by kernel_rfl) (fun _ _ _ h => h) (Or.inr ⟨by rfl, rfl⟩) (by assumption) ?_
    simp only [Act.put, List.getElem_toArray, List.getElem_cons_zero, List.getElem_cons_succ, List.setIfInBounds_toArray, List.set_cons_zero, List.set_cons_succ]
    refine wpAnyH_take (i := 30) (v := undef) rfl (by kernel_rfl) (by kernel_rfl) (by kernel_rfl) (fun _ _ _ h => h) (Or.inr ⟨by rfl, rfl⟩) (by assumption) ?_
    simp only [Act.put, List.getElem_toArray, List.getElem_cons_zero, List.getElem_cons_succ, List.setIfInBounds_toArray, List.set_cons_zero, List.set_cons_succ]
    refine wpAnyH_take (i := 31) (v := undef) rfl (by kernel_rfl) (by kernel_rfl) (by kernel_rfl) (fun _ _ _ h => h) (Or.inr ⟨by rfl, rfl⟩) (by assumption) ?_
    simp only [Act.put, List.getElem_toArray, List.getElem_cons_zero, List.getElem_cons_succ, List.setIfInBounds_toArray, List.set_cons_zero, List.set_cons_succ]
    refine wpAnyH_take (i := 32) (v := undef) rfl (by kernel_rfl) (by kernel_rfl) (by kernel_rfl) (fun _ _ _ h => h) (Or.inr ⟨by rfl, rfl⟩) (by assumption) ?_
    simp only [Act.put, List.getElem_toArray, List.getElem_cons_zero, List.getElem_cons_succ, List.setIfInBounds_toArray, List.set_cons_zero, List.set_cons_succ]
    refine wpAnyH_take (i := 33) (v := undef) rfl (by kernel_rfl) (by kernel_rfl) (by kernel_rfl) (fun _ _ _ h => h) (Or.inr ⟨by rfl, rfl⟩) (by assumption) ?_
    simp only [Act.put, List.getElem_toArray, List.getElem_cons_zero, List.getElem_cons_succ, List.setIfInBounds_toArray, List.set_cons_zero, List.set_cons_succ]
    refine wpAnyH_take (i := 34) (v := undef) rfl (by kernel_rfl) (by kernel_rfl) (by kernel_rfl) (fun _ _ _ h => h) (Or.inr ⟨by rfl, rfl⟩) (by assumption) ?_
    simp only [Act.put, List.getElem_toArray, List.getElem_cons_zero, List.getElem_cons_succ, List.setIfInBounds_toArray, List.set_cons_zero, List.set_cons_succ]
    refine wpAnyH_take (i := 35) (v := undef) rfl (by kernel_rfl) (by kernel_rfl) (by kernel_rfl) (fun _ _ _ h => h) (Or.inr ⟨by rfl, rfl⟩) (by assumption) ?_
    simp only [Act.put, List.getElem_toArray, List.getElem_cons_zero, List.getElem_cons_succ, List.setIfInBounds_toArray, List.set_cons_zero, List.set_cons_succ]
    refine wpAnyH_take (i := 36) (v := undef) rfl (by kernel_rfl) (by kernel_rfl) (by kernel_rfl) (fun _ _ _ h => h) (Or.inr ⟨by rfl, rfl⟩) (by assumption) ?_
    simp only [Act.put, List.getElem_toArray, List.getElem_cons_zero, List.getElem_cons_succ, List.setIfInBounds_toArray, List.set_cons_zero, List.set_cons_succ]
    refine wpAnyH_tk 37 ?_
    refine wpAnyH_tk 38 ?_
    refine wpAnyH_done (by kernel_rfl) ?_ _
    refine NoPanic.normal ?_
    clear hHeld2
    go_wp2_with fail
    go_ret
    rw [← Hrr.out, ← Hs.out]
    exact ⟨rfl, Hfin.out⟩
   case true =>
    have hba := Hba.out
    unfold argsB at hba
    simp only [Bool.and_eq_true, decide_eq_true_eq] at hba
    obtain ⟨hf0, hfm⟩ := hba
    obtain ⟨F, rfl⟩ := Int.eq_ofNat_of_zero_le hf0
    rw [Int.toNat_natCast] at hfm
    obtain ⟨ff, hff⟩ : ∃ ff, gs[F]? = some ff := by
     cases hq : gs[F]? with
     | none => rw [hq] at hfm; cases hfm
     | some y => exact ⟨y, rfl⟩
    clear hfm
    have hFZ : F < Z := by rw [← HZ.out]; exact (List.getElem?_eq_some_iff.1 hff).1
    have hFZi : (F : Int) < Z := by omega
    have hallq := HCq.out.all
    rw [Hga.out] at hallq
    obtain ⟨fad, fpv, fkv, fiv, fnv, hGA, _, hFM⟩ := hallq.at_ hff
    subst hGA
    have m4 := hFM.c4
    have lf : (fad.add (F * 8)).block < wr.heap.size := Nat.lt_of_lt_of_le hFM.lt (by have := HCq.out.le; omega)
    have hs0 := Hres.out
    rw [Int.toNat_natCast, hff] at hs0
    simp only [Bool.true_and] at hs0
    obtain ⟨fr, hfr⟩ : ∃ fr, ff.result = fr := ⟨_, rfl⟩
    rw [hfr] at hs0 m4
    have lG := HPq.out.lt
    have kg2 : wr.drew.cell? ⟨G, 2, none⟩ = some (.int .i64 d) := kp2
    have kg6 : wr.drew.cell? ⟨G, 6, none⟩ = some (.int .i64 F) := kp6
    obtain ⟨Hs0, Hff, Hallq, HFM, Hfr⟩ := hd5 hs0 hff hallq hFM hfr
    clear hfr hFM hallq hff hs0
    go_upto_region 37 with fail
    clear kp0 kp1 kp2 kp3 kp4 kp5 kp6 kp7
    refine wp_region_noPanic ?_
    refine wp_region_held_drew (S := fun W => W.rangeAt G 0 (ncells ⟨11, byo, d, e_, a, b, ↑F, cell, imm, args, next, els⟩ av) ∧ W.cell? ⟨G, 2, none⟩ = some (.int .i64 d) ∧ W.cell? ⟨G, 6, none⟩ = some (.int .i64 F) ∧ W.cell? ⟨cb, 0, none⟩ = some (.slice (some fad) Z gc) ∧ W.cell? ⟨cb, 2, none⟩ = some (.bool bound) ∧ W.cell? ⟨(fad.add (F * 8)).block, (fad.add (F * 8)).off + 4, none⟩ = some (.bool fr)) (by kernel_rfl) ⟨Hrange2.out, kg2, kg6, kc0, kc2, m4⟩ (fun hHeld => ?_)
    refine wpAnyH_tk 0 ?_
    refine wpAnyH_take (i := 1) rfl (by kernel_rfl) (by kernel_rfl) (by kernel_rfl) (fun _ _ _ h => h) (yieldsIf_load_mid (by rfl) 55 _ rfl G 0 rfl (ncells ⟨11, byo, d, e_, a, b, ↑F, cell, imm, args, next, els⟩ av) _ (fun w h => h.1) Tryd.underlying55 rfl (by kernel_rfl)) (by assumption) ?_
    try simp only [Act.put, List.getElem_toArray, List.getElem_cons_zero, List.getElem_cons_succ, List.setIfInBounds_toArray, List.set_cons_zero, List.set_cons_succ]
    refine wpAnyH_ready (rs := [2]) (by kernel_rfl) (by simp) ?_
    refine AllReadyH.cons rfl (fun K hK => ?_) AllReadyH.nil
    go_simp
    refine Har.out.mono ?_
    rintro e w9 ⟨rfl, hb9⟩
    have hr9 : w9.rangeAt G 0 (ncells ⟨11, byo, d, e_, a, b, ↑F, cell, imm, args, next, els⟩ av) := fun j v hv => (hb9.cell (p := ⟨G, 0 + j, none⟩) lG).trans (Hrange2.out j v hv)
    have q2 := (hb9.cell (p := ⟨G, 2, none⟩) lG).trans kg2
    have q6 := (hb9.cell (p := ⟨G, 6, none⟩) lG).trans kg6
    have qc0 := (hb9.cell (p := ⟨cb, 0, none⟩) hcbl).trans kc0
    have qc2 := (hb9.cell (p := ⟨cb, 2, none⟩) hcbl).trans kc2
    have qm4 := (hb9.cell (p := ⟨(fad.add (F * 8)).block, (fad.add (F * 8)).off + 4, none⟩) lf).trans m4
    have hfin := Hbnd.out.trans ((Hwd.out.trans (hb9.mono Hwd.out.size)).mono Hbnd.out.size)
    have hC9 := HCd.out.below hb9
    refine hK.out _ _ ⟨hr9, q2, q6, qc0, qc2, qm4⟩ (fun hHeld2 => ?_)
    obtain ⟨Hfin, Hb9, Hr9, HC9⟩ := hd4 hfin hb9 hr9 hC9
    clear hC9 hr9 hb9 hfin
    clear hK K hHeld kg2 kg6 kc0 kc2 m4
    try simp only [Act.put, List.getElem_toArray, List.getElem_cons_zero, List.getElem_cons_succ, List.setIfInBounds_toArray, List.set_cons_zero, List.set_cons_succ]
    refine wpAnyH_tk 3 ?_
    by_cases hd : d = -1
    ·have hde : (d == -1) = true := by simp [hd]
     have hz : true = r2 := by rw [← Hs0.out]; simp [hd]
     obtain ⟨Hd, HZ0⟩ := hd2 hd hz
     clear hz hd
     refine wpAnyH_tk 4 ?_
     refine wpAnyH_tk 5 ?_
     refine wpAnyH_tk 6 ?_
     refine wpAnyH_tk 7 ?_
     refine wpAnyH_take (i := 8) (v := undef) rfl (by kernel_rfl) (by kernel_rfl) (by kernel_rfl) (fun _ _ _ h => h) (Or.inr ⟨by rfl, rfl⟩) (by assumption) ?_
     simp only [Act.put, List.getElem_toArray, List.getElem_cons_zero, List.getElem_cons_succ, List.setIfInBounds_toArray, List.set_cons_zero, List.set_cons_succ]
     refine wpAnyH_take (i := 9) (v := undef) rfl (by kernel_rfl) (by kernel_rfl) (by kernel_rfl) (fun _ _ _ h => h) (Or.inr ⟨by rfl, rfl⟩) (by assumption) ?_
     simp only [Act.put, List.getElem_toArray, List.getElem_cons_zero, List.getElem_cons_succ, List.setIfInBounds_toArray, List.set_cons_zero, List.set_cons_succ]
     refine wpAnyH_take (i := 10) (v := undef) rfl (by kernel_rfl) (by kernel_rfl) (by kernel_rfl) (fun _ _ _ h => h) (Or.inr ⟨by rfl, rfl⟩) (by assumption) ?_
     simp only [Act.put, List.getElem_toArray, List.getElem_cons_zero, List.getElem_cons_succ, List.setIfInBounds_toArray, List.set_cons_zero, List.set_cons_succ]
     refine wpAnyH_take (i := 11) (v := undef) rfl (by kernel_rfl) (by kernel_rfl) (by kernel_rfl) (fun _ _ _ h => h) (Or.inr ⟨by rfl, rfl⟩) (by assumption) ?_
     simp only [Act.put, List.getElem_toArray, List.getElem_cons_zero, List.getElem_cons_succ, List.setIfInBounds_toArray, List.set_cons_zero, List.set_cons_succ]
     refine wpAnyH_take (i := 12) (v := undef) rfl (by kernel_rfl) (by kernel_rfl) (by kernel_rfl) (fun _ _ _ h => h) (Or.inr ⟨by rfl, rfl⟩) (by assumption) ?_
     simp only [Act.put, List.getElem_toArray, List.getElem_cons_zero, List.getElem_cons_succ, List.setIfInBounds_toArray, List.set_cons_zero, List.set_cons_succ]
     refine wpAnyH_take (i := 13) (v := undef) rfl (by kernel_rfl) (by kernel_rfl) (by kernel_rfl) (fun _ _ _ h => h) (Or.inr ⟨by rfl, rfl⟩) (by assumption) ?_
     simp only [Act.put, List.getElem_toArray, List.getElem_cons_zero, List.getElem_cons_succ, List.setIfInBounds_toArray, List.set_cons_zero, List.set_cons_succ]
     refine wpAnyH_take (i := 14) (v := undef) rfl (by kernel_rfl) (by kernel_rfl) (by kernel_rfl) (fun _ _ _ h => h) (Or.inr ⟨by rfl, rfl⟩) (by assumption) ?_
     simp only [Act.put, List.getElem_toArray, List.getElem_cons_zero, List.getElem_cons_succ, List.setIfInBounds_toArray, List.set_cons_zero, List.set_cons_succ]
     refine wpAnyH_take (i := 15) (v := undef) rfl (by kernel_rfl) (by kernel_rfl) (by kernel_rfl) (fun _ _ _ h => h) (Or.inr ⟨by rfl, rfl⟩) (by assumption) ?_
     simp only [Act.put, List.getElem_toArray, List.getElem_cons_zero, List.getElem_cons_succ, List.setIfInBounds_toArray, List.set_cons_zero, List.set_cons_succ]
     refine wpAnyH_take (i := 16) (v := undef) rfl (by kernel_rfl) (by kernel_rfl) (by kernel_rfl) (fun _ _ _ h => h) (Or.inr ⟨by rfl, rfl⟩) (by assumption) ?_
     simp only [Act.put, List.getElem_toArray, List.getElem_cons_zero, List.getElem_cons_succ, List.setIfInBounds_toArray, List.set_cons_zero, List.set_cons_succ]
     refine wpAnyH_take (i := 17) (v := undef) rfl (by kernel_rfl) (by kernel_rfl) (by kernel_rfl) (fun _ _ _ h => h) (Or.inr ⟨by rfl, rfl⟩) (by assumption) ?_
     simp only [Act.put, List.getElem_toArray, List.getElem_cons_zero, List.getElem_cons_succ, List.setIfInBounds_toArray, List.set_cons_zero, List.set_cons_succ]
     refine wpAnyH_take (i := 18) (v := undef) rfl (by kernel_rfl) (by kernel_rfl) (by kernel_rfl) (fun _ _ _ h => h) (Or.inr ⟨by rfl, rfl⟩) (by assumption) ?_
     simp only [Act.put, List.getElem_toArray, List.getElem_cons_zero, List.getElem_cons_succ, List.setIfInBounds_toArray, List.set_cons_zero, List.set_cons_succ]
     refine wpAnyH_take (i := 19) (v := undef) rfl (by kernel_rfl) (by kernel_rfl) (by kernel_rfl) (fun _ _ _ h => h) (Or.inr ⟨by rfl, rfl⟩) (by assumption) ?_
     simp only [Act.put, List.getElem_toArray, List.getElem_cons_zero, List.getElem_cons_succ, List.setIfInBounds_toArray, List.set_cons_zero, List.set_cons_succ]
     refine wpAnyH_take (i := 20) (v := undef) rfl (by kernel_rfl) (by kernel_rfl) (by kernel_rfl) (fun _ _ _ h => h) (Or.inr ⟨by rfl, rfl⟩) (by assumption) ?_
     simp only [Act.put, List.getElem_toArray, List.getElem_cons_zero, List.getElem_cons_succ, List.setIfInBounds_toArray, List.set_cons_zero, List.set_cons_succ]
     refine wpAnyH_take (i := 21) (v := undef) rfl (by kernel_rfl) (by kernel_rfl) (by kernel_rfl) (fun _ _ _ h => h) (Or.inr ⟨by rfl, rfl⟩) (by assumption) ?_
     simp only [Act.put, List.getElem_toArray, List.getElem_cons_zero, List.getElem_cons_succ, List.setIfInBounds_toArray, List.set_cons_zero, List.set_cons_succ]
     refine wpAnyH_take (i := 22) (v := undef) rfl (by kernel_rfl) (by kernel_rfl) (by kernel_rfl) (fun _ _ _ h => h) (Or.inr ⟨by rfl, rfl⟩) (by assumption) ?_
     simp only [Act.put, List.getElem_toArray, List.getElem_cons_zero, List.getElem_cons_succ, List.setIfInBounds_toArray, List.set_cons_zero, List.set_cons_succ]
     refine wpAnyH_take (i := 23) (v := undef) rfl (by kernel_rfl) (by kernel_rfl) (by kernel_rfl) (fun _ _ _ h => h) (Or.inr ⟨by rfl, rfl⟩) (by assumption) ?_
     simp only [Act.put, List.getElem_toArray, List.getElem_cons_zero, List.getElem_cons_succ, List.setIfInBounds_toArray, List.set_cons_zero, List.set_cons_succ]
     refine wpAnyH_take (i := 24) (v := undef) rfl (by kernel_rfl) (by kernel_rfl) (by kernel_rfl) (fun _ _ _ h => h) (Or.inr ⟨by rfl, rfl⟩) (by assumption) ?_
     simp only [Act.put, List.getElem_toArray, List.getElem_cons_zero, List.getElem_cons_succ, List.setIfInBounds_toArray, List.set_cons_zero, List.set_cons_succ]
     refine wpAnyH_take (i := 25) (v := undef) rfl (by kernel_rfl) (by kernel_rfl) (by kernel_rfl) (fun _ _ _ h => h) (Or.inr ⟨by rfl, rfl⟩) (by assumption) ?_
     simp only [Act.put, List.getElem_toArray, List.getElem_cons_zero, List.getElem_cons_succ, List.setIfInBounds_toArray, List.set_cons_zero, List.set_cons_succ]
     refine wpAnyH_take (i := 26) (v := undef) rfl (by kernel_rfl) (by kernel_rfl) (by kernel_rfl) (fun _ _ _ h => h) (Or.inr ⟨by rfl, rfl⟩) (by assumption) ?_
     simp only [Act.put, List.getElem_toArray, List.getElem_cons_zero, List.getElem_cons_succ, List.setIfInBounds_toArray, List.set_cons_zero, List.set_cons_succ]
     refine wpAnyH_take (i := 27) (v := undef) rfl (by kernel_rfl) (by kernel_rfl) (by kernel_rfl) (fun _ _ _ h => h) (Or.inr ⟨by rfl, rfl⟩) (by assumption) ?_
     simp only [Act.put, List.getElem_toArray, List.getElem_cons_zero, List.getElem_cons_succ, List.setIfInBounds_toArray, List.set_cons_zero, List.set_cons_succ]
     refine wpAnyH_take (i := 28) (v := undef) rfl (by kernel_rfl) (by kernel_rfl) (by kernel_rfl) (fun _ _ _ h => h) (Or.inr ⟨by rfl, rfl⟩) (by assumption) ?_
     simp only [Act.put, List.getElem_toArray, List.getElem_cons_zero, List.getElem_cons_succ, List.setIfInBounds_toArray, List.set_cons_zero, List.set_cons_succ]
     refine wpAnyH_take (i := 29) (v := undef) rfl (by kernel_rfl) (by kernel_rfl) (by kernel_rfl) (fun _ _ _ h => h) (Or.inr ⟨by rfl, rfl⟩) (by assumption) ?_
     simp only [Act.put, List.getElem_toArray, List.getElem_cons_zero, List.getElem_cons_succ, List.setIfInBounds_toArray, List.set_cons_zero, List.set_cons_succ]
     refine wpAnyH_take (i := 30) (v := undef) rfl (by kernel_rfl) (by kernel_rfl) (by kernel_rfl) (fun _ _ _ h => h) (Or.inr ⟨by rfl, rfl⟩) (by assumption) ?_
     simp only [Act.put, List.getElem_toArray, List.getElem_cons_zero, List.getElem_cons_succ, List.setIfInBounds_toArray, List.set_cons_zero, List.set_cons_succ]
     refine wpAnyH_take (i := 31) (v := undef) rfl (by kernel_rfl) (by kernel_rfl) (by kernel_rfl) (fun _ _ _ h => h) (Or.inr ⟨by rfl, rfl⟩) (by assumption) ?_
     simp only [Act.put, List.getElem_toArray, List.getElem_cons_zero, List.getElem_cons_succ, List.setIfInBounds_toArray, List.set_cons_zero, List.set_cons_succ]
     refine wpAnyH_take (i := 32) (v := undef) rfl (by kernel_rfl) (by kernel_rfl) (by kernel_rfl) (fun _ _ _ h => h) (Or.inr ⟨by rfl, rfl⟩) (by assumption) ?_
     simp only [Act.put, List.getElem_toArray, List.getElem_cons_zero, List.getElem_cons_succ, List.setIfInBounds_toArray, List.set_cons_zero, List.set_cons_succ]
     refine wpAnyH_take (i := 33) (v := undef) rfl (by kernel_rfl) (by kernel_rfl) (by kernel_rfl) (fun _ _ _ h => h) (Or.inr ⟨by rfl, rfl⟩) (by assumption) ?_
     simp only [Act.put, List.getElem_toArray, List.getElem_cons_zero, List.getElem_cons_succ, List.setIfInBounds_toArray, List.set_cons_zero, List.set_cons_succ]
     refine wpAnyH_take (i := 34) (v := undef) rfl (by kernel_rfl) (by kernel_rfl) (by kernel_rfl) (fun _ _ _ h => h) (Or.inr ⟨by rfl, rfl⟩) (by assumption) ?_
     simp only [Act.put, List.getElem_toArray, List.getElem_cons_zero, List.getElem_cons_succ, List.setIfInBounds_toArray, List.set_cons_zero, List.set_cons_succ]
     refine wpAnyH_take (i := 35) (v := undef) rfl (by kernel_rfl) (by kernel_rfl) (by kernel_rfl) (fun _ _ _ h => h) (Or.inr ⟨by rfl, rfl⟩) (by assumption) ?_
     simp only [Act.put, List.getElem_toArray, List.getElem_cons_zero, List.getElem_cons_succ, List.setIfInBounds_toArray, List.set_cons_zero, List.set_cons_succ]
     refine wpAnyH_tk 36 ?_
     refine wpAnyH_tk 37 ?_
     refine wpAnyH_tk 38 ?_
     refine wpAnyH_done (by kernel_rfl) ?_ _
     refine NoPanic.normal ?_
     clear hHeld2 q2 q6 qc0 qc2 qm4
     go_wp2_with fail
     go_ret
     rw [← Hrr.out, ← HZ0.out]
     exact ⟨rfl, Hfin.out⟩
    ·have hde : (d == -1) = false := by simp [hd]
     have hal9 := (Below.refl w9.heap.size w9).alloc (Nat.le_refl _) (.cells #[.int .i64 d] 3)
     have hCal := HC9.out.below hal9
     have hfin2 := Hfin.out.trans (hal9.mono Hfin.out.size)
     have lG9 : G < w9.heap.size := Nat.lt_of_lt_of_le lG Hb9.out.size
     have lc9 : cb < w9.heap.size := Nat.lt_of_lt_of_le hcbl Hb9.out.size
     have lf9 : (fad.add (F * 8)).block < w9.heap.size := Nat.lt_of_lt_of_le lf Hb9.out.size
     have hrA : (w9.alloc (.cells #[.int .i64 d] 3)).rangeAt G 0 (ncells ⟨11, byo, d, e_, a, b, ↑F, cell, imm, args, next, els⟩ av) := fun j v hv => (hal9.cell (p := ⟨G, 0 + j, none⟩) lG9).trans (Hr9.out j v hv)
     have p2 := (hal9.cell (p := ⟨G, 2, none⟩) lG9).trans q2
     have p6 := (hal9.cell (p := ⟨G, 6, none⟩) lG9).trans q6
     have pc0 := (hal9.cell (p := ⟨cb, 0, none⟩) lc9).trans qc0
     have pc2 := (hal9.cell (p := ⟨cb, 2, none⟩) lc9).trans qc2
     have pm4 := (hal9.cell (p := ⟨(fad.add (F * 8)).block, (fad.add (F * 8)).off + 4, none⟩) lf9).trans qm4
     obtain ⟨bi, hbi⟩ : ∃ bi, isB g bound 0 [d] = bi := ⟨_, rfl⟩
     have hz := Hs0.out
     rw [hbi, show decide (d = -1) = false from decide_eq_false hd, Bool.false_or] at hz
     obtain ⟨Hd, Hal9, HCal, Hfin2, HrA, Hbi, HZ0⟩ := hd7 hd hal9 hCal hfin2 hrA hbi hz
     clear hz hbi hrA hfin2 hCal hal9 hd
     refine wpAnyH_tk 4 ?_
     refine wpAnyH_tk 5 ?_
     refine wpAnyH_tk 6 ?_
     refine wpAnyH_tk 7 ?_
     refine wpAnyH_tk 8 ?_
     refine wpAnyH_tk 9 ?_
     refine wpAnyH_tk 10 ?_
     refine wpAnyH_ready (rs := [11]) (by kernel_rfl) (by simp) ?_
     refine AllReadyH.cons rfl (fun K hK => ?_) AllReadyH.nil
     go_simp
     refine hK.out _ _ ⟨HrA.out, p2, p6, pc0, pc2, pm4⟩ (fun hHeld3 => ?_)
     clear hK K hHeld2 q2 q6 qc0 qc2 qm4
     try simp only [Act.put, List.getElem_toArray, List.getElem_cons_zero, List.getElem_cons_succ, List.setIfInBounds_toArray, List.set_cons_zero, List.set_cons_succ]
     refine wpAnyH_ready (rs := [12]) (by kernel_rfl) (by simp) ?_
     refine AllReadyH.cons rfl (fun K hK => ?_) AllReadyH.nil
     go_simp
     refine (is_any HCal.out 0 (w9.heap.size + 1) (some ⟨w9.heap.size, 0, none⟩) 1 1 [d] (Reads.new1 _ _ _) rfl (by omega)).mono ?_
     rintro e w8 ⟨rfl, rfl⟩
     rw [Hbi.out]
     refine hK.out _ _ ⟨HrA.out, p2, p6, pc0, pc2, pm4⟩ (fun hHeld4 => ?_)
     clear hK K hHeld3
     try simp only [Act.put, List.getElem_toArray, List.getElem_cons_zero, List.getElem_cons_succ, List.setIfInBounds_toArray, List.set_cons_zero, List.set_cons_succ]
     refine wpAnyH_tk 13 ?_
     cases bi
     ·have hz : false = r2 := HZ0.out
      have HZ1 := Lib.hid hz
      clear hz
      refine wpAnyH_take (i := 14) (v := undef) rfl (by kernel_rfl) (by kernel_rfl) (by kernel_rfl) (fun _ _ _ h => h) (Or.inr ⟨by rfl, rfl⟩) (by assumption) ?_
      simp only [Act.put, List.getElem_toArray, List.getElem_cons_zero, List.getElem_cons_succ, List.setIfInBounds_toArray, List.set_cons_zero, List.set_cons_succ]
      refine wpAnyH_take (i := 15) (v := undef) rfl (by kernel_rfl) (by kernel_rfl) (by kernel_rfl) (fun _ _ _ h => h) (Or.inr ⟨by rfl, rfl⟩) (by assumption) ?_
      simp only [Act.put, List.getElem_toArray, List.getElem_cons_zero, List.getElem_cons_succ, List.setIfInBounds_toArray, List.set_cons_zero, List.set_cons_succ]
      refine wpAnyH_take (i := 16) (v := undef) rfl (by kernel_rfl) (by kernel_rfl) (by kernel_rfl) (fun _ _ _ h => h) (Or.inr ⟨by rfl, rfl⟩) (by assumption) ?_
      simp only [Act.put, List.getElem_toArray, List.getElem_cons_zero, List.getElem_cons_succ, List.setIfInBounds_toArray, List.set_cons_zero, List.set_cons_succ]
      refine wpAnyH_take (i := 17) (v := undef) rfl (by kernel_rfl) (by kernel_rfl) (by kernel_rfl) (fun _ _ _ h => h) (Or.inr ⟨by rfl, rfl⟩) (by assumption) ?_
      simp only [Act.put, List.getElem_toArray, List.getElem_cons_zero, List.getElem_cons_succ, List.setIfInBounds_toArray, List.set_cons_zero, List.set_cons_succ]
      refine wpAnyH_take (i := 18) (v := undef) rfl (by kernel_rfl) (by kernel_rfl) (by kernel_rfl) (fun _ _ _ h => h) (Or.inr ⟨by rfl, rfl⟩) (by assumption) ?_
      simp only [Act.put, List.getElem_toArray, List.getElem_cons_zero, List.getElem_cons_succ, List.setIfInBounds_toArray, List.set_cons_zero, List.set_cons_succ]
      refine wpAnyH_take (i := 19) (v := undef) rfl (by kernel_rfl) (by kernel_rfl) (by kernel_rfl) (fun _ _ _ h => h) (Or.inr ⟨by rfl, rfl⟩) (by assumption) ?_
      simp only [Act.put, List.getElem_toArray, List.getElem_cons_zero, List.getElem_cons_succ, List.setIfInBounds_toArray, List.set_cons_zero, List.set_cons_succ]
      refine wpAnyH_take (i := 20) (v := undef) rfl (by kernel_rfl) (by kernel_rfl) (by kernel_rfl) (fun _ _ _ h => h) (Or.inr ⟨by rfl, rfl⟩) (by assumption) ?_
      simp only [Act.put, List.getElem_toArray, List.getElem_cons_zero, List.getElem_cons_succ, List.setIfInBounds_toArray, List.set_cons_zero, List.set_cons_succ]
      refine wpAnyH_take (i := 21) (v := undef) rfl (by kernel_rfl) (by kernel_rfl) (by kernel_rfl) (fun _ _ _ h => h) (Or.inr ⟨by rfl, rfl⟩) (by assumption) ?_
      simp only [Act.put, List.getElem_toArray, List.getElem_cons_zero, List.getElem_cons_succ, List.setIfInBounds_toArray, List.set_cons_zero, List.set_cons_succ]
      refine wpAnyH_take (i := 22) (v := undef) rfl (by kernel_rfl) (by kernel_rfl) (by kernel_rfl) (fun _ _ _ h => h) (Or.inr ⟨by rfl, rfl⟩) (by assumption) ?_
      simp only [Act.put, List.getElem_toArray, List.getElem_cons_zero, List.getElem_cons_succ, List.setIfInBounds_toArray, List.set_cons_zero, List.set_cons_succ]
      refine wpAnyH_tk 23 ?_
      refine wpAnyH_tk 24 ?_
      refine wpAnyH_take (i := 25) (v := undef) rfl (by kernel_rfl) (by kernel_rfl) (by kernel_rfl) (fun _ _ _ h => h) (Or.inr ⟨by rfl, rfl⟩) (by assumption) ?_
      simp only [Act.put, List.getElem_toArray, List.getElem_cons_zero, List.getElem_cons_succ, List.setIfInBounds_toArray, List.set_cons_zero, List.set_cons_succ]
      refine wpAnyH_take (i := 26) (v := undef) rfl (by kernel_rfl) (by kernel_rfl) (by kernel_rfl) (fun _ _ _ h => h) (Or.inr ⟨by rfl, rfl⟩) (by assumption) ?_
      simp only [Act.put, List.getElem_toArray, List.getElem_cons_zero, List.getElem_cons_succ, List.setIfInBounds_toArray, List.set_cons_zero, List.set_cons_succ]
      refine wpAnyH_take (i := 27) (v := undef) rfl (by kernel_rfl) (by kernel_rfl) (by kernel_rfl) (fun _ _ _ h => h) (Or.inr ⟨by rfl, rfl⟩) (by assumption) ?_
      simp only [Act.put, List.getElem_toArray, List.getElem_cons_zero, List.getElem_cons_succ, List.setIfInBounds_toArray, List.set_cons_zero, List.set_cons_succ]
      refine wpAnyH_take (i := 28) (v := undef) rfl (by kernel_rfl) (by kernel_rfl) (by kernel_rfl) (fun _ _ _ h => h) (Or.inr ⟨by rfl, rfl⟩) (by assumption) ?_
      simp only [Act.put, List.getElem_toArray, List.getElem_cons_zero, List.getElem_cons_succ, List.setIfInBounds_toArray, List.set_cons_zero, List.set_cons_succ]
      refine wpAnyH_take (i := 29) (v := undef) rfl (by kernel_rfl) (by kernel_rfl) (by kernel_rfl) (fun _ _ _ h => h) (Or.inr ⟨by rfl, rfl⟩) (by assumption) ?_
      simp only [Act.put, List.getElem_toArray, List.getElem_cons_zero, List.getElem_cons_succ, List.setIfInBounds_toArray, List.set_cons_zero, List.set_cons_succ]
      refine wpAnyH_take (i := 30) (v := undef) rfl (by kernel_rfl) (by kernel_rfl) (by kernel_rfl) (fun _ _ _ h => h) (Or.inr ⟨by rfl, rfl⟩) (by assumption) ?_
      simp only [Act.put, List.getElem_toArray, List.getElem_cons_zero, List.getElem_cons_succ, List.setIfInBounds_toArray, List.set_cons_zero, List.set_cons_succ]
      refine wpAnyH_take (i := 31) (v := undef) rfl (by kernel_rfl) (by kernel_rfl) (by kernel_rfl) (fun _ _ _ h => h) (Or.inr ⟨by rfl, rfl⟩) (by assumption) ?_
      simp only [Act.put, List.getElem_toArray, List.getElem_cons_zero, List.getElem_cons_succ, List.setIfInBounds_toArray, List.set_cons_zero, List.set_cons_succ]
      refine wpAnyH_take (i := 32) (v := undef) rfl (by kernel_rfl) (by kernel_rfl) (by kernel_rfl) (fun _ _ _ h => h) (Or.inr ⟨by rfl, rfl⟩) (by assumption) ?_
      simp only [Act.put, List.getElem_toArray, List.getElem_cons_zero, List.getElem_cons_succ, List.setIfInBounds_toArray, List.set_cons_zero, List.set_cons_succ]
      refine wpAnyH_take (i := 33) (v := undef) rfl (by kernel_rfl) (by kernel_rfl) (by kernel_rfl) (fun _ _ _ h => h) (Or.inr ⟨by rfl, rfl⟩) (by assumption) ?_
      simp only [Act.put, List.getElem_toArray, List.getElem_cons_zero, List.getElem_cons_succ, List.setIfInBounds_toArray, List.set_cons_zero, List.set_cons_succ]
      refine wpAnyH_take (i := 34) (v := undef) rfl (by kernel_rfl) (by kernel_rfl) (by kernel_rfl) (fun _ _ _ h => h) (Or.inr ⟨by rfl, rfl⟩) (by assumption) ?_
      simp only [Act.put, List.getElem_toArray, List.getElem_cons_zero, List.getElem_cons_succ, List.setIfInBounds_toArray, List.set_cons_zero, List.set_cons_succ]
      refine wpAnyH_tk 35 ?_
      refine wpAnyH_tk 36 ?_
      refine wpAnyH_tk 37 ?_
      refine wpAnyH_tk 38 ?_
      refine wpAnyH_done (by kernel_rfl) ?_ _
      refine NoPanic.normal ?_
      clear hHeld4 p2 p6 pc0 pc2 pm4
      go_wp2_with fail
      go_ret
      rw [← Hrr.out, ← HZ1.out]
      exact ⟨rfl, Hfin2.out⟩
     ·skip
      refine wpAnyH_tk 14 ?_
      refine wpAnyH_tk 15 ?_
      refine wpAnyH_tk 16 ?_
      refine wpAnyH_tk 17 ?_
      refine wpAnyH_tk 18 ?_
      refine wpAnyH_tk 19 ?_
      refine wpAnyH_tk 20 ?_
      refine wpAnyH_tk 21 ?_
      refine wpAnyH_tk 22 ?_
      refine wpAnyH_tk 23 ?_
      refine wpAnyH_tk 24 ?_
      cases fr
      ·have hz : false = r2 := HZ0.out
       have HZ1 := Lib.hid hz
       clear hz
       refine wpAnyH_take (i := 25) (v := undef) rfl (by kernel_rfl) (by kernel_rfl) (by kernel_rfl) (fun _ _ _ h => h) (Or.inr ⟨by rfl, rfl⟩) (by assumption) ?_
       simp only [Act.put, List.getElem_toArray, List.getElem_cons_zero, List.getElem_cons_succ, List.setIfInBounds_toArray, List.set_cons_zero, List.set_cons_succ]
       refine wpAnyH_take (i := 26) (v := undef) rfl (by kernel_rfl) (by kernel_rfl) (by kernel_rfl) (fun _ _ _ h => h) (Or.inr ⟨by rfl, rfl⟩) (by assumption) ?_
       simp only [Act.put, List.getElem_toArray, List.getElem_cons_zero, List.getElem_cons_succ, List.setIfInBounds_toArray, List.set_cons_zero, List.set_cons_succ]
       refine wpAnyH_take (i := 27) (v := undef) rfl (by kernel_rfl) (by kernel_rfl) (by kernel_rfl) (fun _ _ _ h => h) (Or.inr ⟨by rfl, rfl⟩) (by assumption) ?_
       simp only [Act.put, List.getElem_toArray, List.getElem_cons_zero, List.getElem_cons_succ, List.setIfInBounds_toArray, List.set_cons_zero, List.set_cons_succ]
       refine wpAnyH_take (i := 28) (v := undef) rfl (by kernel_rfl) (by kernel_rfl) (by kernel_rfl) (fun _ _ _ h => h) (Or.inr ⟨by rfl, rfl⟩) (by assumption) ?_
       simp only [Act.put, List.getElem_toArray, List.getElem_cons_zero, List.getElem_cons_succ, List.setIfInBounds_toArray, List.set_cons_zero, List.set_cons_succ]
       refine wpAnyH_take (i := 29) (v := undef) rfl (by kernel_rfl) (by kernel_rfl) (by kernel_rfl) (fun _ _ _ h => h) (Or.inr ⟨by rfl, rfl⟩) (by assumption) ?_
       simp only [Act.put, List.getElem_toArray, List.getElem_cons_zero, List.getElem_cons_succ, List.setIfInBounds_toArray, List.set_cons_zero, List.set_cons_succ]
       refine wpAnyH_take (i := 30) (v := undef) rfl (by kernel_rfl) (by kernel_rfl) (by kernel_rfl) (fun _ _ _ h => h) (Or.inr ⟨by rfl, rfl⟩) (by assumption) ?_
       simp only [Act.put, List.getElem_toArray, List.getElem_cons_zero, List.getElem_cons_succ, List.setIfInBounds_toArray, List.set_cons_zero, List.set_cons_succ]
       refine wpAnyH_take (i := 31) (v := undef) rfl (by kernel_rfl) (by kernel_rfl) (by kernel_rfl) (fun _ _ _ h => h) (Or.inr ⟨by rfl, rfl⟩) (by assumption) ?_
       simp only [Act.put, List.getElem_toArray, List.getElem_cons_zero, List.getElem_cons_succ, List.setIfInBounds_toArray, List.set_cons_zero, List.set_cons_succ]
       refine wpAnyH_take (i := 32) (v := undef) rfl (by kernel_rfl) (by kernel_rfl) (by kernel_rfl) (fun _ _ _ h => h) (Or.inr ⟨by rfl, rfl⟩) (by assumption) ?_
       simp only [Act.put, List.getElem_toArray, List.getElem_cons_zero, List.getElem_cons_succ, List.setIfInBounds_toArray, List.set_cons_zero, List.set_cons_succ]
       refine wpAnyH_take (i := 33) (v := undef) rfl (by kernel_rfl) (by kernel_rfl) (by kernel_rfl) (fun _ _ _ h => h) (Or.inr ⟨by rfl, rfl⟩) (by assumption) ?_
       simp only [Act.put, List.getElem_toArray, List.getElem_cons_zero, List.getElem_cons_succ, List.setIfInBounds_toArray, List.set_cons_zero, List.set_cons_succ]
       refine wpAnyH_take (i := 34) (v := undef) rfl (by kernel_rfl) (by kernel_rfl) (by kernel_rfl) (fun _ _ _ h => h) (Or.inr ⟨by rfl, rfl⟩) (by assumption) ?_
       simp only [Act.put, List.getElem_toArray, List.getElem_cons_zero, List.getElem_cons_succ, List.setIfInBounds_toArray, List.set_cons_zero, List.set_cons_succ]
       refine wpAnyH_tk 35 ?_
       refine wpAnyH_tk 36 ?_
       refine wpAnyH_tk 37 ?_
       refine wpAnyH_tk 38 ?_
       refine wpAnyH_done (by kernel_rfl) ?_ _
       refine NoPanic.normal ?_
       clear hHeld4 p2 p6 pc0 pc2 pm4
       go_wp2_with fail
       go_ret
       rw [← Hrr.out, ← HZ1.out]
       exact ⟨rfl, Hfin2.out⟩
      ·cases bound
       ·have hz : true = r2 := HZ0.out
        have HZ1 := Lib.hid hz
        clear hz
        refine wpAnyH_tk 25 ?_
        refine wpAnyH_tk 26 ?_
        refine wpAnyH_tk 27 ?_
        refine wpAnyH_tk 28 ?_
        refine wpAnyH_tk 29 ?_
        refine wpAnyH_tk 30 ?_
        refine wpAnyH_take (i := 31) (v := undef) rfl (by kernel_rfl) (by kernel_rfl) (by kernel_rfl) (fun _ _ _ h => h) (Or.inr ⟨by rfl, rfl⟩) (by assumption) ?_
        simp only [Act.put, List.getElem_toArray, List.getElem_cons_zero, List.getElem_cons_succ, List.setIfInBounds_toArray, List.set_cons_zero, List.set_cons_succ]
        refine wpAnyH_take (i := 32) (v := undef) rfl (by kernel_rfl) (by kernel_rfl) (by kernel_rfl) (fun _ _ _ h => h) (Or.inr ⟨by rfl, rfl⟩) (by assumption) ?_
        simp only [Act.put, List.getElem_toArray, List.getElem_cons_zero, List.getElem_cons_succ, List.setIfInBounds_toArray, List.set_cons_zero, List.set_cons_succ]
        refine wpAnyH_take (i := 33) (v := undef) rfl (by kernel_rfl) (by kernel_rfl) (by kernel_rfl) (fun _ _ _ h => h) (Or.inr ⟨by rfl, rfl⟩) (by assumption) ?_
        simp only [Act.put, List.getElem_toArray, List.getElem_cons_zero, List.getElem_cons_succ, List.setIfInBounds_toArray, List.set_cons_zero, List.set_cons_succ]
        refine wpAnyH_tk 34 ?_
        refine wpAnyH_tk 35 ?_
        refine wpAnyH_tk 36 ?_
        refine wpAnyH_tk 37 ?_
        refine wpAnyH_tk 38 ?_
        refine wpAnyH_done (by kernel_rfl) ?_ _
        refine NoPanic.normal ?_
        clear hHeld4 p2 p6 pc0 pc2 pm4
        go_wp2_with fail
        go_ret
        rw [← Hrr.out, ← HZ1.out]
        exact ⟨rfl, Hfin2.out⟩
       ·have hz : decide (d = 0) = r2 := HZ0.out
        refine wpAnyH_tk 25 ?_
        refine wpAnyH_tk 26 ?_
        refine wpAnyH_tk 27 ?_
        refine wpAnyH_tk 28 ?_
        refine wpAnyH_tk 29 ?_
        refine wpAnyH_tk 30 ?_
        by_cases hd0 : d = 0
        ·have hd1 : (d == 0) = true := by simp [hd0]
         have hz1 : true = r2 := by rw [← hz]; simp [hd0]
         obtain ⟨HZ1, Hz, Hd0⟩ := hd3 hz1 hz hd0
         clear hd0 hz hz1
         refine wpAnyH_tk 31 ?_
         refine wpAnyH_tk 32 ?_
         refine wpAnyH_tk 33 ?_
         refine wpAnyH_tk 34 ?_
         refine wpAnyH_tk 35 ?_
         refine wpAnyH_tk 36 ?_
         refine wpAnyH_tk 37 ?_
         refine wpAnyH_tk 38 ?_
         refine wpAnyH_done (by kernel_rfl) ?_ _
         refine NoPanic.normal ?_
         clear hHeld4 p2 p6 pc0 pc2 pm4
         go_wp2_with fail
         go_ret
         rw [← Hrr.out, ← HZ1.out]
         exact ⟨rfl, Hfin2.out⟩
        ·have hd1 : (d == 0) = false := by simp [hd0]
         have hz1 : false = r2 := by rw [← hz]; simp [hd0]
         obtain ⟨HZ1, Hz, Hd0⟩ := hd3 hz1 hz hd0
         clear hd0 hz hz1
         refine wpAnyH_tk 31 ?_
         refine wpAnyH_tk 32 ?_
         refine wpAnyH_tk 33 ?_
         refine wpAnyH_tk 34 ?_
         refine wpAnyH_tk 35 ?_
         refine wpAnyH_tk 36 ?_
         refine wpAnyH_tk 37 ?_
         refine wpAnyH_tk 38 ?_
         refine wpAnyH_done (by kernel_rfl) ?_ _
         refine NoPanic.normal ?_
         clear hHeld4 p2 p6 pc0 pc2 pm4
         go_wp2_with fail
         go_ret
         rw [← Hrr.out, ← HZ1.out]
         exact ⟨rfl, Hfin2.out⟩
theorem node_all {w : World} {B cb : Nat} {allv : Value} {gs : List GraphD} {ga : Addr} {g : GraphD} {pv kv iv nv : Value} {bound : Bool} (h : Ck w B cb allv gs ga g pv kv iv nv bound)
  (hpar : ∀ f ∈ gs, ∀ p ∈ f.params, 0 ≤ p ∧ p < f.kinds.length) (hgl : gs.length ≤ 16) (x : NodeD) (av : Value) (D : Nat) (hD : D ≤ w.heap.size) (hav : NumsAt .i64 w D av x.args) (hal : x.args.length ≤ 140737488351232) (hpl : ∀ f ∈ gs, f.params.length ≤ 4) (hkl : ∀ f ∈ gs, f.kinds.length ≤ 1024) :
  Calls Tryd.prog 33 #[.pointer (some ⟨cb, 0, none⟩), .agg (ncells x av).toArray] w fun e w' => e = .returned (.bool (nodeB gs g bound x)) ∧ Below w.heap.size w w' := by
 by_cases hop : x.op = 11
 ·exact nodecall_ir h hpar hgl x av D hD hav hal hpl hkl hop
 ·exact node_any h hpar hgl x av D hD hav hal hpl hkl hop
end Go.Proofs.YtnfjjliiajaijaaDoor
