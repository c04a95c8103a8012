/- Walk of the checker's question whether arguments fit a function. Conditions: checker and node lie in memory, the functions' parameters are places. -/
import Derived.Test.YtncpehhfjkncoaaIrNext
import Derived.Test.YtncpehhfjkncoaaLate
import Derived.BigQuiet
import Derived.Deep.QuietTactic
import Derived.Deep.DeepCutAuto
set_option linter.unusedVariables false
set_option linter.unusedSimpArgs false
namespace Go.Proofs.Ytncpehhfjkncoaa
open Go.RowKit

def argB (g f : GraphD) (bound : Bool) (i : Nat) (p : Int) : Bool := if bound then decide (p = i) else fitsB g false (f.kinds.getD (f.params.getD i 0).toNat 0) p
def argsB (gs : List GraphD) (g : GraphD) (bound : Bool) (x : NodeD) : Bool := decide (0 ≤ x.f) && (match gs[x.f.toNat]? with | none => false | some f => decide (x.args.length = f.params.length) && (List.range x.args.length).all fun i => argB g f bound i (x.args.getD i 0))
set_option maxRecDepth 100000 in
set_option maxHeartbeats 4000000 in
theorem args_any {w : World} {B cb : Nat} {allv : Value} {gs : List GraphD} {ga : Addr} {g : GraphD} {pv kv iv nv : Value} {bound : Bool} (h : Ck w B cb allv gs ga g pv kv iv nv bound)
    (hpar : ∀ f ∈ gs, ∀ p ∈ f.params, 0 ≤ p ∧ p < f.kinds.length) (hgl : gs.length ≤ 16) (x : NodeD) (av : Value) (D : Nat) (hD : D ≤ w.heap.size) (hav : NumsAt .i64 w D av x.args) (hal : x.args.length ≤ 140737488351232) (hpl : ∀ f ∈ gs, f.params.length ≤ 4) (hkl : ∀ f ∈ gs, f.kinds.length ≤ 1024) :
    Calls Try.prog 42 #[.pointer (some ⟨cb, 0, none⟩), .agg (ncells x av).toArray] w fun e w' => e = .returned (.bool (argsB gs g bound x)) ∧ Below w.heap.size w w' := by
  obtain ⟨r, hr⟩ : ∃ r, argsB gs g bound x = r := ⟨_, rfl⟩
  rw [hr]
  unfold argsB at hr
  obtain ⟨op, byo, d, e, a, b, f, cell, imm, args, next, els⟩ := x
  simp only at hr hav hal
  obtain ⟨AA, ac, rfl, _, _, hAr⟩ := hav.slice
  obtain ⟨m, hm⟩ : ∃ m, args.length = m := ⟨_, rfl⟩
  rw [hm] at hAr hal hr
  simp only [ncells, hm]
  have hP := Blk.new w 52 #[.int .u8 op, .int .u8 byo, .int .i64 d, .int .i64 e, .int .i64 a, .int .i64 b, .int .i64 f, .int .i64 cell, .int .u64 imm, .slice AA m ac, .int .i64 next, .int .i64 els]
  have kp6 := Blk.cell hP 6
  have kp9 := Blk.cell hP 9
  simp only [List.getElem?_toArray, List.getElem?_cons_zero, List.getElem?_cons_succ] at kp6 kp9
  obtain ⟨NC, hNC⟩ : ∃ NC : Array Value, NC = #[.int .u8 op, .int .u8 byo, .int .i64 d, .int .i64 e, .int .i64 a, .int .i64 b, .int .i64 f, .int .i64 cell, .int .u64 imm, .slice AA m ac, .int .i64 next, .int .i64 els] := ⟨_, rfl⟩
  have hC := h.below ((Below.refl w.heap.size w).alloc (Nat.le_refl _) (.cells NC 52))
  have hb := (Below.refl w.heap.size w).alloc (Nat.le_refl _) (.cells NC 52)
  have hA := hAr.below ((Below.refl D w).alloc hD (.cells NC 52))
  rw [← hNC] at kp6 kp9 ⊢
  obtain ⟨V, hV⟩ : ∃ V, V = w.alloc (.cells NC 52) := ⟨_, rfl⟩
  rw [← hV] at hC hb hA kp6 kp9
  obtain ⟨GA, gc, rfl, _, _⟩ := hC.all.slice
  have kc0 := Blk.cell hC.blk 0
  have kc2 := Blk.cell hC.blk 2
  simp only [List.getElem?_toArray, List.getElem?_cons_zero, List.getElem?_cons_succ] at kc0 kc2
  obtain ⟨Z, hZ⟩ : ∃ Z, gs.length = Z := ⟨_, rfl⟩
  rw [hZ] at kc0 hgl
  by_cases f0 : 0 ≤ f
  case neg =>
    have hf : f < 0 := by omega
    have hs : r = false := by rw [← hr]; simp [f0]
    have Hb := Lib.hid hb
    have HA := Lib.hid hA
    have HC := Lib.hid hC
    have Hr := Lib.hid hr
    have HP := Lib.hid hP
    have HAr := Lib.hid hAr
    have H := Lib.hid h
    have Hpar := Lib.hid hpar
    have Hpl := Lib.hid hpl
    have Hm := Lib.hid hm
    have HZ := Lib.hid hZ
    have HNC := Lib.hid hNC
    have Hs := Lib.hid hs
    have HV := Lib.hid hV
    have Hkl := Lib.hid hkl
    clear hkl hV hs hNC hZ hm hpl hpar h hAr hP hr hC hA hb
    go_enter Try.func42, Try.ntmps42
    go_upto_region 1 with fail
    rw [← HV.out]
    go_quiet (fail)
    go_wp2_with fail
    go_ret
    rw [Hs.out]
    exact ⟨rfl, below_drewN Hb.out _⟩
  obtain ⟨F, rfl⟩ := Int.eq_ofNat_of_zero_le f0
  have f0' : ¬ (F : Int) < 0 := by omega
  by_cases f1 : F < Z
  case neg =>
    have hf : (Z : Int) ≤ F := by omega
    have hs : r = false := by rw [← hr, Int.toNat_natCast, List.getElem?_eq_none (by omega)]; simp
    have Hb := Lib.hid hb
    have HA := Lib.hid hA
    have HC := Lib.hid hC
    have Hr := Lib.hid hr
    have HP := Lib.hid hP
    have HAr := Lib.hid hAr
    have H := Lib.hid h
    have Hpar := Lib.hid hpar
    have Hpl := Lib.hid hpl
    have Hm := Lib.hid hm
    have HZ := Lib.hid hZ
    have HNC := Lib.hid hNC
    have Hs := Lib.hid hs
    have HV := Lib.hid hV
    have Hkl := Lib.hid hkl
    clear hkl hV hs hNC hZ hm hpl hpar h hAr hP hr hC hA hb
    clear f0 f1
    go_enter Try.func42, Try.ntmps42
    go_upto_region 1 with fail
    rw [← HV.out]
    go_quiet (fail)
    go_wp2_with fail
    go_ret
    rw [Hs.out]
    exact ⟨rfl, below_drewN Hb.out _⟩
  obtain ⟨ff, hff⟩ : ∃ ff, gs[F]? = some ff := ⟨_, List.getElem?_eq_getElem (by omega)⟩
  have hfm := List.mem_of_getElem? hff
  rw [Int.toNat_natCast, hff] at hr
  simp only [f0, decide_true, Bool.true_and] at hr
  have hf1 : ¬ (Z : Int) ≤ F := by omega
  have hf2 : (F : Int) < Z := by omega
  have hpl' := hpl ff hfm
  have hkl' := hkl ff hfm
  have hpar' := hpar ff hfm
  obtain ⟨ad, pv2, kv2, iv2, nv2, hGA, _, hG2⟩ := hC.all.at_ hff
  subst hGA
  obtain ⟨PA, pc, hpv2, _, _, hPR⟩ := hG2.params.slice
  subst hpv2
  obtain ⟨PK, kc, hkv2, _, _, hKR⟩ := hG2.kinds.slice
  subst hkv2
  obtain ⟨M, hM⟩ : ∃ M, ff.params.length = M := ⟨_, rfl⟩
  obtain ⟨KL, hKL⟩ : ∃ KL, ff.kinds.length = KL := ⟨_, rfl⟩
  have g0 := hG2.c0
  have g1 := hG2.c1
  rw [hM] at hr hPR hpl' g0
  rw [hKL] at hKR hkl' g1 hpar'
  have Hb := Lib.hid hb
  have HA := Lib.hid hA
  have HC := Lib.hid hC
  have Hr := Lib.hid hr
  have HP := Lib.hid hP
  have HAr := Lib.hid hAr
  have H := Lib.hid h
  have Hpar := Lib.hid hpar
  have Hpl := Lib.hid hpl
  have Hm := Lib.hid hm
  have HZ := Lib.hid hZ
  have HNC := Lib.hid hNC
  have HV := Lib.hid hV
  have Hff := Lib.hid hff
  have Hfm := Lib.hid hfm
  have HG2 := Lib.hid hG2
  have HPR := Lib.hid hPR
  have HKR := Lib.hid hKR
  have HM := Lib.hid hM
  have HKL := Lib.hid hKL
  have Hpar' := Lib.hid hpar'
  have Hkl := Lib.hid hkl
  clear hkl hpar' hKL hM hKR hPR hG2 hfm hff hV hNC hZ hm hpl hpar h hAr hP hr hC hA hb
  clear f0 f1
  go_enter Try.func42, Try.ntmps42
  go_upto_region 1 with fail
  rw [← HV.out]
  go_quiet (fail)
  obtain ⟨q1, rfl⟩ : ∃ q1, q1 = nq := ⟨_, rfl⟩
  go_upto_region 3 with fail
  go_quiet (fail)
  obtain ⟨q2, rfl⟩ : ∃ q2, q2 = nq := ⟨_, rfl⟩
  go_upto_region 4 with fail
  by_cases hmM : m = M
  · subst hmM
    go_quiet (fail)
    obtain ⟨q3, rfl⟩ : ∃ q3, q3 = nq := ⟨_, rfl⟩
    have hd : Below V.heap.size V (((V.drewN q1).drewN q2).drewN q3) := below_drewN (below_drewN (below_drewN (Below.refl _ _) _) _) _
    have hb0 : Below w.heap.size w (((V.drewN q1).drewN q2).drewN q3) := below_drewN (below_drewN (below_drewN Hb.out _) _) _
    have hC0 := HC.out.below hd
    have hA0 := HA.out.below (hd.mono (Nat.le_trans hD Hb.out.size))
    have hG0 := HG2.out.below (hd.mono (by have := HC.out.le; have := HC.out.blk.lt; omega))
    have hP0 := HPR.out.below (hd.mono (by have := HC.out.le; have := HC.out.blk.lt; omega))
    have hK0 := HKR.out.below (hd.mono (by have := HC.out.le; have := HC.out.blk.lt; omega))
    have kp9' : (((V.drewN q1).drewN q2).drewN q3).cell? ⟨w.heap.size, 9, none⟩ = some (.slice AA m ac) := kp9
    have hVw : w.heap.size < V.heap.size := by rw [HV.out, World.size_alloc]; omega
    obtain ⟨W0, hW0⟩ : ∃ W0, W0 = ((V.drewN q1).drewN q2).drewN q3 := ⟨_, rfl⟩
    rw [← hW0] at hd hb0 hC0 hA0 hG0 hP0 hK0 kp9' ⊢
    have hr2 := Hr.out
    simp only [decide_true, Bool.true_and] at hr2
    have hsz0 := hd.size
    have HW0 := Lib.hid hW0
    have Hd := Lib.hid hd
    have Hb0 := Lib.hid hb0
    have HC0 := Lib.hid hC0
    have HA0 := Lib.hid hA0
    have HG0 := Lib.hid hG0
    have HP0 := Lib.hid hP0
    have HK0 := Lib.hid hK0
    have Hr2 := Lib.hid hr2
    clear hr2 hK0 hP0 hG0 hA0 hC0 hb0 hd hW0
    clear kp6 kp9 kc0 kc2 g0 g1
    go_wp2_with fail
    go_loopw [40] (fun i wq => ∃ j : Nat, j ≤ m ∧ i = .int .i64 j ∧ Below W0.heap.size W0 wq ∧ Hid (∀ k, k < j → argB g ff bound k (args.getD k 0) = true)) (fun i _ => m - (intOf i).toNat)
    case atStart => exact ⟨0, by omega, rfl, Below.refl _ _, (show ∀ k, k < 0 → argB g ff bound k (args.getD k 0) = true by omega)⟩
    case round =>
      obtain ⟨j, hj, rfl, hbq, hall⟩ := hrel
      have hsq := hbq.size
      have hCq := HC0.out.below hbq
      by_cases hjm : j < m
      · obtain ⟨aad, u0, hAA, _, hu0, hce⟩ := (HA0.out.below (hbq.mono (by have := Hb0.out.size; omega))).at_ hjm
        subst hAA
        obtain ⟨p, hpj, rfl⟩ : ∃ p, args[j]? = some p ∧ u0 = .int .i64 p := by
          rw [List.getElem?_map, Option.map_eq_some_iff] at hu0
          obtain ⟨x, h1, h2⟩ := hu0
          exact ⟨x, h1, h2.symm⟩
        have hpg : args.getD j 0 = p := by rw [List.getD_eq_getElem?_getD, hpj]; rfl
        have hBq : B ≤ W0.heap.size := by have := HC0.out.le; have := HC0.out.blk.lt; omega
        obtain ⟨pad, pu, hPA, _, hpu, hpce⟩ := (HP0.out.below (hbq.mono hBq)).at_ hjm
        subst hPA
        obtain ⟨pp, hpp, rfl⟩ : ∃ pp, ff.params[j]? = some pp ∧ pu = .int .i64 pp := by
          rw [List.getElem?_map, Option.map_eq_some_iff] at hpu
          obtain ⟨x, h1, h2⟩ := hpu
          exact ⟨x, h1, h2.symm⟩
        obtain ⟨pp0, pp1⟩ := Hpar'.out pp (List.mem_of_getElem? hpp)
        obtain ⟨PP, rfl⟩ := Int.eq_ofNat_of_zero_le pp0
        have hPK : PP < KL := by omega
        obtain ⟨kad, ku, hKA, _, hku, hkce⟩ := (HK0.out.below (hbq.mono hBq)).at_ hPK
        subst hKA
        obtain ⟨kk, hkk, rfl⟩ : ∃ kk, ff.kinds[PP]? = some kk ∧ ku = .int .u8 kk := by
          rw [List.getElem?_map, Option.map_eq_some_iff] at hku
          obtain ⟨x, h1, h2⟩ := hku
          exact ⟨x, h1, h2.symm⟩
        have hkg : ff.kinds.getD (ff.params.getD j 0).toNat 0 = kk := by
          rw [List.getD_eq_getElem?_getD (l := ff.params), hpp, Option.getD_some, Int.toNat_natCast, List.getD_eq_getElem?_getD, hkk]
          rfl
        have hGq := HG0.out.below (hbq.mono hBq)
        have g0 := hGq.c0
        have g1 := hGq.c1
        rw [HM.out] at g0
        rw [HKL.out] at g1
        have kc2 := Blk.cell hCq.blk 2
        simp only [List.getElem?_toArray, List.getElem?_cons_zero, List.getElem?_cons_succ] at kc2
        have hbig : r = false ∨ argB g ff bound j p = true := by
          rcases hh : argB g ff bound j p with _ | _
          · left
            rw [← Hr2.out]
            rcases hq : (List.range m).all (fun i => argB g ff bound i (args.getD i 0)) with _ | _
            · rfl
            · have := List.all_eq_true.1 hq j (List.mem_range.2 hjm)
              rw [hpg, hh] at this; cases this
          · exact .inr rfl
        have hstep : argB g ff bound j p = true → ∀ k, k < j + 1 → argB g ff bound k (args.getD k 0) = true := fun hf k hk => by
          by_cases hkj : k = j
          · rw [hkj, hpg]; exact hf
          · exact hall.out k (by omega)
        have hbnd := Hb0.out.trans (hbq.mono Hb0.out.size)
        have hjI : (j : Int) < m := by omega
        have hPKI : (PP : Int) < KL := by omega
        clear hu0 hpu hku
        cases bound
        · obtain ⟨bb, hbb⟩ : ∃ bb, isB g false kk [p] = bb := ⟨_, rfl⟩
          have harg : argB g ff false j p = bb := by
            rw [← hbb]
            unfold argB isB
            rw [if_neg (by decide), hkg]
            simp
          rw [harg] at hbig hstep
          have l0 := hCq.blk.lt
          have l1 : (ad.add (F * 8)).block < wr.heap.size := Nat.lt_of_lt_of_le hGq.lt (by omega)
          have hal := (Below.refl wr.drew.heap.size wr.drew).alloc (Nat.le_refl _) (.cells #[.int .i64 p] 3)
          have lp : (pad.add j).block < wr.heap.size := by rw [block_add]; omega
          have lk : (kad.add PP).block < wr.heap.size := by rw [block_add]; omega
          have e0 := (hal.cell (p := ⟨cb, 2, none⟩) l0).trans kc2
          have e1 := (hal.cell (p := ad.add (F * 8)) l1).trans g0
          have e2 := (hal.cell (p := ⟨(ad.add (F * 8)).block, (ad.add (F * 8)).off + 1, none⟩) l1).trans g1
          have e3 := (hal.cell (p := pad.add j) lp).trans hpce
          have e4 := (hal.cell (p := kad.add PP) lk).trans hkce
          have hCal := hCq.below ((Below.refl wr.heap.size wr).drew.alloc (Nat.le_refl _) (.cells #[.int .i64 p] 3))
          have Hstep := Lib.hid hstep
          have Hbig := Lib.hid hbig
          have Hall := Lib.hid hall
          have Hbq := Lib.hid hbq
          have HCq := Lib.hid hCq
          have Hpj := Lib.hid hpj
          have Hpg := Lib.hid hpg
          have Hpp := Lib.hid hpp
          have Hkk := Lib.hid hkk
          have Hkg := Lib.hid hkg
          have HGq := Lib.hid hGq
          have Hbnd := Lib.hid hbnd
          have Hbb := Lib.hid hbb
          have Harg := Lib.hid harg
          have Hal := Lib.hid hal
          have HCal := Lib.hid hCal
          clear hCal hal harg hbb hbnd hGq hkg hkk hpp hpg hpj hCq hbq hall hbig hstep
          go_upto_region 9 with fail
          refine wp_region_noPanic ?_
          refine wp_region_held_drew (S := fun W => W.cell? ⟨cb, 2, none⟩ = some (.bool false) ∧ W.cell? (ad.add (F * 8)) = some (.slice (some pad) m pc) ∧ W.cell? ⟨(ad.add (F * 8)).block, (ad.add (F * 8)).off + 1, none⟩ = some (.slice (some kad) KL kc) ∧ W.cell? (pad.add j) = some (.int .i64 PP) ∧ W.cell? (kad.add PP) = some (.int .u8 kk)) (by kernel_rfl) ⟨kc2, g0, g1, hpce, hkce⟩ (fun hHeld => ?_)
          refine wpAnyH_take (i := 0) (v := ?_) rfl (by kernel_rfl) (by kernel_rfl) (by kernel_rfl) (fun _ _ _ h => h) (Or.inl ⟨by rfl, ?_⟩) (by assumption) ?_
          rotate_left
          · intro w hSw; (try dsimp only at hSw); go_simp; try with_reducible rfl
          simp only [Act.put, List.getElem_toArray, List.getElem_cons_zero, List.getElem_cons_succ, List.setIfInBounds_toArray, List.set_cons_zero, List.set_cons_succ]
          refine wpAnyH_take (i := 1) (v := ?_) rfl (by kernel_rfl) (by kernel_rfl) (by kernel_rfl) (fun _ _ _ h => h) (Or.inl ⟨by rfl, ?_⟩) (by assumption) ?_
          rotate_left
          · intro w hSw; (try dsimp only at hSw); go_simp; try with_reducible rfl
          simp only [Act.put, List.getElem_toArray, List.getElem_cons_zero, List.getElem_cons_succ, List.setIfInBounds_toArray, List.set_cons_zero, List.set_cons_succ]
          refine wpAnyH_take (i := 2) (v := ?_) rfl (by kernel_rfl) (by kernel_rfl) (by kernel_rfl) (fun _ _ _ h => h) (Or.inl ⟨by rfl, ?_⟩) (by assumption) ?_
          rotate_left
          · intro w hSw; (try dsimp only at hSw); go_simp; try with_reducible rfl
          simp only [Act.put, List.getElem_toArray, List.getElem_cons_zero, List.getElem_cons_succ, List.setIfInBounds_toArray, List.set_cons_zero, List.set_cons_succ]
          refine wpAnyH_take (i := 3) (v := ?_) rfl (by kernel_rfl) (by kernel_rfl) (by kernel_rfl) (fun _ _ _ h => h) (Or.inl ⟨by rfl, ?_⟩) (by assumption) ?_
          rotate_left
          · intro w hSw; (try dsimp only at hSw); go_simp; try with_reducible rfl
          simp only [Act.put, List.getElem_toArray, List.getElem_cons_zero, List.getElem_cons_succ, List.setIfInBounds_toArray, List.set_cons_zero, List.set_cons_succ]
          refine wpAnyH_take (i := 4) (v := ?_) rfl (by kernel_rfl) (by kernel_rfl) (by kernel_rfl) (fun _ _ _ h => h) (Or.inl ⟨by rfl, ?_⟩) (by assumption) ?_
          rotate_left
          · intro w hSw; (try dsimp only at hSw); go_simp; try with_reducible rfl
          simp only [Act.put, List.getElem_toArray, List.getElem_cons_zero, List.getElem_cons_succ, List.setIfInBounds_toArray, List.set_cons_zero, List.set_cons_succ]
          refine wpAnyH_take (i := 5) (v := undef) rfl (by kernel_rfl) (by kernel_rfl) (by kernel_rfl) (fun _ _ _ h => h) (Or.inr ⟨by rfl, rfl⟩) (by assumption) ?_
          simp only [Act.put, List.getElem_toArray, List.getElem_cons_zero, List.getElem_cons_succ, List.setIfInBounds_toArray, List.set_cons_zero, List.set_cons_succ]
          refine wpAnyH_take (i := 6) (v := undef) rfl (by kernel_rfl) (by kernel_rfl) (by kernel_rfl) (fun _ _ _ h => h) (Or.inr ⟨by rfl, rfl⟩) (by assumption) ?_
          simp only [Act.put, List.getElem_toArray, List.getElem_cons_zero, List.getElem_cons_succ, List.setIfInBounds_toArray, List.set_cons_zero, List.set_cons_succ]
          refine wpAnyH_take (i := 7) (v := undef) rfl (by kernel_rfl) (by kernel_rfl) (by kernel_rfl) (fun _ _ _ h => h) (Or.inr ⟨by rfl, rfl⟩) (by assumption) ?_
          simp only [Act.put, List.getElem_toArray, List.getElem_cons_zero, List.getElem_cons_succ, List.setIfInBounds_toArray, List.set_cons_zero, List.set_cons_succ]
          refine wpAnyH_take (i := 8) (v := ?_) rfl (by kernel_rfl) (by kernel_rfl) (by kernel_rfl) (fun _ _ _ h => h) (Or.inl ⟨by rfl, ?_⟩) (by assumption) ?_
          rotate_left
          · intro w hSw; (try dsimp only at hSw); go_simp; try with_reducible rfl
          simp only [Act.put, List.getElem_toArray, List.getElem_cons_zero, List.getElem_cons_succ, List.setIfInBounds_toArray, List.set_cons_zero, List.set_cons_succ]
          refine wpAnyH_take (i := 9) (v := ?_) rfl (by kernel_rfl) (by kernel_rfl) (by kernel_rfl) (fun _ _ _ h => h) (Or.inl ⟨by rfl, ?_⟩) (by assumption) ?_
          rotate_left
          · intro w hSw; (try dsimp only at hSw); go_simp; try with_reducible rfl
          simp only [Act.put, List.getElem_toArray, List.getElem_cons_zero, List.getElem_cons_succ, List.setIfInBounds_toArray, List.set_cons_zero, List.set_cons_succ]
          refine wpAnyH_take (i := 10) (v := ?_) rfl (by kernel_rfl) (by kernel_rfl) (by kernel_rfl) (fun _ _ _ h => h) (Or.inl ⟨by rfl, ?_⟩) (by assumption) ?_
          rotate_left
          · intro w hSw; (try dsimp only at hSw); go_simp; try with_reducible rfl
          simp only [Act.put, List.getElem_toArray, List.getElem_cons_zero, List.getElem_cons_succ, List.setIfInBounds_toArray, List.set_cons_zero, List.set_cons_succ]
          refine wpAnyH_take (i := 11) (v := ?_) rfl (by kernel_rfl) (by kernel_rfl) (by kernel_rfl) (fun _ _ _ h => h) (Or.inl ⟨by rfl, ?_⟩) (by assumption) ?_
          rotate_left
          · intro w hSw; (try dsimp only at hSw); go_simp; try with_reducible rfl
          simp only [Act.put, List.getElem_toArray, List.getElem_cons_zero, List.getElem_cons_succ, List.setIfInBounds_toArray, List.set_cons_zero, List.set_cons_succ]
          refine wpAnyH_take (i := 12) (v := ?_) rfl (by kernel_rfl) (by kernel_rfl) (by kernel_rfl) (fun _ _ _ h => h) (Or.inl ⟨by rfl, ?_⟩) (by assumption) ?_
          rotate_left
          · intro w hSw; (try dsimp only at hSw); go_simp; try with_reducible rfl
          simp only [Act.put, List.getElem_toArray, List.getElem_cons_zero, List.getElem_cons_succ, List.setIfInBounds_toArray, List.set_cons_zero, List.set_cons_succ]
          refine wpAnyH_take (i := 13) (v := ?_) rfl (by kernel_rfl) (by kernel_rfl) (by kernel_rfl) (fun _ _ _ h => h) (Or.inl ⟨by rfl, ?_⟩) (by assumption) ?_
          rotate_left
          · intro w hSw; (try dsimp only at hSw); go_simp; try with_reducible rfl
          simp only [Act.put, List.getElem_toArray, List.getElem_cons_zero, List.getElem_cons_succ, List.setIfInBounds_toArray, List.set_cons_zero, List.set_cons_succ]
          refine wpAnyH_take (i := 14) (v := ?_) rfl (by kernel_rfl) (by kernel_rfl) (by kernel_rfl) (fun _ _ _ h => h) (Or.inl ⟨by rfl, ?_⟩) (by assumption) ?_
          rotate_left
          · intro w hSw; (try dsimp only at hSw); go_simp; try with_reducible rfl
          simp only [Act.put, List.getElem_toArray, List.getElem_cons_zero, List.getElem_cons_succ, List.setIfInBounds_toArray, List.set_cons_zero, List.set_cons_succ]
          refine wpAnyH_take (i := 15) (v := ?_) rfl (by kernel_rfl) (by kernel_rfl) (by kernel_rfl) (fun _ _ _ h => h) (Or.inl ⟨by rfl, ?_⟩) (by assumption) ?_
          rotate_left
          · intro w hSw; (try dsimp only at hSw); go_simp; try with_reducible rfl
          simp only [Act.put, List.getElem_toArray, List.getElem_cons_zero, List.getElem_cons_succ, List.setIfInBounds_toArray, List.set_cons_zero, List.set_cons_succ]
          refine wpAnyH_take (i := 16) (v := ?_) rfl (by kernel_rfl) (by kernel_rfl) (by kernel_rfl) (fun _ _ _ h => h) (Or.inl ⟨by rfl, ?_⟩) (by assumption) ?_
          rotate_left
          · intro w hSw; (try dsimp only at hSw); go_simp; try with_reducible rfl
          simp only [Act.put, List.getElem_toArray, List.getElem_cons_zero, List.getElem_cons_succ, List.setIfInBounds_toArray, List.set_cons_zero, List.set_cons_succ]
          refine wpAnyH_take (i := 17) (v := ?_) rfl (by kernel_rfl) (by kernel_rfl) (by kernel_rfl) (fun _ _ _ h => h) (Or.inl ⟨by rfl, ?_⟩) (by assumption) ?_
          rotate_left
          · intro w hSw; (try dsimp only at hSw); go_simp; try with_reducible rfl
          simp only [Act.put, List.getElem_toArray, List.getElem_cons_zero, List.getElem_cons_succ, List.setIfInBounds_toArray, List.set_cons_zero, List.set_cons_succ]
          refine wpAnyH_take (i := 18) (v := ?_) rfl (by kernel_rfl) (by kernel_rfl) (by kernel_rfl) (fun _ _ _ h => h) (Or.inl ⟨by rfl, ?_⟩) (by assumption) ?_
          rotate_left
          · intro w hSw; (try dsimp only at hSw); go_simp; try with_reducible rfl
          simp only [Act.put, List.getElem_toArray, List.getElem_cons_zero, List.getElem_cons_succ, List.setIfInBounds_toArray, List.set_cons_zero, List.set_cons_succ]
          refine wpAnyH_take (i := 19) (v := ?_) rfl (by kernel_rfl) (by kernel_rfl) (by kernel_rfl) (fun _ _ _ h => h) (Or.inl ⟨by rfl, ?_⟩) (by assumption) ?_
          rotate_left
          · intro w hSw; (try dsimp only at hSw); go_simp; try with_reducible rfl
          simp only [Act.put, List.getElem_toArray, List.getElem_cons_zero, List.getElem_cons_succ, List.setIfInBounds_toArray, List.set_cons_zero, List.set_cons_succ]
          refine wpAnyH_take (i := 20) (v := ?_) rfl (by kernel_rfl) (by kernel_rfl) (by kernel_rfl) (fun _ _ _ h => h) (Or.inl ⟨by rfl, ?_⟩) (by assumption) ?_
          rotate_left
          · intro w hSw; (try dsimp only at hSw); go_simp; try with_reducible rfl
          simp only [Act.put, List.getElem_toArray, List.getElem_cons_zero, List.getElem_cons_succ, List.setIfInBounds_toArray, List.set_cons_zero, List.set_cons_succ]
          refine wpAnyH_take (i := 21) (v := ?_) rfl (by kernel_rfl) (by kernel_rfl) (by kernel_rfl) (fun _ _ _ h => h) (Or.inl ⟨by rfl, ?_⟩) (by assumption) ?_
          rotate_left
          · intro w hSw; (try dsimp only at hSw); go_simp; try with_reducible rfl
          simp only [Act.put, List.getElem_toArray, List.getElem_cons_zero, List.getElem_cons_succ, List.setIfInBounds_toArray, List.set_cons_zero, List.set_cons_succ]
          refine wpAnyH_take (i := 22) (v := ?_) rfl (by kernel_rfl) (by kernel_rfl) (by kernel_rfl) (fun _ _ _ h => h) (Or.inl ⟨by rfl, ?_⟩) (by assumption) ?_
          rotate_left
          · intro w hSw; (try dsimp only at hSw); go_simp; try with_reducible rfl
          simp only [Act.put, List.getElem_toArray, List.getElem_cons_zero, List.getElem_cons_succ, List.setIfInBounds_toArray, List.set_cons_zero, List.set_cons_succ]
          refine wpAnyH_take (i := 23) (v := ?_) rfl (by kernel_rfl) (by kernel_rfl) (by kernel_rfl) (fun _ _ _ h => h) (Or.inl ⟨by rfl, ?_⟩) (by assumption) ?_
          rotate_left
          · intro w hSw; (try dsimp only at hSw); go_simp; try with_reducible rfl
          simp only [Act.put, List.getElem_toArray, List.getElem_cons_zero, List.getElem_cons_succ, List.setIfInBounds_toArray, List.set_cons_zero, List.set_cons_succ]
          refine wpAnyH_take (i := 24) (v := ?_) rfl (by kernel_rfl) (by kernel_rfl) (by kernel_rfl) (fun _ _ _ h => h) (Or.inl ⟨by rfl, ?_⟩) (by assumption) ?_
          rotate_left
          · intro w hSw; (try dsimp only at hSw); go_simp; try with_reducible rfl
          simp only [Act.put, List.getElem_toArray, List.getElem_cons_zero, List.getElem_cons_succ, List.setIfInBounds_toArray, List.set_cons_zero, List.set_cons_succ]
          refine wpAnyH_take (i := 25) (v := ?_) rfl (by kernel_rfl) (by kernel_rfl) (by kernel_rfl) (fun _ _ _ h => h) (Or.inl ⟨by rfl, ?_⟩) (by assumption) ?_
          rotate_left
          · intro w hSw; (try dsimp only at hSw); go_simp; try with_reducible rfl
          simp only [Act.put, List.getElem_toArray, List.getElem_cons_zero, List.getElem_cons_succ, List.setIfInBounds_toArray, List.set_cons_zero, List.set_cons_succ]
          refine wpAnyH_take (i := 26) (v := ?_) rfl (by kernel_rfl) (by kernel_rfl) (by kernel_rfl) (fun _ _ _ h => h) (Or.inl ⟨by rfl, ?_⟩) (by assumption) ?_
          rotate_left
          · intro w hSw; (try dsimp only at hSw); go_simp; try with_reducible rfl
          simp only [Act.put, List.getElem_toArray, List.getElem_cons_zero, List.getElem_cons_succ, List.setIfInBounds_toArray, List.set_cons_zero, List.set_cons_succ]
          refine wpAnyH_take (i := 27) (v := ?_) rfl (by kernel_rfl) (by kernel_rfl) (by kernel_rfl) (fun _ _ _ h => h) (Or.inl ⟨by rfl, ?_⟩) (by assumption) ?_
          rotate_left
          · intro w hSw; (try dsimp only at hSw); go_simp; try with_reducible rfl
          simp only [Act.put, List.getElem_toArray, List.getElem_cons_zero, List.getElem_cons_succ, List.setIfInBounds_toArray, List.set_cons_zero, List.set_cons_succ]
          refine wpAnyH_take (i := 28) (v := ?_) rfl (by kernel_rfl) (by kernel_rfl) (by kernel_rfl) (fun _ _ _ h => h) (Or.inl ⟨by rfl, ?_⟩) (by assumption) ?_
          rotate_left
          · intro w hSw; (try dsimp only at hSw); go_simp; try with_reducible rfl
          simp only [Act.put, List.getElem_toArray, List.getElem_cons_zero, List.getElem_cons_succ, List.setIfInBounds_toArray, List.set_cons_zero, List.set_cons_succ]
          refine wpAnyH_take (i := 29) (v := ?_) rfl (by kernel_rfl) (by kernel_rfl) (by kernel_rfl) (fun _ _ _ h => h) (Or.inl ⟨by rfl, ?_⟩) (by assumption) ?_
          rotate_left
          · intro w hSw; (try dsimp only at hSw); go_simp; try with_reducible rfl
          simp only [Act.put, List.getElem_toArray, List.getElem_cons_zero, List.getElem_cons_succ, List.setIfInBounds_toArray, List.set_cons_zero, List.set_cons_succ]
          refine wpAnyH_take (i := 30) (v := ?_) rfl (by kernel_rfl) (by kernel_rfl) (by kernel_rfl) (fun _ _ _ h => h) (Or.inl ⟨by rfl, ?_⟩) (by assumption) ?_
          rotate_left
          · intro w hSw; (try dsimp only at hSw); go_simp; try with_reducible rfl
          simp only [Act.put, List.getElem_toArray, List.getElem_cons_zero, List.getElem_cons_succ, List.setIfInBounds_toArray, List.set_cons_zero, List.set_cons_succ]
          refine wpAnyH_ready (rs := [31]) (by kernel_rfl) (by simp) ?_
          refine AllReadyH.cons rfl (fun K hK => ?_) AllReadyH.nil
          go_simp
          refine hK.out _ _ ⟨e0, e1, e2, e3, e4⟩ (fun hHeld2 => ?_)
          clear hK K hHeld
          try simp only [Act.put, List.getElem_toArray, List.getElem_cons_zero, List.getElem_cons_succ, List.setIfInBounds_toArray, List.set_cons_zero, List.set_cons_succ]
          refine wpAnyH_ready (rs := [32]) (by kernel_rfl) (by simp) ?_
          refine AllReadyH.cons rfl (fun K hK => ?_) AllReadyH.nil
          go_simp
          refine (is_any HCal.out kk (wr.heap.size + 1) (some ⟨wr.heap.size, 0, none⟩) 1 1 [p] (Reads.new1 _ _ _) rfl (by omega)).mono ?_
          rintro e w1 ⟨rfl, rfl⟩
          rw [Hbb.out]
          refine hK.out _ _ ⟨e0, e1, e2, e3, e4⟩ (fun hHeld3 => ?_)
          clear hK K hHeld2
          try simp only [Act.put, List.getElem_toArray, List.getElem_cons_zero, List.getElem_cons_succ, List.setIfInBounds_toArray, List.set_cons_zero, List.set_cons_succ]
          refine wpAnyH_take (i := 33) (v := ?_) rfl (by kernel_rfl) (by kernel_rfl) (by kernel_rfl) (fun _ _ _ h => h) (Or.inl ⟨by rfl, ?_⟩) (by assumption) ?_
          rotate_left
          · intro w hSw; (try dsimp only at hSw); go_simp; try with_reducible rfl
          simp only [Act.put, List.getElem_toArray, List.getElem_cons_zero, List.getElem_cons_succ, List.setIfInBounds_toArray, List.set_cons_zero, List.set_cons_succ]
          refine wpAnyH_take (i := 34) (v := ?_) rfl (by kernel_rfl) (by kernel_rfl) (by kernel_rfl) (fun _ _ _ h => h) (Or.inl ⟨by rfl, ?_⟩) (by assumption) ?_
          rotate_left
          · intro w hSw; (try dsimp only at hSw); go_simp; try with_reducible rfl
          simp only [Act.put, List.getElem_toArray, List.getElem_cons_zero, List.getElem_cons_succ, List.setIfInBounds_toArray, List.set_cons_zero, List.set_cons_succ]
          refine wpAnyH_take (i := 35) (v := ?_) rfl (by kernel_rfl) (by kernel_rfl) (by kernel_rfl) (fun _ _ _ h => h) (Or.inl ⟨by rfl, ?_⟩) (by assumption) ?_
          rotate_left
          · intro w hSw; (try dsimp only at hSw); go_simp; try with_reducible rfl
          simp only [Act.put, List.getElem_toArray, List.getElem_cons_zero, List.getElem_cons_succ, List.setIfInBounds_toArray, List.set_cons_zero, List.set_cons_succ]
          refine wpAnyH_done (by kernel_rfl) ?_ _
          refine NoPanic.normal ?_
          clear hHeld3 e0 e1 e2 e3 e4 g0 g1 hpce hkce kc2
          have hbe := Hbq.out.drew.trans (Hal.out.mono Hbq.out.size)
          have hbe2 := Hbnd.out.drew.trans (Hal.out.mono Hbnd.out.size)
          cases bb
          · have hs : r = false := by
              rcases Hbig.out with h1 | h1
              · exact h1
              · cases h1
            have Hs := Lib.hid hs
            have Hbe := Lib.hid hbe
            have Hbe2 := Lib.hid hbe2
            clear hbe2 hbe hs
            go_wp2_with fail
            go_ret
            rw [Hs.out]
            exact ⟨rfl, Hbe2.out⟩
          · have hs := Hstep.out rfl
            have Hs := Lib.hid hs
            have Hbe := Lib.hid hbe
            have Hbe2 := Lib.hid hbe2
            clear hbe2 hbe hs
            go_wp2_with fail
            exact ⟨⟨j + 1, by omega, by go_num, Hbe.out, Lib.hid Hs.out⟩, by simp [intOf]; omega⟩
        · by_cases hpe : p = j
          · have hs := hstep (by simp [argB, hpe])
            have hne : (p != (j : Int)) = false := by simp [hpe]
            have Hs := Lib.hid hs
            have Hstep := Lib.hid hstep
            have Hbig := Lib.hid hbig
            have Hall := Lib.hid hall
            have Hbq := Lib.hid hbq
            have HCq := Lib.hid hCq
            have Hpj := Lib.hid hpj
            have Hpg := Lib.hid hpg
            have Hpp := Lib.hid hpp
            have Hkk := Lib.hid hkk
            have Hkg := Lib.hid hkg
            have HGq := Lib.hid hGq
            have Hbnd := Lib.hid hbnd
            clear hbnd hGq hkg hkk hpp hpg hpj hCq hbq hall hbig hstep hs
            go_upto_region 9 with fail
            go_quiet (fail)
            go_wp2_with fail
            exact ⟨⟨j + 1, by omega, by go_num, below_drewN Hbq.out nq, Lib.hid Hs.out⟩, by simp [intOf]; omega⟩
          · have hs : r = false := by
              rcases hbig with h1 | h1
              · exact h1
              · simp [argB, hpe] at h1
            have hne : (p != (j : Int)) = true := by simp [hpe]
            have Hs := Lib.hid hs
            have Hstep := Lib.hid hstep
            have Hbig := Lib.hid hbig
            have Hall := Lib.hid hall
            have Hbq := Lib.hid hbq
            have HCq := Lib.hid hCq
            have Hpj := Lib.hid hpj
            have Hpg := Lib.hid hpg
            have Hpp := Lib.hid hpp
            have Hkk := Lib.hid hkk
            have Hkg := Lib.hid hkg
            have HGq := Lib.hid hGq
            have Hbnd := Lib.hid hbnd
            have Hpe := Lib.hid hpe
            clear hpe hbnd hGq hkg hkk hpp hpg hpj hCq hbq hall hbig hstep hs
            go_upto_region 9 with fail
            go_quiet (fail)
            go_wp2_with fail
            go_ret
            rw [Hs.out]
            exact ⟨rfl, below_drewN Hbnd.out nq⟩
      · have hs : r = true := by
          rw [← Hr2.out]
          refine List.all_eq_true.2 fun k hk => hall.out k ?_
          have := List.mem_range.1 hk
          omega
        have hbnd := Hb0.out.trans (hbq.mono Hb0.out.size)
        have Hs := Lib.hid hs
        have Hall := Lib.hid hall
        have Hbq := Lib.hid hbq
        have HCq := Lib.hid hCq
        have Hbnd := Lib.hid hbnd
        clear hbnd hCq hbq hall hs
        go_wp2_with fail
        go_ret
        rw [Hs.out]
        exact ⟨rfl, Hbnd.out⟩
  · have hn : ((m : Int) != M) = true := by simp; omega
    have hs : r = false := by rw [← Hr.out]; simp [hmM]
    have Hs := Lib.hid hs
    have HmM := Lib.hid hmM
    clear hmM hs
    go_quiet (fail)
    go_wp2_with fail
    go_ret
    rw [Hs.out]
    refine ⟨rfl, ?_⟩
    repeat refine below_drewN ?_ _
    exact Hb.out
end Go.Proofs.Ytncpehhfjkncoaa
