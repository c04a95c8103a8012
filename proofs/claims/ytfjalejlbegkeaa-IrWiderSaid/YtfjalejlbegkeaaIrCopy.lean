/- Walk of ir.Copy. Conditions: the graphs lie in memory, within the reach. -/
import Derived.Test.YtfjalejlbegkeaaIrClone
set_option linter.unusedVariables false
set_option linter.unusedSimpArgs false
namespace Go.Proofs.Ytfjalejlbegkeaa
open Go.RowKit

/-- no two graphs' kinds in one block -/
def kvOf (cs : List Value) : Value := cs.getD 1 undef
def KApart (css : List (List Value)) : Prop := ∀ (i j : Nat) ci cj, i < j → css[i]? = some ci → css[j]? = some cj → ∀ a, (kvOf ci).ownBlock = some a → (kvOf cj).ownBlock ≠ some a
theorem KApart.nil : KApart [] := by intro i j ci cj _ h; simp at h
theorem KApart.snoc {css : List (List Value)} {c : List Value} {B : Nat} (h : KApart css) (h1 : ∀ (i : Nat) ci, css[i]? = some ci → ∀ a, (kvOf ci).ownBlock = some a → a < B) (h2 : ∀ a, (kvOf c).ownBlock = some a → B ≤ a) : KApart (css ++ [c]) := by
  intro i j ci cj hij hi hj a ha hb
  have hjl := (List.getElem?_eq_some_iff.1 hj).1
  simp only [List.length_append, List.length_cons, List.length_nil] at hjl
  rw [List.getElem?_append_left (by omega)] at hi
  rcases Nat.lt_or_ge j css.length with h3 | h3
  · rw [List.getElem?_append_left h3] at hj
    exact h i j ci cj hij hi hj a ha hb
  · rw [List.getElem?_append_right h3] at hj
    have h0 : j - css.length = 0 := by omega
    rw [h0] at hj
    simp only [List.getElem?_cons_zero, Option.some.injEq] at hj
    subst hj
    have := h1 i ci hi a ha
    have := h2 a hb
    omega
theorem GsOwn.kvlt {w : World} {base : Nat} {css : List (List Value)} {gs : List GraphD} (h : GsOwn w base css gs) (i : Nat) (ci : List Value) (hi : css[i]? = some ci) (a : Nat) (ha : (kvOf ci).ownBlock = some a) : a < w.heap.size := by
  have hl : i < gs.length := by rw [← h.1]; exact (List.getElem?_eq_some_iff.1 hi).1
  obtain ⟨cs, h1, pv, kv, iv, nv, rfl, _, hk, _⟩ := h.2 i gs[i] (List.getElem?_eq_getElem hl)
  rw [hi] at h1
  injection h1 with h1
  subst h1
  exact (World.ownsRow.lt hk a ha).2
def CopyPost2 (gs : List GraphD) (w : World) (e : Ending) (w' : World) : Prop :=
  Below w.heap.size w w' ∧ ∃ pv css, e = .returned (.agg #[pv]) ∧ w'.ownsRow w.heap.size 45 8 pv gs.length css.flatten ∧ GsOwn w' w.heap.size css gs ∧ KApart css
def CopyRel2 (w : World) (T U : Nat) (gs : List GraphD) (j : Nat) (wr : World) : Prop :=
  ∃ (css : List (List Value)) (pv : Value), wr.ownsRow w.heap.size 45 8 pv j css.flatten ∧ GsOwn wr w.heap.size css (gs.take j) ∧ Blk wr T 24 #[pv] ∧ Blk wr U 24 #[.slice none 0 0] ∧ Below w.heap.size w wr ∧ KApart css

set_option maxRecDepth 100000 in
set_option maxHeartbeats 8000000 in
theorem copy_any2 (gsv : Value) (gs : List GraphD) (w : World) (B : Nat) (hp : GraphsAt w B gsv gs) (hB : B ≤ w.heap.size) (hs : GsSmall gs) :
    Calls Try.prog 19 #[.agg #[gsv]] w fun e w' => CopyPost2 gs w e w' := by
  obtain ⟨i0, hi0, hz0, hz1, hz2⟩ := info_parts infoIntr
  obtain ⟨ik, hik, hkz0, hkz1, hkz2⟩ := info_parts infoKindr
  obtain ⟨i1, hi1, hv0, hv1, hv2⟩ := info_parts infoNode
  obtain ⟨ig, hig, hgz0, hgz1, hgz2⟩ := info_parts infoGraph
  obtain ⟨A, c, rfl, hc1, hc2⟩ := hp.slice
  obtain ⟨n, hl⟩ : ∃ n, gs.length = n := ⟨_, rfl⟩
  rw [hl] at hp hc1 ⊢
  unfold maxLen at hc2
  have hn128 := hs.len
  rw [hl] at hn128
  have HL := Lib.hid hl
  have HP := Lib.hid hp
  have HS := Lib.hid hs
  clear hs hp hl
  go_enter Try.func19, Try.ntmps19
  go_wp2_with fail
  obtain ⟨U, hU⟩ : ∃ U, U = w.heap.size + 1 := ⟨_, rfl⟩
  obtain ⟨T, hT⟩ : ∃ T, T = w.heap.size + 1 + 1 := ⟨_, rfl⟩
  rw [← hT, ← hU]
  obtain ⟨W0, hW0⟩ : ∃ W0, W0 = ((w.alloc (.cells #[.slice A n c] 24)).alloc (.cells #[.slice none 0 0] 24)).alloc (.cells #[.slice none 0 0] 24) := ⟨_, rfl⟩
  rw [← hW0]
  have hTb : Blk W0 T 24 #[.slice none 0 0] := by
    have := Blk.new ((w.alloc (.cells #[.slice A n c] 24)).alloc (.cells #[.slice none 0 0] 24)) 24 #[.slice none 0 0]
    simp only [World.size_alloc] at this
    rw [hW0, hT]; exact this
  have hUb : Blk W0 U 24 #[.slice none 0 0] := by
    have := (Blk.new (w.alloc (.cells #[.slice A n c] 24)) 24 #[.slice none 0 0]).alloc (.cells #[.slice none 0 0] 24)
    simp only [World.size_alloc] at this
    rw [hW0, hU]; exact this
  have hb0 : Below w.heap.size w W0 := by rw [hW0]; exact (((Below.refl _ _).alloc (Nat.le_refl _) _).alloc (by simp) _).alloc (by simp; omega) _
  have o1 : w.heap.size ≤ U := by omega
  have o2 : U < T := by omega
  have HTb := Lib.hid hTb
  have HUb := Lib.hid hUb
  have Hb0 := Lib.hid hb0
  clear hb0 hUb hTb
  clear hW0 hT hU
  go_loopw [10] (fun i wr => ∃ j : Nat, j ≤ n ∧ i = .int .i64 j ∧ CopyRel2 w T U gs j wr) (fun i _ => n - (intOf i).toNat)
  case atStart => exact ⟨0, by omega, rfl, [], _, World.ownsRow_nil _ _ _ _, by simpa using GsOwn.nil _ _, HTb.out, HUb.out, Hb0.out, KApart.nil⟩
  case round =>
    obtain ⟨j, hj, rfl, cs4, pv, hO4, hF4, hT4, hU4, hb4, hKA4⟩ := hrel
    have HKA := Lib.hid hKA4
    clear hKA4
    have hsz4 := hb4.size
    have hTl := hT4.lt
    by_cases hlt : j < n
    · obtain ⟨g, hfk⟩ : ∃ g, gs[j]? = some g := ⟨_, List.getElem?_eq_getElem (by have := HL.out; omega)⟩
      obtain ⟨ad, pv0, kv0, iv0, nv0, hA, _, hM⟩ := (HP.out.below (hb4.mono hB)).at_ hfk
      subst hA
      obtain ⟨PA, pn, pc, KA, kn, kc, IA, il, ic, NA, nn, nc, rfl, rfl, rfl, rfl, hpn, hkn, hil, hnn⟩ := hM.forms
      have m0 := hM.c0
      have m1 := hM.c1
      have m2 := hM.c2
      have m3 := hM.c3
      have m4 := hM.c4
      have m5 := hM.c5
      have m6 := hM.c6
      have m7 := hM.c7
      obtain ⟨s1, s2, s3, s4, s5⟩ := HS.out.each g (List.mem_of_getElem? hfk)
      rw [hpn] at s1
      rw [hkn] at s2
      rw [hil] at s3
      rw [hnn] at s4
      obtain ⟨rP, hcapP⟩ : Reads wr B 1 PA pn (g.params.map (Value.int .i64)) ∧ pn ≤ pc ∧ pc ≤ maxLen := by
        obtain ⟨_, _, _, e, k1, k2, h3, h4⟩ := hM.params
        injection e with e1 e2 e3
        subst e1 e2 e3
        exact ⟨h4, k1, k2⟩
      obtain ⟨rK, hcapK⟩ : Reads wr B 1 KA kn (g.kinds.map (Value.int .u8)) ∧ kn ≤ kc ∧ kc ≤ maxLen := by
        obtain ⟨_, _, _, e, k1, k2, h3, h4⟩ := hM.kinds
        injection e with e1 e2 e3
        subst e1 e2 e3
        exact ⟨h4, k1, k2⟩
      obtain ⟨rI, hcapI⟩ : Reads wr B 1 IA il (g.init.map (Value.int .i64)) ∧ il ≤ ic ∧ ic ≤ maxLen := by
        obtain ⟨_, _, _, e, k1, k2, h3, h4⟩ := hM.init
        injection e with e1 e2 e3
        subst e1 e2 e3
        exact ⟨h4, k1, k2⟩
      obtain ⟨css, hcl, rN, hcs, hnb, hcapN⟩ : ∃ css : List (List Value), css.length = nn ∧ Reads wr B 12 NA nn css.flatten ∧ (∀ (i : Nat) x, g.nodes[i]? = some x → ∃ cs, css[i]? = some cs ∧ NodeAt wr B cs x) ∧ nn ≤ maxLen ∧ nn ≤ nc ∧ nc ≤ maxLen := by
        obtain ⟨_, _, _, css, e, q1, q2, h3, h4, h5, h6, h7⟩ := hM.nodes
        injection e with e1 e2 e3
        subst e1 e2 e3
        exact ⟨css, h4, h6, h7, Nat.le_trans q1 q2, q1, q2⟩
      unfold maxLen at hnb
      have hone := nodes_one (by rw [hcl, hnn]) hcs
      have hnT : pv.ownBlock ≠ some T := own_blk_ne hO4 hT4 (by decide)
      obtain ⟨F, hF⟩ : ∃ F, F = wr.heap.size := ⟨_, rfl⟩
      have hFb := Blk.new wr 45 #[.slice PA pn pc, .slice KA kn kc, .int .i64 g.cells, .slice IA il ic, .bool g.result, .int .i64 g.keep, .slice NA nn nc, .int .i64 g.entry]
      have hb1 := (Below.refl wr.heap.size wr).alloc (Nat.le_refl _) (.cells #[.slice PA pn pc, .slice KA kn kc, .int .i64 g.cells, .slice IA il ic, .bool g.result, .int .i64 g.keep, .slice NA nn nc, .int .i64 g.entry] 45)
      obtain ⟨W1, hW1⟩ : ∃ W1, W1 = wr.alloc (.cells #[.slice PA pn pc, .slice KA kn kc, .int .i64 g.cells, .slice IA il ic, .bool g.result, .int .i64 g.keep, .slice NA nn nc, .int .i64 g.entry] 45) := ⟨_, rfl⟩
      rw [← hW1] at hFb hb1
      rw [← hF] at hFb
      have HO4 := Lib.hid hO4
      have HF4 := Lib.hid hF4
      have HT4 := Lib.hid hT4
      have HU4 := Lib.hid hU4
      have Hb4 := Lib.hid hb4
      have Hfk := Lib.hid hfk
      have HM := Lib.hid hM
      have Hpn := Lib.hid hpn
      have Hkn := Lib.hid hkn
      have Hil := Lib.hid hil
      have Hnn := Lib.hid hnn
      have HrP := Lib.hid rP
      have HrK := Lib.hid rK
      have HrI := Lib.hid rI
      have HrN := Lib.hid rN
      have Hcs := Lib.hid hcs
      have Hcl := Lib.hid hcl
      have Hone := Lib.hid hone
      have Hs5 := Lib.hid s5
      have HF := Lib.hid hF
      have HW1 := Lib.hid hW1
      have HF1 := Lib.hid hFb
      have HB1 := Lib.hid hb1
      clear hb1 hFb hW1 hF s5 hone hcl hcs rN rI rK rP hnn hil hkn hpn hM hfk hb4 hU4 hT4 hF4 hO4
      go_upto_region 5 with fail
      rw [← HW1.out, ← HF.out]
      clear m0 m1 m2 m3 m4 m5 m6 m7
      have hBF : B ≤ F := by have := HF.out; omega
      have ka0 := Blk.cell HF1.out 0
      have ka1 := Blk.cell HF1.out 1
      have ka3 := Blk.cell HF1.out 3
      simp only [List.getElem?_toArray, List.getElem?_cons_zero, List.getElem?_cons_succ] at ka0 ka1 ka3
      have hFl1 := HF1.out.lt
      have hs1 := HB1.out.size
      have rP1 := HrP.out.below (HB1.out.mono (show B ≤ wr.heap.size by omega))
      have hc1 := clone_ints PA pn pc (g.params.map (Value.int .i64)) W1.drew B (show Reads W1.drew B 1 PA pn _ from rP1) (nums_one _ _) hcapP.1 hcapP.2 (show B ≤ W1.heap.size by omega) (by omega)
      have Hc1 := Lib.hid hc1
      have HrP1 := Lib.hid rP1
      clear rP1 hc1
      refine wp_region_late (S := fun W => W.cell? ⟨F, 0, none⟩ = some (.slice PA pn pc) ∧ W.cell? ⟨F, 1, none⟩ = some (.slice KA kn kc) ∧ W.cell? ⟨F, 3, none⟩ = some (.slice IA il ic)) #[false, false, false, false, false, false, false, false, false, false, true, true, true, true, true] (by kernel_rfl) ⟨ka0, ka1, ka3⟩ (fun hHeld => ?_)
      refine wpAnyL_take (i := 0) (v := ?_) rfl (by kernel_rfl) (by kernel_rfl) (by kernel_rfl) (by kernel_rfl) (fun _ _ _ h => h) (Or.inl ⟨by rfl, ?_⟩) (by assumption) ?_
      rotate_left
      · intro w hSw; (try dsimp only at hSw); go_simp; try with_reducible rfl
      simp only [Act.put, List.getElem_toArray, List.getElem_cons_zero, List.getElem_cons_succ, List.setIfInBounds_toArray, List.set_cons_zero, List.set_cons_succ]
      refine wpAnyL_take (i := 1) (v := ?_) rfl (by kernel_rfl) (by kernel_rfl) (by kernel_rfl) (by kernel_rfl) (fun _ _ _ h => h) (Or.inl ⟨by rfl, ?_⟩) (by assumption) ?_
      rotate_left
      · intro w hSw; (try dsimp only at hSw); go_simp; try with_reducible rfl
      simp only [Act.put, List.getElem_toArray, List.getElem_cons_zero, List.getElem_cons_succ, List.setIfInBounds_toArray, List.set_cons_zero, List.set_cons_succ]
      refine wpAnyL_take (i := 3) (v := ?_) rfl (by kernel_rfl) (by kernel_rfl) (by kernel_rfl) (by kernel_rfl) (fun _ _ _ h => h) (Or.inl ⟨by rfl, ?_⟩) (by assumption) ?_
      rotate_left
      · intro w hSw; (try dsimp only at hSw); go_simp; try with_reducible rfl
      simp only [Act.put, List.getElem_toArray, List.getElem_cons_zero, List.getElem_cons_succ, List.setIfInBounds_toArray, List.set_cons_zero, List.set_cons_succ]
      refine wpAnyL_take (i := 4) (v := ?_) rfl (by kernel_rfl) (by kernel_rfl) (by kernel_rfl) (by kernel_rfl) (fun _ _ _ h => h) (Or.inl ⟨by rfl, ?_⟩) (by assumption) ?_
      rotate_left
      · intro w hSw; (try dsimp only at hSw); go_simp; try with_reducible rfl
      simp only [Act.put, List.getElem_toArray, List.getElem_cons_zero, List.getElem_cons_succ, List.setIfInBounds_toArray, List.set_cons_zero, List.set_cons_succ]
      refine wpAnyL_take (i := 6) (v := ?_) rfl (by kernel_rfl) (by kernel_rfl) (by kernel_rfl) (by kernel_rfl) (fun _ _ _ h => h) (Or.inl ⟨by rfl, ?_⟩) (by assumption) ?_
      rotate_left
      · intro w hSw; (try dsimp only at hSw); go_simp; try with_reducible rfl
      simp only [Act.put, List.getElem_toArray, List.getElem_cons_zero, List.getElem_cons_succ, List.setIfInBounds_toArray, List.set_cons_zero, List.set_cons_succ]
      refine wpAnyL_take (i := 7) (v := ?_) rfl (by kernel_rfl) (by kernel_rfl) (by kernel_rfl) (by kernel_rfl) (fun _ _ _ h => h) (Or.inl ⟨by rfl, ?_⟩) (by assumption) ?_
      rotate_left
      · intro w hSw; (try dsimp only at hSw); go_simp; try with_reducible rfl
      simp only [Act.put, List.getElem_toArray, List.getElem_cons_zero, List.getElem_cons_succ, List.setIfInBounds_toArray, List.set_cons_zero, List.set_cons_succ]
      refine wpAnyL_ready (rs := [2]) (by kernel_rfl) (by simp) ?_
      refine AllReadyL.cons rfl (fun K hK => ?_) AllReadyL.nil
      go_simp
      refine Hc1.out.mono ?_
      rintro e w2 ⟨hb2, V0, x0, rfl, hO2⟩
      have hb2 : Below W1.heap.size W1 w2 := (Below.refl W1.heap.size W1).drew.trans hb2
      have hF2 := HF1.out.below hb2 hFl1
      have hs2 := hb2.size
      have hc2 := clone_kinds KA kn kc (g.kinds.map (Value.int .u8)) w2 B (HrK.out.below ((HB1.out.trans (hb2.mono hs1)).mono (by omega))) (nums_one _ _) hcapK.1 hcapK.2 (by omega) (by omega)
      refine hK.out _ _ ⟨hF2.cell 0, hF2.cell 1, hF2.cell 3⟩ (fun hHeld2 => ?_)
      have Hb2 := Lib.hid hb2
      have HF2 := Lib.hid hF2
      have Hc2 := Lib.hid hc2
      have HO2 := Lib.hid hO2
      clear hO2 hc2 hF2 hb2
      clear hK K hHeld
      try simp only [Act.put, List.getElem_toArray, List.getElem_cons_zero, List.getElem_cons_succ, List.setIfInBounds_toArray, List.set_cons_zero, List.set_cons_succ]
      refine wpAnyL_take (i := 9) (v := ?_) rfl (by kernel_rfl) (by kernel_rfl) (by kernel_rfl) (by kernel_rfl) (fun _ _ _ h => h) (Or.inl ⟨by rfl, ?_⟩) (by assumption) ?_
      rotate_left
      · intro w hSw; (try dsimp only at hSw); go_simp; try with_reducible rfl
      simp only [Act.put, List.getElem_toArray, List.getElem_cons_zero, List.getElem_cons_succ, List.setIfInBounds_toArray, List.set_cons_zero, List.set_cons_succ]
      refine wpAnyL_ready (rs := [5]) (by kernel_rfl) (by simp) ?_
      refine AllReadyL.cons rfl (fun K hK => ?_) AllReadyL.nil
      go_simp
      refine Hc2.out.mono ?_
      rintro e w3 ⟨hb3, V1, x1, rfl, hO3⟩
      have hF3 := HF2.out.below hb3 (by omega)
      have hs3 := hb3.size
      have hb13 := Hb2.out.trans (hb3.mono hs2)
      have hO23 := own_kept' HO2.out (only_of_below hb3 none) nofun
      have hc3 := clone_ints IA il ic (g.init.map (Value.int .i64)) w3 B (HrI.out.below ((HB1.out.trans (hb13.mono hs1)).mono (by omega))) (nums_one _ _) hcapI.1 hcapI.2 (by omega) (by omega)
      refine hK.out _ _ ⟨hF3.cell 0, hF3.cell 1, hF3.cell 3⟩ (fun hHeld3 => ?_)
      have Hb3 := Lib.hid hb3
      have HF3 := Lib.hid hF3
      have Hb13 := Lib.hid hb13
      have HO23 := Lib.hid hO23
      have Hc3 := Lib.hid hc3
      have HO3 := Lib.hid hO3
      clear hO3 hc3 hO23 hb13 hF3 hb3
      clear hK K hHeld2
      try simp only [Act.put, List.getElem_toArray, List.getElem_cons_zero, List.getElem_cons_succ, List.setIfInBounds_toArray, List.set_cons_zero, List.set_cons_succ]
      refine wpAnyL_ready (rs := [8]) (by kernel_rfl) (by simp) ?_
      refine AllReadyL.cons rfl (fun K hK => ?_) AllReadyL.nil
      go_simp
      refine Hc3.out.mono ?_
      rintro e w4 ⟨hb4', V2, x2, rfl, hO4'⟩
      have hF4' := HF3.out.below hb4' (by omega)
      have hb14 := Hb13.out.trans (hb4'.mono (by omega))
      have hO24 := own_kept' HO23.out (only_of_below hb4' none) nofun
      have hO34 := own_kept' HO3.out (only_of_below hb4' none) nofun
      have hs4 := hb4'.size
      refine hK.out _ _ ⟨hF4'.cell 0, hF4'.cell 1, hF4'.cell 3⟩ (fun hHeld4 => ?_)
      have f40 := Blk.frozen hF4' 0
      have f41 := Blk.frozen hF4' 1
      have f43 := Blk.frozen hF4' 3
      have kb0 := Blk.cell hF4' 0
      have kb1 := Blk.cell hF4' 1
      have kb3 := Blk.cell hF4' 3
      simp only [List.getElem?_toArray, List.getElem?_cons_zero, List.getElem?_cons_succ] at kb0 kb1 kb3
      have Hb4' := Lib.hid hb4'
      have HFF4 := Lib.hid hF4'
      have Hb14 := Lib.hid hb14
      have HO24 := Lib.hid hO24
      have HO34 := Lib.hid hO34
      have HOO4 := Lib.hid hO4'
      clear hO4' hO34 hO24 hb14 hF4' hb4'
      clear hK K hHeld3
      try simp only [Act.put, List.getElem_toArray, List.getElem_cons_zero, List.getElem_cons_succ, List.setIfInBounds_toArray, List.set_cons_zero, List.set_cons_succ]
      refine wpAnyL_ready (rs := [10]) (by kernel_rfl) (by simp) ?_
      refine AllReadyL.last rfl (by kernel_rfl) (fun K hK => ?_) AllReadyL.nil
      go_simp
      refine hK.out _ _ ?_
      clear hK K hHeld4
      try simp only [Act.put, List.getElem_toArray, List.getElem_cons_zero, List.getElem_cons_succ, List.setIfInBounds_toArray, List.set_cons_zero, List.set_cons_succ]
      refine wpAnyL_ready (rs := [11]) (by kernel_rfl) (by simp) ?_
      refine AllReadyL.last rfl (by kernel_rfl) (fun K hK => ?_) AllReadyL.nil
      go_simp
      refine hK.out _ _ ?_
      clear hK K
      try simp only [Act.put, List.getElem_toArray, List.getElem_cons_zero, List.getElem_cons_succ, List.setIfInBounds_toArray, List.set_cons_zero, List.set_cons_succ]
      have hG1 := HFF4.out.set_ 0 (.slice V0 pn x0)
      have g11 := Blk.cell hG1 1
      have h11 := Blk.frozen hG1 1
      have HG1 := Lib.hid hG1
      clear hG1
      refine wpAnyL_ready (rs := [12]) (by kernel_rfl) (by simp) ?_
      refine AllReadyL.last rfl (by kernel_rfl) (fun K hK => ?_) AllReadyL.nil
      go_simp
      refine hK.out _ _ ?_
      clear hK K
      try simp only [Act.put, List.getElem_toArray, List.getElem_cons_zero, List.getElem_cons_succ, List.setIfInBounds_toArray, List.set_cons_zero, List.set_cons_succ]
      refine wpAnyL_ready (rs := [13]) (by kernel_rfl) (by simp) ?_
      refine AllReadyL.last rfl (by kernel_rfl) (fun K hK => ?_) AllReadyL.nil
      go_simp
      refine hK.out _ _ ?_
      clear hK K
      try simp only [Act.put, List.getElem_toArray, List.getElem_cons_zero, List.getElem_cons_succ, List.setIfInBounds_toArray, List.set_cons_zero, List.set_cons_succ]
      have hG2 := HG1.out.set_ 1 (.slice V1 kn x1)
      have g23 := Blk.cell hG2 3
      have h23 := Blk.frozen hG2 3
      have HG2 := Lib.hid hG2
      clear hG2
      refine wpAnyL_ready (rs := [14]) (by kernel_rfl) (by simp) ?_
      refine AllReadyL.last rfl (by kernel_rfl) (fun K hK => ?_) AllReadyL.nil
      go_simp
      refine hK.out _ _ ?_
      clear hK K
      refine wpAnyL_done (by kernel_rfl) ?_ _
      obtain ⟨W4, hW4⟩ : ∃ W4, W4 = ((w4.setCell ⟨F, 0, none⟩ (.slice V0 pn x0)).setCell ⟨F, 1, none⟩ (.slice V1 kn x1)).setCell ⟨F, 3, none⟩ (.slice V2 il x2) := ⟨_, rfl⟩
      rw [← hW4]
      have hFn : Blk W4 F 45 #[.slice V0 pn x0, .slice V1 kn x1, .int .i64 g.cells, .slice V2 il x2, .bool g.result, .int .i64 g.keep, .slice NA nn nc, .int .i64 g.entry] := by rw [hW4]; exact HG2.out.set_ 3 _
      have hbn : Below wr.heap.size wr W4 := by
        rw [hW4]
        have hF := HF.out
        exact (((HB1.out.trans (Hb14.out.mono hs1)).setCell (p := ⟨F, 0, none⟩) (by simp only; omega) _).setCell (p := ⟨F, 1, none⟩) (by simp only; omega) _).setCell (p := ⟨F, 3, none⟩) (by simp only; omega) _
      have own0 : IntsOwn W4 wr.heap.size (.slice V0 pn x0) g.params := by
        have h : IntsOwn w4 wr.heap.size (.slice V0 pn x0) g.params := by unfold IntsOwn; rw [Hpn.out]; exact own_base HO24.out (show wr.heap.size ≤ W1.heap.size by omega)
        rw [hW4]
        exact ((h.far HFF4.out (by decide)).far HG1.out (by decide)).far HG2.out (by decide)
      have own1 : KindsOwn W4 wr.heap.size (.slice V1 kn x1) g.kinds := by
        have h : KindsOwn w4 wr.heap.size (.slice V1 kn x1) g.kinds := by unfold KindsOwn; rw [Hkn.out]; exact own_base HO34.out (show wr.heap.size ≤ w2.heap.size by omega)
        rw [hW4]
        exact ((h.far HFF4.out (by decide)).far HG1.out (by decide)).far HG2.out (by decide)
      have own2 : IntsOwn W4 wr.heap.size (.slice V2 il x2) g.init := by
        have h : IntsOwn w4 wr.heap.size (.slice V2 il x2) g.init := by unfold IntsOwn; rw [Hil.out]; exact own_base HOO4.out (show wr.heap.size ≤ w3.heap.size by omega)
        rw [hW4]
        exact ((h.far HFF4.out (by decide)).far HG1.out (by decide)).far HG2.out (by decide)
      have HFn := Lib.hid hFn
      have Hbn := Lib.hid hbn
      have Own0 := Lib.hid own0
      have Own1 := Lib.hid own1
      have Own2 := Lib.hid own2
      clear own2 own1 own0 hbn hFn
      clear hW4 kb0 kb1 kb3 f40 f41 f43 g11 h11 g23 h23 ka0 ka1 ka3
      have hs4w : wr.heap.size ≤ W4.heap.size := Hbn.out.size
      have hcN := clone_nodes NA nn nc css.flatten W4 B (HrN.out.below (Hbn.out.mono (by omega))) Hone.out hcapN.1 hcapN.2 (by omega) (by omega)
      have ka := HFn.out.cell 6
      simp only [List.getElem?_toArray, List.getElem?_cons_zero, List.getElem?_cons_succ] at ka
      have HcN := Lib.hid hcN
      clear hcN
      go_wp2_with fail
      refine HcN.out.mono ?_
      rintro e w5 ⟨hb5, V3, x3, rfl, hO5⟩
      have hF5 := HFn.out.below hb5 HFn.out.lt
      have k5 := Blk.cell hF5 6
      have f5 := Blk.frozen hF5 6
      simp only [List.getElem?_toArray, List.getElem?_cons_zero, List.getElem?_cons_succ] at k5
      clear ka
      have Hb5 := Lib.hid hb5
      have HF5 := Lib.hid hF5
      have HO5 := Lib.hid hO5
      clear hO5 hF5 hb5
      go_upto_region 7 with fail
      obtain ⟨W5, hW5⟩ : ∃ W5, W5 = w5.setCell ⟨F, 6, none⟩ (.slice V3 nn x3) := ⟨_, rfl⟩
      rw [← hW5]
      have hFn5 : Blk W5 F 45 #[.slice V0 pn x0, .slice V1 kn x1, .int .i64 g.cells, .slice V2 il x2, .bool g.result, .int .i64 g.keep, .slice V3 nn x3, .int .i64 g.entry] := by rw [hW5]; exact HF5.out.set_ 6 _
      have hbn5 : Below wr.heap.size wr W5 := by
        rw [hW5]
        exact (Hbn.out.trans (Hb5.out.mono hs4w)).setCell (p := ⟨F, 6, none⟩) (by have := HF.out; simp only; omega) _
      have own0 : IntsOwn W5 wr.heap.size (.slice V0 pn x0) g.params := by rw [hW5]; exact (Own0.out.kept (only_of_below Hb5.out none) (Far.none_ _)).far HF5.out (by decide)
      have own1 : KindsOwn W5 wr.heap.size (.slice V1 kn x1) g.kinds := by rw [hW5]; exact (Own1.out.kept (only_of_below Hb5.out none) (Far.none_ _)).far HF5.out (by decide)
      have own2 : IntsOwn W5 wr.heap.size (.slice V2 il x2) g.init := by rw [hW5]; exact (Own2.out.kept (only_of_below Hb5.out none) (Far.none_ _)).far HF5.out (by decide)
      have mid : NodesMid W5 wr.heap.size B 0 (.slice V3 nn x3) g.nodes := by
        have h : NodesMid w5 wr.heap.size B 0 (.slice V3 nn x3) g.nodes := NodesMid.start (v0 := .slice none 0 0) Hnn.out Hcl.out (own_base HO5.out hs4w) fun i x hx => by
          obtain ⟨cs, q1, q2⟩ := Hcs.out i x hx
          exact ⟨cs, q1, q2.below ((Hbn.out.trans (Hb5.out.mono hs4w)).mono (by omega))⟩
        rw [hW5]
        exact h.kept (grown_setCell w5 ⟨F, 6, none⟩ _) (Far.blk HF5.out (by decide) (by decide) (by decide)) (Nat.le_trans (by omega : B ≤ W4.heap.size) Hb5.out.size) (fun g e => by injection e with e; subst e; exact hBF)
      have HF5' := Lib.hid hFn5
      have HB5 := Lib.hid hbn5
      have Hown0 := Lib.hid own0
      have Hown1 := Lib.hid own1
      have Hown2 := Lib.hid own2
      have Hmid := Lib.hid mid
      clear mid own2 own1 own0 hbn5 hFn5
      clear hW5 k5 f5
      have hsW5 : wr.heap.size ≤ W5.heap.size := HB5.out.size
      have ka := HF5'.out.cell 6
      simp only [List.getElem?_toArray, List.getElem?_cons_zero, List.getElem?_cons_succ] at ka
      go_wp2_with fail
      clear ka
      obtain ⟨wo, rfl⟩ : ∃ wo : World, wo = wr := ⟨_, rfl⟩
      go_loopw [33] (fun i wq => ∃ k : Nat, k ≤ nn ∧ i = .int .i64 k ∧ Below wo.heap.size wo wq ∧ Blk wq F 45 #[.slice V0 pn x0, .slice V1 kn x1, .int .i64 g.cells, .slice V2 il x2, .bool g.result, .int .i64 g.keep, .slice V3 nn x3, .int .i64 g.entry] ∧ IntsOwn wq wo.heap.size (.slice V0 pn x0) g.params ∧ KindsOwn wq wo.heap.size (.slice V1 kn x1) g.kinds ∧ IntsOwn wq wo.heap.size (.slice V2 il x2) g.init ∧ NodesMid wq wo.heap.size B k (.slice V3 nn x3) g.nodes) (fun i _ => nn - (intOf i).toNat)
      case atStart => exact ⟨0, by omega, rfl, HB5.out, HF5'.out, Hown0.out, Hown1.out, Hown2.out, Hmid.out⟩
      case round =>
        obtain ⟨k, hk, rfl, hbq, hFq, hPq, hKq, hIq, hNq⟩ := hrel
        have hsq := hbq.size
        have hkn0 : nn ≤ 9223372036854775807 := by omega
        by_cases hlt2 : k < nn
        · obtain ⟨nss, hnl, hno, hnx⟩ := id hNq
          have hjI : (k : Int) < nn := by omega
          obtain ⟨x, hxk⟩ : ∃ x, g.nodes[k]? = some x := ⟨_, List.getElem?_eq_getElem (by rw [Hnn.out]; exact hlt2)⟩
          obtain ⟨av, hav1, _, hav2⟩ := hnx k x hxk
          have hav := hav2 (Nat.le_refl _)
          have hl12 := ncells_len (P := fun _ _ _ => True) hnl fun i y hy => (hnx i y hy).imp fun a b => ⟨b.1, trivial⟩
          obtain ⟨AA, aac, rfl, hac1, hac2, hAr⟩ := hav.slice
          rw [Hnn.out] at hno hnl
          obtain ⟨GN, cN, eV, hGN, hGNl, _, _⟩ := own_form hno (by omega)
          injection eV with eV1 _ eV3
          subst eV1 eV3
          have hcell := hno.cells (g := GN) rfl
          have hc9 := hcell (k * 12 + 9) (.slice AA x.args.length aac) (by rw [flatten_get nss 12 k _ hav1 hl12 9 (by omega)]; rfl)
          rw [addr_zero] at hc9
          obtain ⟨NB, hNB⟩ := own_blk hno rfl
          have hfr := Blk.frozen hNB (k * 12 + 9)
          have kf6 := Blk.cell hFq 6
          simp only [List.getElem?_toArray, List.getElem?_cons_zero, List.getElem?_cons_succ] at kf6
          have hsx := Hs5.out x (List.mem_of_getElem? hxk)
          obtain ⟨xl, hxl⟩ : ∃ xl, x.args.length = xl := ⟨_, rfl⟩
          rw [hxl] at hc9 hAr hav1 hsx hac1
          have hlF := hFq.lt
          have hlN := hNB.lt
          have hcl := clone_ints AA xl aac (x.args.map (Value.int .i64)) wr.drew B (show Reads wr.drew B 1 AA xl _ from hAr) (nums_one _ _) hac1 hac2 (show B ≤ wr.heap.size by omega) (by omega)
          have Hbq := Lib.hid hbq
          have HFq := Lib.hid hFq
          have HPq := Lib.hid hPq
          have HKq := Lib.hid hKq
          have HIq := Lib.hid hIq
          have HNq := Lib.hid hNq
          have Hno := Lib.hid hno
          have Hnl := Lib.hid hnl
          have Hnx := Lib.hid hnx
          have Hxk := Lib.hid hxk
          have Hav1 := Lib.hid hav1
          have Hav := Lib.hid hav
          have Hav2 := Lib.hid hav2
          have Hl12 := Lib.hid hl12
          have HAr := Lib.hid hAr
          have Hcell := Lib.hid hcell
          have HNB := Lib.hid hNB
          have Hxl := Lib.hid hxl
          have Hcl := Lib.hid hcl
          clear hcl hxl hNB hcell hAr hl12 hav2 hav hav1 hxk hnx hnl hno hNq hIq hKq hPq hFq hbq
          go_upto_region 10 with fail
          refine wp_region_late (S := fun W => W.cell? ⟨F, 6, none⟩ = some (.slice (some ⟨GN, 0, none⟩) nn x3) ∧ W.cell? ⟨GN, k * 12 + 9, none⟩ = some (.slice AA xl aac)) #[false, false, false, false, false, false, false, false, false, false, false, false, true] (by kernel_rfl) ⟨kf6, hc9⟩ (fun hHeld => ?_)
          refine wpAnyL_take (i := 0) (v := ?_) rfl (by kernel_rfl) (by kernel_rfl) (by kernel_rfl) (by kernel_rfl) (fun _ _ _ h => h) (Or.inl ⟨by rfl, ?_⟩) (by assumption) ?_
          rotate_left
          · intro w hSw; (try dsimp only at hSw); go_simp; try with_reducible rfl
          simp only [Act.put, List.getElem_toArray, List.getElem_cons_zero, List.getElem_cons_succ, List.setIfInBounds_toArray, List.set_cons_zero, List.set_cons_succ]
          refine wpAnyL_take (i := 1) (v := ?_) rfl (by kernel_rfl) (by kernel_rfl) (by kernel_rfl) (by kernel_rfl) (fun _ _ _ h => h) (Or.inl ⟨by rfl, ?_⟩) (by assumption) ?_
          rotate_left
          · intro w hSw; (try dsimp only at hSw); go_simp; try with_reducible rfl
          simp only [Act.put, List.getElem_toArray, List.getElem_cons_zero, List.getElem_cons_succ, List.setIfInBounds_toArray, List.set_cons_zero, List.set_cons_succ]
          refine wpAnyL_take (i := 2) (v := ?_) rfl (by kernel_rfl) (by kernel_rfl) (by kernel_rfl) (by kernel_rfl) (fun _ _ _ h => h) (Or.inl ⟨by rfl, ?_⟩) (by assumption) ?_
          rotate_left
          · intro w hSw; (try dsimp only at hSw); go_simp; try with_reducible rfl
          simp only [Act.put, List.getElem_toArray, List.getElem_cons_zero, List.getElem_cons_succ, List.setIfInBounds_toArray, List.set_cons_zero, List.set_cons_succ]
          refine wpAnyL_take (i := 3) (v := ?_) rfl (by kernel_rfl) (by kernel_rfl) (by kernel_rfl) (by kernel_rfl) (fun _ _ _ h => h) (Or.inl ⟨by rfl, ?_⟩) (by assumption) ?_
          rotate_left
          · intro w hSw; (try dsimp only at hSw); go_simp; try with_reducible rfl
          simp only [Act.put, List.getElem_toArray, List.getElem_cons_zero, List.getElem_cons_succ, List.setIfInBounds_toArray, List.set_cons_zero, List.set_cons_succ]
          refine wpAnyL_take (i := 4) (v := ?_) rfl (by kernel_rfl) (by kernel_rfl) (by kernel_rfl) (by kernel_rfl) (fun _ _ _ h => h) (Or.inl ⟨by rfl, ?_⟩) (by assumption) ?_
          rotate_left
          · intro w hSw; (try dsimp only at hSw); go_simp; try with_reducible rfl
          simp only [Act.put, List.getElem_toArray, List.getElem_cons_zero, List.getElem_cons_succ, List.setIfInBounds_toArray, List.set_cons_zero, List.set_cons_succ]
          refine wpAnyL_take (i := 5) (v := ?_) rfl (by kernel_rfl) (by kernel_rfl) (by kernel_rfl) (by kernel_rfl) (fun _ _ _ h => h) (Or.inl ⟨by rfl, ?_⟩) (by assumption) ?_
          rotate_left
          · intro w hSw; (try dsimp only at hSw); go_simp; try with_reducible rfl
          simp only [Act.put, List.getElem_toArray, List.getElem_cons_zero, List.getElem_cons_succ, List.setIfInBounds_toArray, List.set_cons_zero, List.set_cons_succ]
          refine wpAnyL_take (i := 6) (v := ?_) rfl (by kernel_rfl) (by kernel_rfl) (by kernel_rfl) (by kernel_rfl) (fun _ _ _ h => h) (Or.inl ⟨by rfl, ?_⟩) (by assumption) ?_
          rotate_left
          · intro w hSw; (try dsimp only at hSw); go_simp; try with_reducible rfl
          simp only [Act.put, List.getElem_toArray, List.getElem_cons_zero, List.getElem_cons_succ, List.setIfInBounds_toArray, List.set_cons_zero, List.set_cons_succ]
          refine wpAnyL_take (i := 7) (v := ?_) rfl (by kernel_rfl) (by kernel_rfl) (by kernel_rfl) (by kernel_rfl) (fun _ _ _ h => h) (Or.inl ⟨by rfl, ?_⟩) (by assumption) ?_
          rotate_left
          · intro w hSw; (try dsimp only at hSw); go_simp; try with_reducible rfl
          simp only [Act.put, List.getElem_toArray, List.getElem_cons_zero, List.getElem_cons_succ, List.setIfInBounds_toArray, List.set_cons_zero, List.set_cons_succ]
          refine wpAnyL_take (i := 8) (v := ?_) rfl (by kernel_rfl) (by kernel_rfl) (by kernel_rfl) (by kernel_rfl) (fun _ _ _ h => h) (Or.inl ⟨by rfl, ?_⟩) (by assumption) ?_
          rotate_left
          · intro w hSw; (try dsimp only at hSw); go_simp; try with_reducible rfl
          simp only [Act.put, List.getElem_toArray, List.getElem_cons_zero, List.getElem_cons_succ, List.setIfInBounds_toArray, List.set_cons_zero, List.set_cons_succ]
          refine wpAnyL_ready (rs := [9]) (by kernel_rfl) (by simp) ?_
          refine AllReadyL.cons rfl (fun K hK => ?_) AllReadyL.nil
          go_simp
          refine Hcl.out.mono ?_
          rintro e w6 ⟨hb6, VX, vx, rfl, hO6'⟩
          have hO6 := own_base (base' := wo.heap.size) hO6' (show wo.heap.size ≤ wr.heap.size by omega)
          have hb6 : Below wr.heap.size wr w6 := (Below.refl wr.heap.size wr).drew.trans hb6
          have hc6 := (hb6.cell (p := ⟨F, 6, none⟩) hlF).trans kf6
          have hc69 := (hb6.cell (p := ⟨GN, k * 12 + 9, none⟩) hlN).trans hc9
          have hf69 := (hb6.frozen (p := ⟨GN, k * 12 + 9, none⟩) hlN).trans hfr
          refine hK.out _ _ ⟨hc6, hc69⟩ (fun hHeld3 => ?_)
          clear hK K hHeld hO6'
          have HO6 := Lib.hid hO6
          have Hb6 := Lib.hid hb6
          clear hb6 hO6
          try simp only [Act.put, List.getElem_toArray, List.getElem_cons_zero, List.getElem_cons_succ, List.setIfInBounds_toArray, List.set_cons_zero, List.set_cons_succ]
          refine wpAnyL_take (i := 10) (v := ?_) rfl (by kernel_rfl) (by kernel_rfl) (by kernel_rfl) (by kernel_rfl) (fun _ _ _ h => h) (Or.inl ⟨by rfl, ?_⟩) (by assumption) ?_
          rotate_left
          · intro w hSw; (try dsimp only at hSw); go_simp; try with_reducible rfl
          simp only [Act.put, List.getElem_toArray, List.getElem_cons_zero, List.getElem_cons_succ, List.setIfInBounds_toArray, List.set_cons_zero, List.set_cons_succ]
          refine wpAnyL_take (i := 11) (v := ?_) rfl (by kernel_rfl) (by kernel_rfl) (by kernel_rfl) (by kernel_rfl) (fun _ _ _ h => h) (Or.inl ⟨by rfl, ?_⟩) (by assumption) ?_
          rotate_left
          · intro w hSw; (try dsimp only at hSw); go_simp; try with_reducible rfl
          simp only [Act.put, List.getElem_toArray, List.getElem_cons_zero, List.getElem_cons_succ, List.setIfInBounds_toArray, List.set_cons_zero, List.set_cons_succ]
          refine wpAnyL_ready (rs := [12]) (by kernel_rfl) (by simp) ?_
          refine AllReadyL.last rfl (by kernel_rfl) (fun K hK => ?_) AllReadyL.nil
          go_simp
          refine hK.out _ _ ?_
          clear hK K hHeld3
          refine wpAnyL_done (by kernel_rfl) ?_ _
          obtain ⟨W9, hW9⟩ : ∃ W9, W9 = w6.setCell ⟨GN, k * 12 + 9, none⟩ (.slice VX xl vx) := ⟨_, rfl⟩
          rw [← hW9]
          have e6 := Hb6.out
          have hbW : Below wr.heap.size wr w6 := e6
          have hF6 := HFq.out.below e6 hlF
          have hP6 := HPq.out.kept (only_of_below e6 none) (Far.none_ _)
          have hK6 := HKq.out.kept (only_of_below e6 none) (Far.none_ _)
          have hI6 := HIq.out.kept (only_of_below e6 none) (Far.none_ _)
          have hNB6 := HNB.out.below e6 hlN
          have hno6 := own_kept' Hno.out (only_of_below e6 none) nofun
          have hXo : IntsOwn w6 wo.heap.size (.slice VX xl vx) x.args := by unfold IntsOwn; rw [Hxl.out]; exact HO6.out
          have hmid6 := (HNq.out).kept (only_of_below e6 none) (Far.none_ _) (by omega) nofun
          have hmid9 := NodesMid.step hmid6 (by omega) Hxk.out Hnn.out hXo
          have hWb : Below wo.heap.size wo W9 := by
            rw [hW9]
            exact (Hbq.out.trans (e6.mono hsq)).setCell (p := ⟨GN, k * 12 + 9, none⟩) (by simp only; omega) _
          have hFW : Blk W9 F 45 #[.slice V0 pn x0, .slice V1 kn x1, .int .i64 g.cells, .slice V2 il x2, .bool g.result, .int .i64 g.keep, .slice (some ⟨GN, 0, none⟩) nn x3, .int .i64 g.entry] := by
            rw [hW9]
            exact hF6.far (p := ⟨GN, k * 12 + 9, none⟩) (Blk.ne_ hF6 hNB6 (by decide)) _
          have hPW : IntsOwn W9 wo.heap.size (.slice V0 pn x0) g.params := by rw [hW9]; exact IntsOwn.far hP6 hNB6 (by decide)
          have hKW : KindsOwn W9 wo.heap.size (.slice V1 kn x1) g.kinds := by rw [hW9]; exact KindsOwn.far hK6 hNB6 (by decide)
          have hIW : IntsOwn W9 wo.heap.size (.slice V2 il x2) g.init := by rw [hW9]; exact IntsOwn.far hI6 hNB6 (by decide)
          have hMW : NodesMid W9 wo.heap.size B (k + 1) (.slice (some ⟨GN, 0, none⟩) nn x3) g.nodes := by rw [hW9]; exact hmid9
          clear hmid6 hmid9 e6 hbW hF6 hP6 hK6 hI6 hNB6 hno6 hXo hc6 hc69 hf69 hW9 kf6 hc9 hfr
          have HWb := Lib.hid hWb
          have HFW := Lib.hid hFW
          have HPW := Lib.hid hPW
          have HKW := Lib.hid hKW
          have HIW := Lib.hid hIW
          have HMW := Lib.hid hMW
          clear hMW hIW hKW hPW hFW hWb
          go_wp2_with fail
          exact ⟨⟨k + 1, by omega, by go_num, HWb.out, HFW.out, HPW.out, HKW.out, HIW.out, HMW.out⟩, by simp [intOf]; omega⟩
        · obtain rfl : nn = k := by omega
          have hO7 := own_kept' HO4.out (only_of_below hbq none) nofun
          have hF7 := HF4.out.kept (only_of_below hbq none) (Far.none_ _)
          have hT7 := HT4.out.below hbq hTl
          have hU7 := HU4.out.below hbq HU4.out.lt
          have hbw7 := Hb4.out.trans (hbq.mono hsz4)
          have hGO : GraphOwn wr w.heap.size (gcells g (.slice V0 pn x0) (.slice V1 kn x1) (.slice V2 il x2) (.slice V3 nn x3)) g := by
            refine GraphOwn.base (base := wo.heap.size) ⟨_, _, _, _, rfl, hPq, hKq, hIq, ?_⟩ hsz4
            have h := hNq
            rw [← Hnn.out] at h ⊢
            exact h.fin
          have hKA9 := HKA.out.snoc (c := (gcells g (.slice V0 pn x0) (.slice V1 kn x1) (.slice V2 il x2) (.slice V3 nn x3))) (B := wo.heap.size) HF4.out.kvlt (fun a ha => (World.ownsRow.lt hKq a ha).1)
          have hT7l := hT7.lt
          have hsz7 := hbw7.size
          have hFS := hF7.snoc hGO
          have kt0 := Blk.cell hT7 0
          simp only [List.getElem?_toArray, List.getElem?_cons_zero, List.getElem?_cons_succ] at kt0
          have kf0 := Blk.cell hFq 0
          have kf1 := Blk.cell hFq 1
          have kf2 := Blk.cell hFq 2
          have kf3 := Blk.cell hFq 3
          have kf4 := Blk.cell hFq 4
          have kf5 := Blk.cell hFq 5
          have kf6 := Blk.cell hFq 6
          have kf7 := Blk.cell hFq 7
          simp only [List.getElem?_toArray, List.getElem?_cons_zero, List.getElem?_cons_succ] at kf0 kf1 kf2 kf3 kf4 kf5 kf6 kf7
          have hO7a := hO7.alloc (.cells #[.slice V0 pn x0, .slice V1 kn x1, .int .i64 g.cells, .slice V2 il x2, .bool g.result, .int .i64 g.keep, .slice V3 nn x3, .int .i64 g.entry] 45)
          have hT7a := hT7.alloc (.cells #[.slice V0 pn x0, .slice V1 kn x1, .int .i64 g.cells, .slice V2 il x2, .bool g.result, .int .i64 g.keep, .slice V3 nn x3, .int .i64 g.entry] 45)
          have hU7a := hU7.alloc (.cells #[.slice V0 pn x0, .slice V1 kn x1, .int .i64 g.cells, .slice V2 il x2, .bool g.result, .int .i64 g.keep, .slice V3 nn x3, .int .i64 g.entry] 45)
          have Hbq := Lib.hid hbq
          have HFq := Lib.hid hFq
          have HPq := Lib.hid hPq
          have HKq := Lib.hid hKq
          have HIq := Lib.hid hIq
          have HNq := Lib.hid hNq
          have HO7 := Lib.hid hO7
          have HF7 := Lib.hid hF7
          have HT7 := Lib.hid hT7
          have HU7 := Lib.hid hU7
          have Hbw7 := Lib.hid hbw7
          have HFS := Lib.hid hFS
          have HO7a := Lib.hid hO7a
          have HT7a := Lib.hid hT7a
          have HU7a := Lib.hid hU7a
          have HGO := Lib.hid hGO
          have HKA9 := Lib.hid hKA9
          clear hKA9 hGO hU7a hT7a hO7a hFS hbw7 hU7 hT7 hF7 hO7 hNq hIq hKq hPq hFq hbq
          go_wp2_with (first
            | (at_builtin
               refine wpList_append_any _ rfl (.tmp 50) (.tmp 52) _ rfl w.heap.size 45 ig _ 8 128 Try.underlying22 hig hgz0 hgz1 hgz2 rfl (by omega) pv j cs4.flatten rfl HO7a.out (wr.heap.size + 1) (some ⟨wr.heap.size, 0, none⟩) 1 1 (gcells g (.slice V0 pn x0) (.slice V1 kn x1) (.slice V2 il x2) (.slice V3 nn x3)) rfl (Reads.newS _ rfl _ _ _ _ _ rfl rfl) ?c1 ?c2 ?c3 ?c4 ?_
               case c1 => intro u hu; simp only [gcells, List.mem_cons, List.not_mem_nil, or_false] at hu; rcases hu with rfl | rfl | rfl | rfl | rfl | rfl | rfl | rfl <;> rfl
               case c2 => unfold maxLen; omega
               case c3 => omega
               case c4 => simp; omega
               intro v9 w9 hown9 hg9 hat9
               obtain ⟨g9, c9, rfl, _⟩ := own_form hown9 (by omega)
               have hT9 := HT7a.out.grown hg9 (Ne.symm hnT)
               have kt9 := Blk.cell hT9 0
               have ft9 := Blk.frozen hT9 0
               simp only [List.getElem?_toArray, List.getElem?_cons_zero] at kt9))
          have hnU : pv.ownBlock ≠ some U := own_blk_ne HO7a.out HU7a.out (by decide)
          have hU9 := HU7a.out.grown hg9 (Ne.symm hnU)
          have hFSa := HFS.out.kept (World.grownBy_alloc wr (.cells #[.slice V0 pn x0, .slice V1 kn x1, .int .i64 g.cells, .slice V2 il x2, .bool g.result, .int .i64 g.keep, .slice V3 nn x3, .int .i64 g.entry] 45) none) (Far.none_ _)
          have hFS9 := hFSa.kept hg9 (fun g e => by
            obtain ⟨cs, h⟩ := own_blk HO7a.out e
            exact .inr ⟨_, cs, h, by decide, by decide, by decide⟩)
          have hFS10 := hFS9.kept (grown_setCell w9 ⟨T, 0, none⟩ (.slice (some ⟨g9, 0, none⟩) (j + 1) c9)) (Far.blk hT9 (by decide) (by decide) (by decide))
          refine ⟨⟨j + 1, by omega, by go_num, cs4 ++ [(gcells g (.slice V0 pn x0) (.slice V1 kn x1) (.slice V2 il x2) (.slice V3 nn x3))], _, ownsRow_setCell_other (a := ⟨T, 0, none⟩) ?_ (own_blk_ne hown9 hT9 (by decide)) _, ?_, Blk.set_ hT9 0 _, hU9.far (p := ⟨T, 0, none⟩) (by simp; omega) _, ((Hbw7.out.alloc hsz7 _).grown hg9 (by simp; omega) (fun k e => (HO7a.out.lt k e).1)).setCell (p := ⟨T, 0, none⟩) (by simp; omega) _, HKA9.out⟩, by simp [intOf]; omega⟩
          · rw [List.flatten_append]; simpa using hown9
          · rw [List.take_add_one, Hfk.out]; exact hFS10
    · obtain rfl : n = j := by omega
      obtain ⟨PA, pc, rfl, _⟩ := own_any hO4
      have kt0 := Blk.cell hT4 0
      simp only [List.getElem?_toArray, List.getElem?_cons_zero, List.getElem?_cons_succ] at kt0
      have ku0 := Blk.cell hU4 0
      simp only [List.getElem?_toArray, List.getElem?_cons_zero, List.getElem?_cons_succ] at ku0
      have fu0 := Blk.frozen hU4 0
      have hUT : w.heap.size ≤ U := o1
      have hrO : (wr.setCell ⟨U, 0, none⟩ (.slice PA n pc)).ownsRow w.heap.size 45 8 (.slice PA n pc) n cs4.flatten := ownsRow_setCell_other (a := ⟨U, 0, none⟩) hO4 (own_blk_ne hO4 hU4 (by decide)) _
      have hrF := hF4.kept (grown_setCell wr ⟨U, 0, none⟩ (.slice PA n pc)) (Far.blk hU4 (by decide) (by decide) (by decide))
      rw [List.take_of_length_le (by rw [HL.out]; omega)] at hrF
      have hrb := hb4.setCell (p := ⟨U, 0, none⟩) (by simp; omega) (.slice PA n pc)
      have HO4 := Lib.hid hO4
      have HF4 := Lib.hid hF4
      have HT4 := Lib.hid hT4
      have HU4 := Lib.hid hU4
      have Hb4 := Lib.hid hb4
      have HrO := Lib.hid hrO
      have HrF := Lib.hid hrF
      have Hrb := Lib.hid hrb
      clear hrb hrF hrO hb4 hU4 hT4 hF4 hO4
      go_wp2_with fail
      refine bodyPost_ret (results_cell_row rfl _ _ U 24 _ (0, 0) _ rfl (Blk.set_ HU4.out 0 _) Try.underlying24 rfl (by kernel_rfl)) rfl ?_
      exact ⟨Hrb.out, _, cs4, rfl, by rw [HL.out]; exact HrO.out, HrF.out, HKA.out⟩
theorem copy_any (gsv : Value) (gs : List GraphD) (w : World) (B : Nat) (hp : GraphsAt w B gsv gs) (hB : B ≤ w.heap.size) (hs : GsSmall gs) :
    Calls Try.prog 19 #[.agg #[gsv]] w fun e w' => CopyPost gs w e w' :=
  (copy_any2 gsv gs w B hp hB hs).mono fun e w' ⟨h1, pv, css, h2, h3, h4, _⟩ => ⟨h1, pv, css, h2, h3, h4⟩
end Go.Proofs.Ytfjalejlbegkeaa
