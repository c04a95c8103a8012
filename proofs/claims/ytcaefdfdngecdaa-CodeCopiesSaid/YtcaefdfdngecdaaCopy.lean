/- Walk of code.Copy. Conditions: the program lies in memory, within the reach. -/
import Derived.Test.YtcaefdfdngecdaaClone
import Derived.Test.YtcaefdfdngecdaaLate
set_option linter.unusedVariables false
set_option linter.unusedSimpArgs false
namespace Go.Proofs.Ytcaefdfdngecdaa
open Go.RowKit

set_option maxRecDepth 100000 in
set_option maxHeartbeats 2000000 in
theorem copy_any (fsv : Value) (fs : List FuncD) (w : World) (B : Nat) (hp : FuncsAt w B fsv fs) (hB : B ≤ w.heap.size) (hs : FsSmall fs) :
    Calls Try.prog 19 #[.agg #[fsv]] w fun e w' => CopyPost fs w e w' := by
  obtain ⟨i0, hi0, hz0, hz1, hz2⟩ := info_parts infoFunc
  obtain ⟨i1, hi1, hv0, hv1, hv2⟩ := info_parts infoInstr
  obtain ⟨ik, hik, hkz0, hkz1, hkz2⟩ := info_parts infoKind
  obtain ⟨A, n, c, css, rfl, hc1, hc2, hl, hcl, hr, hcs⟩ := hp
  have h5 := css_five hl hcl hcs
  unfold maxLen at hc2
  have hn72 := hs.2
  rw [hl] at hn72
  have HL := Lib.hid hl
  have HC := Lib.hid hcl
  have HCS := Lib.hid hcs
  have HR := Lib.hid hr
  have HS := Lib.hid hs
  clear hs hr hcs hcl hl
  go_enter Try.func19, Try.ntmps19
  go_wp2_with fail
  obtain ⟨U, hU⟩ : ∃ U, U = w.heap.size + 1 := ⟨_, rfl⟩
  obtain ⟨T, hT⟩ : ∃ T, T = w.heap.size + 1 + 1 := ⟨_, rfl⟩
  rw [← hT, ← hU]
  obtain ⟨W0, hW0⟩ : ∃ W0, W0 = ((w.alloc (.cells #[.slice A n c] 26)).alloc (.cells #[.slice none 0 0] 26)).alloc (.cells #[.slice none 0 0] 26) := ⟨_, rfl⟩
  rw [← hW0]
  have hTb : Blk W0 T 26 #[.slice none 0 0] := by
    have := Blk.new ((w.alloc (.cells #[.slice A n c] 26)).alloc (.cells #[.slice none 0 0] 26)) 26 #[.slice none 0 0]
    simp only [World.size_alloc] at this
    rw [hW0, hT]; exact this
  have hUb : Blk W0 U 26 #[.slice none 0 0] := by
    have := (Blk.new (w.alloc (.cells #[.slice A n c] 26)) 26 #[.slice none 0 0]).alloc (.cells #[.slice none 0 0] 26)
    simp only [World.size_alloc] at this
    rw [hW0, hU]; exact this
  have hb0 : Below w.heap.size w W0 := by rw [hW0]; exact (((Below.refl _ _).alloc (Nat.le_refl _) _).alloc (by simp) _).alloc (by simp; omega) _
  have o1 : w.heap.size ≤ U := by omega
  have o2 : U < T := by omega
  have HTb := Lib.hid hTb
  have HUb := Lib.hid hUb
  have Hb0 := Lib.hid hb0
  clear hb0 hUb hTb
  clear hW0 hT hU
  go_loopw [9] (fun i wr => ∃ j : Nat, j ≤ n ∧ i = .int .i64 j ∧ CopyRel w T U fs j wr) (fun i _ => n - (intOf i).toNat)
  case atStart => exact ⟨0, by omega, rfl, [], _, World.ownsRow_nil _ _ _ _, by simpa using FsRows.nil _ _, HTb.out, HUb.out, Hb0.out⟩
  case round =>
    obtain ⟨j, hj, rfl, cs4, pv, hO4, hF4, hT4, hU4, hb4⟩ := hrel
    have hsz4 := hb4.size
    have hTl := hT4.lt
    by_cases hlt : j < n
    · have hrw := HR.out.below (hb4.mono hB)
      obtain ⟨ad, hA, hadb, _⟩ := HR.out.2 (by omega)
      subst hA
      obtain ⟨f, hfk⟩ : ∃ f, fs[j]? = some f := ⟨_, List.getElem?_eq_getElem (by have := HL.out; omega)⟩
      obtain ⟨cs, hck, lv, cv, rfl, hlv, hcv⟩ := HCS.out j f hfk
      obtain ⟨LA, ln, lc, rfl, hl1, hl2, hl3, hl4⟩ := hlv
      obtain ⟨CA, cn, cc, rfl, hm1, hm2, hm3, hm4⟩ := hcv
      obtain ⟨g0, g1, g2, g3, g4⟩ := func_cells hrw HC.out h5 j f _ _ hck
      have hfs := HS.out.1 f (List.mem_of_getElem? hfk)
      rw [hl3, hm3] at hfs
      obtain ⟨hfs1, hfs2⟩ := hfs
      have hnT : pv.ownBlock ≠ some T := own_blk_ne hO4 hT4 (by decide)
      -- the function's box
      obtain ⟨F, hFe⟩ : ∃ F, F = wr.heap.size := ⟨_, rfl⟩
      have HFe := Lib.hid hFe
      have hFb : Blk (wr.alloc (.cells #[.int .i64 f.params, .slice LA ln lc, .bool f.result, .int .i64 f.keep, .slice CA cn cc] 45)) F 45 #[.int .i64 f.params, .slice LA ln lc, .bool f.result, .int .i64 f.keep, .slice CA cn cc] := by rw [hFe]; exact Blk.new wr _ _
      have hb1 : Below wr.heap.size wr (wr.alloc (.cells #[.int .i64 f.params, .slice LA ln lc, .bool f.result, .int .i64 f.keep, .slice CA cn cc] 45)) := (Below.refl _ _).alloc (Nat.le_refl _) _
      have hKA : KindsAt (wr.alloc (.cells #[.int .i64 f.params, .slice LA ln lc, .bool f.result, .int .i64 f.keep, .slice CA cn cc] 45)) B (.slice LA ln lc) f.locals := ⟨_, _, _, rfl, hl1, hl2, hl3, (hl4.below (hb4.mono hB)).alloc (by omega) _⟩
      have hCA : CodeAt (wr.alloc (.cells #[.int .i64 f.params, .slice LA ln lc, .bool f.result, .int .i64 f.keep, .slice CA cn cc] 45)) B (.slice CA cn cc) f.code := ⟨_, _, _, rfl, hm1, hm2, hm3, (hm4.below (hb4.mono hB)).alloc (by omega) _⟩
      have hfs3 : f.locals.length * 1 ≤ 140737488351232 := by rw [hl3]; omega
      have hfs4 : f.code.length * 24 ≤ 140737488351232 := by rw [hm3]; omega
      have k1 := Blk.cell hFb 1
      have k4 := Blk.cell hFb 4
      simp only [List.getElem?_toArray, List.getElem?_cons_zero, List.getElem?_cons_succ] at k1 k4
      have HO4 := Lib.hid hO4
      have HF4 := Lib.hid hF4
      have HT4 := Lib.hid hT4
      have HU4 := Lib.hid hU4
      have Hb4 := Lib.hid hb4
      have HFb := Lib.hid hFb
      have Hfk := Lib.hid hfk
      have Hl3 := Lib.hid hl3
      have Hm3 := Lib.hid hm3
      have Hb1 := Lib.hid hb1
      have HKA := Lib.hid hKA
      have HCA := Lib.hid hCA
      clear hCA hKA hb1 hm3 hl3 hfk hFb hb4 hU4 hT4 hF4 hO4
      clear hrw hck hFe
      go_upto_region 5 with fail
      generalize hW1 : wr.alloc (.cells #[.int .i64 f.params, .slice LA ln lc, .bool f.result, .int .i64 f.keep, .slice CA cn cc] 45) = W1 at *
      have HW1 := Lib.hid hW1
      clear hW1
      rw [← HFe.out]
      have hs1 := Hb1.out.size
      have hFl1 := HFb.out.lt
      refine wp_region_late (S := fun W => W.cell? ⟨F, 1, none⟩ = some (.slice LA ln lc) ∧ W.cell? ⟨F, 4, none⟩ = some (.slice CA cn cc)) #[false, false, false, false, false, false, false, true, true, true] (by kernel_rfl) ⟨k1, k4⟩ (fun hHeld => ?_)
      refine wpAnyL_take (i := 0) (v := ?_) rfl (by kernel_rfl) (by kernel_rfl) (by kernel_rfl) (by kernel_rfl) (fun _ _ _ h => h) (Or.inl ⟨by rfl, ?_⟩) (by assumption) ?_
      rotate_left
      · intro w hSw; (try dsimp only at hSw); go_simp; try with_reducible rfl
      simp only [Act.put, List.getElem_toArray, List.getElem_cons_zero, List.getElem_cons_succ, List.setIfInBounds_toArray, List.set_cons_zero, List.set_cons_succ]
      refine wpAnyL_take (i := 1) (v := ?_) rfl (by kernel_rfl) (by kernel_rfl) (by kernel_rfl) (by kernel_rfl) (fun _ _ _ h => h) (Or.inl ⟨by rfl, ?_⟩) (by assumption) ?_
      rotate_left
      · intro w hSw; (try dsimp only at hSw); go_simp; try with_reducible rfl
      simp only [Act.put, List.getElem_toArray, List.getElem_cons_zero, List.getElem_cons_succ, List.setIfInBounds_toArray, List.set_cons_zero, List.set_cons_succ]
      refine wpAnyL_take (i := 3) (v := ?_) rfl (by kernel_rfl) (by kernel_rfl) (by kernel_rfl) (by kernel_rfl) (fun _ _ _ h => h) (Or.inl ⟨by rfl, ?_⟩) (by assumption) ?_
      rotate_left
      · intro w hSw; (try dsimp only at hSw); go_simp; try with_reducible rfl
      simp only [Act.put, List.getElem_toArray, List.getElem_cons_zero, List.getElem_cons_succ, List.setIfInBounds_toArray, List.set_cons_zero, List.set_cons_succ]
      refine wpAnyL_take (i := 4) (v := ?_) rfl (by kernel_rfl) (by kernel_rfl) (by kernel_rfl) (by kernel_rfl) (fun _ _ _ h => h) (Or.inl ⟨by rfl, ?_⟩) (by assumption) ?_
      rotate_left
      · intro w hSw; (try dsimp only at hSw); go_simp; try with_reducible rfl
      simp only [Act.put, List.getElem_toArray, List.getElem_cons_zero, List.getElem_cons_succ, List.setIfInBounds_toArray, List.set_cons_zero, List.set_cons_succ]
      refine wpAnyL_ready (rs := [2]) (by kernel_rfl) (by simp) ?_
      refine AllReadyL.cons rfl (fun K hK => ?_) AllReadyL.nil
      go_simp
      refine (clone_kinds (.slice LA ln lc) f.locals W1.drew B (show KindsAt W1.drew B _ _ from HKA.out) (by first | omega | (simp; omega)) hfs3).mono ?_
      rintro e w3 ⟨hb3, sv, rfl, hO3⟩
      have hb3' : Below W1.heap.size W1 w3 := ⟨hb3.os, hb3.tape, hb3.output, hb3.size, hb3.block⟩
      have hs3 := hb3'.size
      have hFb3 := HFb.out.below hb3' hFl1
      have hCA3 := HCA.out.below (hb3'.mono (by omega))
      refine hK.out _ _ ⟨hFb3.cell 1, hFb3.cell 4⟩ (fun hHeld2 => ?_)
      have Hb3' := Lib.hid hb3'
      have HO3 := Lib.hid hO3
      have HFb3 := Lib.hid hFb3
      have HCA3 := Lib.hid hCA3
      clear hCA3 hFb3 hO3 hb3'
      clear hK K hHeld hb3
      try simp only [Act.put, List.getElem_toArray, List.getElem_cons_zero, List.getElem_cons_succ, List.setIfInBounds_toArray, List.set_cons_zero, List.set_cons_succ]
      refine wpAnyL_take (i := 6) (v := ?_) rfl (by kernel_rfl) (by kernel_rfl) (by kernel_rfl) (by kernel_rfl) (fun _ _ _ h => h) (Or.inl ⟨by rfl, ?_⟩) (by assumption) ?_
      rotate_left
      · intro w hSw; (try dsimp only at hSw); go_simp; try with_reducible rfl
      simp only [Act.put, List.getElem_toArray, List.getElem_cons_zero, List.getElem_cons_succ, List.setIfInBounds_toArray, List.set_cons_zero, List.set_cons_succ]
      refine wpAnyL_ready (rs := [5]) (by kernel_rfl) (by simp) ?_
      refine AllReadyL.cons rfl (fun K hK => ?_) AllReadyL.nil
      go_simp
      refine (clone_instrs (.slice CA cn cc) f.code _ B HCA3.out (by omega) hfs4).mono ?_
      rintro e w5 ⟨hb5, sv2, rfl, hO5⟩
      have hFb5 := HFb3.out.below hb5 (by omega)
      have hO3b := own_kept' HO3.out (only_of_below hb5 none) nofun
      have hb5' := Hb3'.out.trans (hb5.mono hs3)
      have hs5 := hb5.size
      refine hK.out _ _ ⟨hFb5.cell 1, hFb5.cell 4⟩ (fun hHeld3 => ?_)
      clear hK K hHeld2 hb5
      obtain ⟨VA, vc, rfl, _⟩ := own_any hO3b
      obtain ⟨VB, vd, rfl, _⟩ := own_any hO5
      have k51 := Blk.cell hFb5 1
      have f51 := Blk.frozen hFb5 1
      simp only [List.getElem?_toArray, List.getElem?_cons_zero, List.getElem?_cons_succ] at k51
      try simp only [Act.put, List.getElem_toArray, List.getElem_cons_zero, List.getElem_cons_succ, List.setIfInBounds_toArray, List.set_cons_zero, List.set_cons_succ]
      refine wpAnyL_ready (rs := [7]) (by kernel_rfl) (by simp) ?_
      refine AllReadyL.last rfl (by kernel_rfl) (fun K hK => ?_) AllReadyL.nil
      go_simp
      refine hK.out _ _ ?_
      clear hK K hHeld3
      try simp only [Act.put, List.getElem_toArray, List.getElem_cons_zero, List.getElem_cons_succ, List.setIfInBounds_toArray, List.set_cons_zero, List.set_cons_succ]
      refine wpAnyL_ready (rs := [8]) (by kernel_rfl) (by simp) ?_
      refine AllReadyL.last rfl (by kernel_rfl) (fun K hK => ?_) AllReadyL.nil
      go_simp
      refine hK.out _ _ ?_
      clear hK K
      have hFb6 := hFb5.set_ 1 (.slice VA f.locals.length vc)
      have k64 := Blk.cell hFb6 4
      have f64 := Blk.frozen hFb6 4
      have k64' : (w5.setCell ⟨F, 1, none⟩ (.slice VA f.locals.length vc)).cell? ⟨F, 4, none⟩ = some (.slice CA cn cc) := k64
      have HFb6 := Lib.hid hFb6
      clear hFb6
      clear k64 k51 f51
      try simp only [Act.put, List.getElem_toArray, List.getElem_cons_zero, List.getElem_cons_succ, List.setIfInBounds_toArray, List.set_cons_zero, List.set_cons_succ]
      refine wpAnyL_ready (rs := [9]) (by kernel_rfl) (by simp) ?_
      refine AllReadyL.last rfl (by kernel_rfl) (fun K hK => ?_) AllReadyL.nil
      go_simp
      refine hK.out _ _ ?_
      clear hK K
      refine wpAnyL_done (by kernel_rfl) ?_ _
      obtain ⟨W7, hW7⟩ : ∃ W7, W7 = (w5.setCell ⟨F, 1, none⟩ (.slice VA f.locals.length vc)).setCell ⟨F, 4, none⟩ (.slice VB f.code.length vd) := ⟨_, rfl⟩
      rw [← hW7]
      have hFb7 : Blk W7 F 45 #[.int .i64 f.params, .slice VA f.locals.length vc, .bool f.result, .int .i64 f.keep, .slice VB f.code.length vd] := by rw [hW7]; exact HFb6.out.set_ 4 _
      have hK7 : W7.ownsRow w.heap.size 51 1 (.slice VA f.locals.length vc) f.locals.length (kindVals f.locals) := by
        rw [hW7]
        have h1 := own_base (base' := w.heap.size) hO3b (by simp; omega)
        have h2 := ownsRow_setCell_other h1 (a := ⟨F, 1, none⟩) (own_blk_ne h1 hFb5 (by decide)) (.slice VA f.locals.length vc)
        exact ownsRow_setCell_other h2 (own_blk_ne h1 hFb5 (by decide)) _
      have hI7 : W7.ownsRow w.heap.size 49 3 (.slice VB f.code.length vd) f.code.length (f.code.flatMap icells) := by
        rw [hW7]
        have h1 := own_base (base' := w.heap.size) hO5 (by omega)
        have h2 := ownsRow_setCell_other h1 (a := ⟨F, 1, none⟩) (own_blk_ne h1 hFb5 (by decide)) (.slice VA f.locals.length vc)
        exact ownsRow_setCell_other h2 (own_blk_ne h1 hFb5 (by decide)) _
      have hb7 : Below wr.heap.size wr W7 := by
        rw [hW7]
        exact ((Hb1.out.trans (hb5'.mono hs1)).setCell (p := ⟨F, 1, none⟩) (by have := HFe.out; simp only; omega) _).setCell (p := ⟨F, 4, none⟩) (by have := HFe.out; simp only; omega) _
      have hs7 := hb7.size
      have hO7 := own_kept' HO4.out (only_of_below hb7 none) nofun
      have hF7 := HF4.out.kept (only_of_below hb7 none) nofun
      have hT7 := HT4.out.below hb7 hTl
      have hU7 := HU4.out.below hb7 HU4.out.lt
      have hbw7 := Hb4.out.trans (hb7.mono hsz4)
      clear hW7 hO5 hO3b hb5' hs5 f64 k64' hFb5
      have hT7l := hT7.lt
      have hsz7 := hbw7.size
      have hFS := (hF7.snoc (f := f) (lv := .slice VA f.locals.length vc) (cv := .slice VB f.code.length vd) hK7 hI7)
      have kt0 := Blk.cell hT7 0
      simp only [List.getElem?_toArray, List.getElem?_cons_zero, List.getElem?_cons_succ] at kt0
      have kf0 := Blk.cell hFb7 0
      have kf1 := Blk.cell hFb7 1
      have kf2 := Blk.cell hFb7 2
      have kf3 := Blk.cell hFb7 3
      have kf4 := Blk.cell hFb7 4
      simp only [List.getElem?_toArray, List.getElem?_cons_zero, List.getElem?_cons_succ] at kf0 kf1 kf2 kf3 kf4
      have hO7a := hO7.alloc (.cells #[.int .i64 f.params, .slice VA f.locals.length vc, .bool f.result, .int .i64 f.keep, .slice VB f.code.length vd] 45)
      have hT7a := hT7.alloc (.cells #[.int .i64 f.params, .slice VA f.locals.length vc, .bool f.result, .int .i64 f.keep, .slice VB f.code.length vd] 45)
      have hU7a := hU7.alloc (.cells #[.int .i64 f.params, .slice VA f.locals.length vc, .bool f.result, .int .i64 f.keep, .slice VB f.code.length vd] 45)
      have HFb7 := Lib.hid hFb7
      have HK7 := Lib.hid hK7
      have HI7 := Lib.hid hI7
      have HO7 := Lib.hid hO7
      have HF7 := Lib.hid hF7
      have HT7 := Lib.hid hT7
      have HU7 := Lib.hid hU7
      have Hbw7 := Lib.hid hbw7
      have HFS := Lib.hid hFS
      have HO7a := Lib.hid hO7a
      have HT7a := Lib.hid hT7a
      have HU7a := Lib.hid hU7a
      clear hU7a hT7a hO7a hFS hbw7 hU7 hT7 hF7 hO7 hI7 hK7 hFb7
      clear hb7
      go_wp2_with (first
        | (at_builtin
           refine wpList_append_any _ rfl (.tmp 22) (.tmp 24) _ rfl w.heap.size 45 i0 _ 5 72 Try.underlying24 hi0 hz0 hz1 hz2 rfl (by omega) pv j cs4.flatten rfl HO7a.out (W7.heap.size + 1) (some ⟨W7.heap.size, 0, none⟩) 1 1 (fcells f (.slice VA f.locals.length vc) (.slice VB f.code.length vd)) rfl (Reads.newS _ rfl _ _ _ _ _ rfl rfl) ?c1 ?c2 ?c3 ?c4 ?_
           case c1 => intro u hu; simp only [fcells, List.mem_cons, List.not_mem_nil, or_false] at hu; rcases hu with rfl | rfl | rfl | rfl | rfl <;> rfl
           case c2 => unfold maxLen; omega
           case c3 => omega
           case c4 => simp; omega
           intro v9 w9 hown9 hg9 hat9
           obtain ⟨g9, c9, rfl, _⟩ := own_form hown9 (by omega)
           have hT9 := HT7a.out.grown hg9 (Ne.symm hnT)
           have kt9 := Blk.cell hT9 0
           have ft9 := Blk.frozen hT9 0
           simp only [List.getElem?_toArray, List.getElem?_cons_zero] at kt9))
      have hnU : pv.ownBlock ≠ some U := own_blk_ne HO7a.out HU7a.out (by decide)
      have hU9 := HU7a.out.grown hg9 (Ne.symm hnU)
      have hFSa := HFS.out.kept (World.grownBy_alloc W7 (.cells #[.int .i64 f.params, .slice VA f.locals.length vc, .bool f.result, .int .i64 f.keep, .slice VB f.code.length vd] 45) none) nofun
      have hFS9 := hFSa.kept hg9 (fun g e => by
        obtain ⟨cs, h⟩ := own_blk HO7a.out e
        exact .inr ⟨_, cs, h, by decide, by decide⟩)
      have hFS10 := hFS9.kept (grown_setCell w9 ⟨T, 0, none⟩ (.slice (some ⟨g9, 0, none⟩) (j + 1) c9)) (fun g e => by injection e with e; subst e; exact .inr ⟨_, _, hT9, by decide, by decide⟩)
      refine ⟨⟨j + 1, by omega, by go_num, cs4 ++ [fcells f (.slice VA f.locals.length vc) (.slice VB f.code.length vd)], _, ownsRow_setCell_other ?_ (own_blk_ne hown9 hT9 (by decide)) _, ?_, Blk.set_ hT9 0 _, hU9.far (p := ⟨T, 0, none⟩) (by simp; omega) _, ((Hbw7.out.alloc hsz7 _).grown hg9 (by simp; omega) (fun k e => (HO7a.out.lt k e).1)).setCell (p := ⟨T, 0, none⟩) (by simp; omega) _⟩, by simp [intOf]; omega⟩
      · rw [List.flatten_append]; simpa using hown9
      · rw [List.take_add_one, Hfk.out]; exact hFS10
    · obtain rfl : n = j := by omega
      obtain ⟨PA, pc, rfl, _⟩ := own_any hO4
      have kt0 := Blk.cell hT4 0
      simp only [List.getElem?_toArray, List.getElem?_cons_zero, List.getElem?_cons_succ] at kt0
      have ku0 := Blk.cell hU4 0
      simp only [List.getElem?_toArray, List.getElem?_cons_zero, List.getElem?_cons_succ] at ku0
      have fu0 := Blk.frozen hU4 0
      have hUT : w.heap.size ≤ U := o1
      have hrO : (wr.setCell ⟨U, 0, none⟩ (.slice PA n pc)).ownsRow w.heap.size 45 5 (.slice PA n pc) n cs4.flatten := ownsRow_setCell_other hO4 (own_blk_ne hO4 hU4 (by decide)) _
      have hrF := hF4.kept (grown_setCell wr ⟨U, 0, none⟩ (.slice PA n pc)) (fun g e => by injection e with e; subst e; exact .inr ⟨_, _, hU4, by decide, by decide⟩)
      rw [List.take_of_length_le (by rw [HL.out]; omega)] at hrF
      have hrb := hb4.setCell (p := ⟨U, 0, none⟩) (by simp; omega) (.slice PA n pc)
      have HO4 := Lib.hid hO4
      have HF4 := Lib.hid hF4
      have HT4 := Lib.hid hT4
      have HU4 := Lib.hid hU4
      have Hb4 := Lib.hid hb4
      have HrO := Lib.hid hrO
      have HrF := Lib.hid hrF
      have Hrb := Lib.hid hrb
      clear hrb hrF hrO hb4 hU4 hT4 hF4 hO4
      go_wp2_with fail
      refine bodyPost_ret (results_cell_row rfl _ _ U 26 _ (0, 0) _ rfl (Blk.set_ HU4.out 0 _) Try.underlying26 rfl (by kernel_rfl)) rfl ?_
      exact ⟨Hrb.out, _, cs4, rfl, by rw [HL.out]; exact HrO.out, HrF.out⟩
end Go.Proofs.Ytcaefdfdngecdaa
