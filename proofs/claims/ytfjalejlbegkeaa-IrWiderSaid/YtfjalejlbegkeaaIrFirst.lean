/- Walks of the document's Next, and of what is answered ahead of everything else. No condition. -/
import Derived.Test.YtfjalejlbegkeaaIrReads
import Derived.Test.YtfjalejlbegkeaaIrCheck
set_option linter.unusedVariables false
set_option linter.unusedSimpArgs false
namespace Go.Proofs.Ytfjalejlbegkeaa
open Go.RowKit

set_option maxRecDepth 100000 in
set_option maxHeartbeats 4000000 in
theorem refnext_any (w : World) (x : NodeD) (av : Value) :
    Calls Try.prog 18 #[.agg (ncells x av).toArray] w fun e w' => (∃ v, e = .returned v ∧ Lst w' v (nextL x)) ∧ Below w.heap.size w w' := by
  obtain ⟨N, hN⟩ : ∃ N, nextL x = N := ⟨_, rfl⟩
  rw [hN]
  unfold nextL at hN
  obtain ⟨op, byo, d, e_, a, b, f, cell, imm, args, next, els⟩ := x
  simp only at hN
  simp only [ncells]
  obtain ⟨G, hG⟩ : ∃ G, G = w.heap.size := ⟨_, rfl⟩
  have hP := Blk.new w 38 #[.int .u8 op, .int .u8 byo, .int .i64 d, .int .i64 e_, .int .i64 a, .int .i64 b, .int .i64 f, .int .i64 cell, .int .u64 imm, av, .int .i64 next, .int .i64 els]
  have hb := (Below.refl w.heap.size w).alloc (Nat.le_refl _) (.cells #[.int .u8 op, .int .u8 byo, .int .i64 d, .int .i64 e_, .int .i64 a, .int .i64 b, .int .i64 f, .int .i64 cell, .int .u64 imm, av, .int .i64 next, .int .i64 els] 38)
  rw [← hG] at hP
  have kp0 := Blk.cell hP 0
  have kp10 := Blk.cell hP 10
  have kp11 := Blk.cell hP 11
  simp only [List.getElem?_toArray, List.getElem?_cons_zero, List.getElem?_cons_succ] at kp0 kp10 kp11
  obtain ⟨V, hV⟩ : ∃ V, V = w.alloc (.cells #[.int .u8 op, .int .u8 byo, .int .i64 d, .int .i64 e_, .int .i64 a, .int .i64 b, .int .i64 f, .int .i64 cell, .int .u64 imm, av, .int .i64 next, .int .i64 els] 38) := ⟨_, rfl⟩
  rw [← hV] at hb hP kp0 kp10 kp11
  have Hb := Lib.hid hb
  have HP := Lib.hid hP
  have HV := Lib.hid hV
  have HG := Lib.hid hG
  clear hG hV hP hb
  by_cases e12 : op = 12 ∨ op = 14 ∨ op = 18
  · rw [if_pos e12] at hN
    subst hN
    rcases e12 with e | e | e
    all_goals
      subst e
      go_enter Try.func18, Try.ntmps18
      go_upto_region 1 with fail
      rw [← HV.out, ← HG.out]
      go_wp2_with fail
      go_ret
      exact ⟨⟨_, rfl, Lst.nil _⟩, Hb.out⟩
  rw [if_neg e12] at hN
  have b12 : (op == 12) = false := by rw [beq_eq_false_iff_ne]; omega
  have b14 : (op == 14) = false := by rw [beq_eq_false_iff_ne]; omega
  have b18 : (op == 18) = false := by rw [beq_eq_false_iff_ne]; omega
  by_cases e9 : op = 9
  · subst e9
    clear b12 b14 b18
    by_cases en : els = next
    · have bn : (els != next) = false := by simp [en]
      rw [if_neg (fun h => h.2 en), if_neg (by omega)] at hN
      subst hN
      have Hen := Lib.hid en
      have He12 := Lib.hid e12
      clear e12 en
      go_enter Try.func18, Try.ntmps18
      go_upto_region 1 with fail
      rw [← HV.out, ← HG.out]
      go_wp2_with fail
      go_ret
      exact ⟨⟨_, rfl, Lst.new _ _ [next] (by simp) (by simp) rfl rfl⟩, Hb.out.alloc Hb.out.size _⟩
    · have bn : (els != next) = true := by simp [en]
      rw [if_pos ⟨rfl, en⟩] at hN
      subst hN
      have Hen := Lib.hid en
      have He12 := Lib.hid e12
      clear e12 en
      go_enter Try.func18, Try.ntmps18
      go_upto_region 1 with fail
      rw [← HV.out, ← HG.out]
      go_wp2_with fail
      go_ret
      exact ⟨⟨_, rfl, Lst.new _ _ [next, els] (by simp) (by simp) rfl rfl⟩, Hb.out.alloc Hb.out.size _⟩
  have b9 : (op == 9) = false := by rw [beq_eq_false_iff_ne]; omega
  rw [if_neg (fun h => e9 h.1)] at hN
  have hcase : (op < 1 ∧ N = []) ∨ (¬ op < 1 ∧ 18 < op ∧ N = []) ∨ (¬ op < 1 ∧ ¬ 18 < op ∧ N = [next]) := by
    by_cases h1 : op < 1
    · rw [if_pos (.inl h1)] at hN; exact .inl ⟨h1, hN.symm⟩
    · by_cases h2 : 18 < op
      · rw [if_pos (.inr h2)] at hN; exact .inr (.inl ⟨h1, h2, hN.symm⟩)
      · rw [if_neg (by omega)] at hN; exact .inr (.inr ⟨h1, h2, hN.symm⟩)
  have He12 := Lib.hid e12
  have He9 := Lib.hid e9
  have HN := Lib.hid hN
  clear hN e9 e12
  rcases hcase with ⟨h1, rfl⟩ | ⟨h1, h2, rfl⟩ | ⟨h1, h2, rfl⟩
  · go_enter Try.func18, Try.ntmps18
    go_upto_region 1 with fail
    rw [← HV.out, ← HG.out]
    go_wp2_with fail
    go_ret
    exact ⟨⟨_, rfl, Lst.nil _⟩, Hb.out⟩
  · go_enter Try.func18, Try.ntmps18
    go_upto_region 1 with fail
    rw [← HV.out, ← HG.out]
    go_wp2_with fail
    go_ret
    exact ⟨⟨_, rfl, Lst.nil _⟩, Hb.out⟩
  · go_enter Try.func18, Try.ntmps18
    go_upto_region 1 with fail
    rw [← HV.out, ← HG.out]
    go_wp2_with fail
    go_ret
    exact ⟨⟨_, rfl, Lst.new _ _ [next] (by simp) (by simp) rfl rfl⟩, Hb.out.alloc Hb.out.size _⟩
def nd0 : NodeD := ⟨12, 0, 0, 0, -1, 0, 0, 0, 0, [], 0, 0⟩
def gr0 : GraphD := ⟨[], [], 0, [], false, -1, [nd0], 0⟩
def nd1 : NodeD := ⟨11, 0, 2, 0, 0, 0, 0, 0, 0, [3, 3, 4], 0, 0⟩
theorem check00 : checkB [gr0] false = true := by decide
theorem check01 : checkB [gr0] true = false := by decide
theorem reads01 : readsL nd1 = [3, 4] := by decide
/-- one graph of one node, laid -/
theorem graphs_one {W : World} {n g : Nat} (x : NodeD) (y : GraphD) (hx : x.args = []) (hy : y = ⟨[], [], y.cells, [], y.result, y.keep, [x], y.entry⟩) (hn : Blk W n 38 (ncells x (.slice none 0 0)).toArray) (hg : Blk W g 45 (gcells y (.slice none 0 0) (.slice none 0 0) (.slice none 0 0) (.slice (some ⟨n, 0, none⟩) 1 1)).toArray) :
    GraphsAt W W.heap.size (.slice (some ⟨g, 0, none⟩) 1 1) [y] := by
  have hnil : ∀ k, NumsAt k W W.heap.size (.slice none 0 0) [] := fun k => ⟨none, 0, 0, rfl, Nat.le_refl _, by unfold maxLen; omega, rfl, Reads.none_⟩
  refine ⟨_, _, _, [gcells y (.slice none 0 0) (.slice none 0 0) (.slice none 0 0) (.slice (some ⟨n, 0, none⟩) 1 1)], rfl, Nat.le_refl _, by unfold maxLen; omega, rfl, rfl, by simp [gcells], Reads.of_blk hg (by simp) (by simp [gcells]), fun i z hz => ?_⟩
  match i, hz with
  | 0, hz =>
    simp only [List.getElem?_cons_zero, Option.some.injEq] at hz
    subst hz
    refine ⟨_, rfl, _, _, _, _, rfl, ?_, ?_, ?_, ?_⟩
    · rw [hy]; exact hnil _
    · rw [hy]; exact hnil _
    · rw [hy]; exact hnil _
    · refine ⟨_, _, _, [ncells x (.slice none 0 0)], rfl, Nat.le_refl _, by unfold maxLen; omega, by rw [hy]; rfl, rfl, by simp [ncells], Reads.of_blk hn (by simp) (by simp [ncells]), fun i z hz => ?_⟩
      rw [hy] at hz
      match i, hz with
      | 0, hz =>
        simp only [List.getElem?_cons_zero, Option.some.injEq] at hz
        subst hz
        exact ⟨_, rfl, _, rfl, by rw [hx]; exact hnil _⟩
theorem Blk.new3 (w : World) (o o' : Obj) (t : TypeId) (cs : Array Value) : Blk (((w.alloc o).alloc o').alloc (.cells cs t)) (w.heap.size + 1 + 1) t cs := by
  have := Blk.new ((w.alloc o).alloc o') t cs
  rwa [World.size_alloc, World.size_alloc] at this
set_option maxRecDepth 100000 in
set_option maxHeartbeats 4000000 in
theorem first_any (w : World) : Calls Try.prog 7 #[] w fun e w' => e = .returned (.bool true) ∧ Below w.heap.size w w' := by
  go_enter Try.func7, Try.ntmps7
  go_wp2_with fail
  have hN : Blk (((w.alloc (.cells (ncells nd0 (.slice none 0 0)).toArray 38)).alloc (.cells (gcells gr0 (.slice none 0 0) (.slice none 0 0) (.slice none 0 0) (.slice (some ⟨w.heap.size, 0, none⟩) 1 1)).toArray 45)).alloc (.cells #[.slice (some ⟨w.heap.size + 1, 0, none⟩) 1 1] 24)) w.heap.size 38 (ncells nd0 (.slice none 0 0)).toArray := ((Blk.new w _ _).alloc _).alloc _
  have hG := (Blk.new2 w (.cells (ncells nd0 (.slice none 0 0)).toArray 38) 45 (gcells gr0 (.slice none 0 0) (.slice none 0 0) (.slice none 0 0) (.slice (some ⟨w.heap.size, 0, none⟩) 1 1)).toArray).alloc (.cells #[.slice (some ⟨w.heap.size + 1, 0, none⟩) 1 1] 24)
  have hT := Blk.new3 w (.cells (ncells nd0 (.slice none 0 0)).toArray 38) (.cells (gcells gr0 (.slice none 0 0) (.slice none 0 0) (.slice none 0 0) (.slice (some ⟨w.heap.size, 0, none⟩) 1 1)).toArray 45) 24 #[.slice (some ⟨w.heap.size + 1, 0, none⟩) 1 1]
  have hb : Below w.heap.size w (((w.alloc (.cells (ncells nd0 (.slice none 0 0)).toArray 38)).alloc (.cells (gcells gr0 (.slice none 0 0) (.slice none 0 0) (.slice none 0 0) (.slice (some ⟨w.heap.size, 0, none⟩) 1 1)).toArray 45)).alloc (.cells #[.slice (some ⟨w.heap.size + 1, 0, none⟩) 1 1] 24)) := (((Below.refl _ _).alloc (Nat.le_refl _) _).alloc (by simp) _).alloc (by simp; omega) _
  obtain ⟨V, hV⟩ : ∃ V, V = (((w.alloc (.cells (ncells nd0 (.slice none 0 0)).toArray 38)).alloc (.cells (gcells gr0 (.slice none 0 0) (.slice none 0 0) (.slice none 0 0) (.slice (some ⟨w.heap.size, 0, none⟩) 1 1)).toArray 45)).alloc (.cells #[.slice (some ⟨w.heap.size + 1, 0, none⟩) 1 1] 24)) := ⟨_, rfl⟩
  have hsz : V.heap.size = w.heap.size + 1 + 1 + 1 := by rw [hV]; simp
  rw [← hsz]
  have eV : (((w.alloc (.cells #[.int .u8 12, .int .u8 0, .int .i64 0, .int .i64 0, .int .i64 (-1), .int .i64 0, .int .i64 0, .int .i64 0, .int .u64 0, .slice none 0 0, .int .i64 0, .int .i64 0] 38)).alloc (.cells #[.slice none 0 0, .slice none 0 0, .int .i64 0, .slice none 0 0, .bool false, .int .i64 (-1), .slice (some ⟨w.heap.size, 0, none⟩) 1 1, .int .i64 0] 45)).alloc (.cells #[.slice (some ⟨w.heap.size + 1, 0, none⟩) 1 1] 24)) = V := hV.symm
  rw [eV]
  rw [← hV] at hN hG hT hb
  have hgs := graphs_one nd0 gr0 rfl rfl hN hG
  obtain ⟨U, hU⟩ : ∃ U, U = w.heap.size + 1 + 1 := ⟨_, rfl⟩
  obtain ⟨GB, hGB⟩ : ∃ GB, GB = w.heap.size + 1 := ⟨_, rfl⟩
  rw [← hGB] at hgs hT ⊢
  rw [← hGB] at hU
  rw [← hU] at hT ⊢
  have hTl := hT.lt
  have HN := Lib.hid hN
  have HG := Lib.hid hG
  have HT := Lib.hid hT
  have Hb := Lib.hid hb
  have Hgs := Lib.hid hgs
  have HV := Lib.hid hV
  have HEV := Lib.hid eV
  have HU := Lib.hid hU
  have HGB := Lib.hid hGB
  clear hGB hU eV hV hgs hb hT hG hN
  clear hsz
  have hal := (Below.refl V.heap.size V).alloc (Nat.le_refl _) (.cells #[.int .i64 3, .int .i64 3, .int .i64 4] 3)
  have hlist : NumsAt .i64 (V.alloc (.cells #[.int .i64 3, .int .i64 3, .int .i64 4] 3)) (V.heap.size + 1) (.slice (some ⟨V.heap.size, 0, none⟩) 3 3) [3, 3, 4] := ⟨_, _, _, rfl, Nat.le_refl _, by unfold maxLen; omega, rfl, Reads.newL' V 3 [3, 3, 4] rfl rfl rfl⟩
  have hrd := reads_any _ nd1 _ _ (by simp) hlist (by decide)
  rw [reads01] at hrd
  have Hal := Lib.hid hal
  have Hlist := Lib.hid hlist
  clear hlist hal
  refine hrd.mono ?_
  rintro e w1 ⟨⟨v, rfl, hL⟩, hb1⟩
  have hb1' := Hal.out.trans (hb1.mono Hal.out.size)
  obtain ⟨LA, lc, rfl, _, _, hLr⟩ := hL
  obtain ⟨ad, hLA, hadb, hce⟩ := hLr.2 (by decide)
  subst hLA
  have ha0 := hce 0 _ rfl
  have ha1 := hce 1 _ rfl
  have hgs1 := Hgs.out.below hb1'
  have hT1 := HT.out.below hb1' hTl
  have hbw1 := Hb.out.trans (hb1'.mono Hb.out.size)
  have hs1 := hb1'.size
  have kt0 := Blk.cell hT1 0
  simp only [List.getElem?_toArray, List.getElem?_cons_zero, List.getElem?_cons_succ] at kt0
  have hchk := check_any hgs1 hs1 ⟨by simp [gr0], by simp [gr0, nd0]⟩ false
  rw [check00] at hchk
  have ead : ad.add 0 = ad := by simp [Addr.add]
  rw [ead] at ha0
  have Hgs1 := Lib.hid hgs1
  have HT1 := Lib.hid hT1
  have Hbw1 := Lib.hid hbw1
  have HLr := Lib.hid hLr
  have Hchk := Lib.hid hchk
  have Hb1' := Lib.hid hb1'
  clear hb1' hchk hLr hbw1 hT1 hgs1
  clear hb1 hrd hce ead
  go_wp2_with fail
  refine Hchk.out.mono ?_
  rintro e w2 ⟨rfl, hb2⟩
  have lad : (ad.add 1).block < w1.heap.size := by rw [block_of_add]; exact hadb
  have hgs2 := Hgs1.out.below (hb2.mono hs1)
  have hT2 := HT1.out.below hb2 HT1.out.lt
  have hbw2 := Hbw1.out.trans (hb2.mono Hbw1.out.size)
  have hc0 := (hb2.cell (p := ad) hadb).trans ha0
  have hc1 := (hb2.cell (p := ad.add 1) lad).trans ha1
  have hs2 : V.heap.size ≤ w2.heap.size := Nat.le_trans hs1 hb2.size
  have hchk2 := check_any hgs2 hs2 ⟨by simp [gr0], by simp [gr0, nd0]⟩ true
  rw [check01] at hchk2
  clear kt0 ha0 ha1
  have kt0 := Blk.cell hT2 0
  simp only [List.getElem?_toArray, List.getElem?_cons_zero, List.getElem?_cons_succ] at kt0
  have hl2 := hb2.size
  have Hgs2 := Lib.hid hgs2
  have HT2 := Lib.hid hT2
  have Hbw2 := Lib.hid hbw2
  have Hchk2 := Lib.hid hchk2
  clear hchk2 hbw2 hT2 hgs2
  clear hb2
  go_wp2_with fail
  refine Hchk2.out.mono ?_
  rintro e w3 ⟨rfl, hb3⟩
  have hd0 := (hb3.cell (p := ad) (by omega)).trans hc0
  have hd1 := (hb3.cell (p := ad.add 1) (by omega)).trans hc1
  have e1 : ad.add 1 = ⟨ad.block, ad.off + 1, none⟩ := by simp [Addr.add]
  rw [e1] at hd1
  clear e1
  have hbw3 := Hbw2.out.trans (hb3.mono Hbw2.out.size)
  have Hbw3 := Lib.hid hbw3
  clear hbw3
  clear hb3 hc0 hc1 kt0
  go_wp2_with fail
  go_ret
  exact ⟨rfl, Hbw3.out⟩
end Go.Proofs.Ytfjalejlbegkeaa
