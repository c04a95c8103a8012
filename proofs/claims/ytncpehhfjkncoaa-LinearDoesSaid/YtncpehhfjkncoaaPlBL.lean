/- Walk of the document's whole run. Conditions: graphs that are right, words within their type. Walks of the document's sameness of what is told. Conditions: what is told lies in memory, the one begins the other. What the law's graphs in a line are, plainly. Conditions: graphs that are right. Chains and rings of jumps, laid in a line, plainly. No condition. -/
import Derived.Test.YtncpehhfjkncoaaPlAA
import Derived.Test.YtncpehhfjkncoaaPlBK
import Derived.Test.YtncpehhfjkncoaaPlAD
import Derived.Deep.QuietTactic
import Derived.Deep.CutBlock
import Derived.Deep.DeepMust
import Derived.Deep.DeepCutAuto
import Derived.Laws.StructEq
import Derived.ChangeKeysEq
import Derived.Test.YtncpehhfjkncoaaPlAQ
set_option linter.unusedVariables false
set_option linter.unusedSimpArgs false
set_option maxRecDepth 100000
set_option maxHeartbeats 16000000
namespace Go.Proofs.Ytncpehhfjkncoaa
open Go.RowKit
section
variable {w : World} {B : Nat} {gv tv : Value} {gs : List GraphD} {tape : List Int}
theorem go_one {R U : RunD} {n : Nat} (he : R.endK = 0) (hu : R.go gs (n + 1) = U) : (R.step gs).go gs n = U := by
 rw [<- hu];exact (if_pos he).symm
theorem all_any (hB : B <= w.heap.size) (hg : GsW gs) (hi : ImmU gs) {g0 : GraphD} (h1 : gs[0]? = some g0) (h0 : g0.params.length = 0) (hgs : GraphsAt w B gv gs) (htv : NumsAt .u64 w B tv tape) (ht : ∀ v ∈ tape, U64 v) (htl : tape.length * 8 <= 140737488351232) {fuel : Nat} (hf : fuel <= 999998) :
  Calls Try.prog 7 #[.agg #[gv], .bool true, tv, .int .i64 fuel] w fun e w' => Below w.heap.size w w' /\ ∃ X, X.gs = gs /\ e = .returned (.pointer (some ⟨X.rp, 0, none⟩)) /\ RunAt w' w.heap.size X (allR gs tape fuel) [] := by
 obtain ⟨GA, gc, rfl, _, _⟩ := hgs.slice;obtain ⟨TA, tc, rfl, _, _, hTr⟩ := htv.slice;obtain ⟨GL, hGL⟩ := mn (gs.length);obtain ⟨TL, hTL⟩ := mn (tape.length);rw [hGL, hTL];obtain ⟨T, hT⟩ := mn (w.heap.size);obtain ⟨w1, hw1⟩ := nm (w.alloc (.cells #[.slice GA GL gc] 24));have hb1 := (Below.refl T w).alloc (by omega) (.cells #[.slice GA GL gc] 24);obtain ⟨Hg, Hi, H0, H1, Hgs, Htv, Ht, HTr⟩ := hd8 hg hi h0 h1 hgs htv ht hTr;obtain ⟨HGL, HTL, HT, Hb1⟩ := hd4 hGL hTL hT hb1;clear hb1 hT hTL hGL hTr ht htv hgs h1 h0 hi hg;go_enter Try.func7, Try.ntmps7;go_upto_region 1 with fail
 have hG1 : Blk w1 T 24 #[.slice GA GL gc] := by rw [hw1, <- HT.out]; exact Blk.new w _ _
 rw [<- hw1] at Hb1;rw [HT.out, <- hw1];have k0 : w1.cell? ⟨T, 0, none⟩ = some (.slice GA GL gc) := hG1.cell 0
 have hz1 : w1.heap.size = T + 1 := by rw [hw1, <- HT.out]; simp
 have hmk : ∀ W : World, (Instr.makeSlice 25 (.int .i64 16) (.int .i64 16)).run Try.prog W = .ok (.slice (some ⟨W.heap.size, 0, none⟩) 16 16) (W.alloc (.cells (u64Z 16) 34)) := make_u64 16 (by omega)
 have hSS : ∀ W : World, (∀ p : Addr, p.block < w1.heap.size -> W.cell? p = w1.cell? p) -> W.cell? ⟨T, 0, none⟩ = some (.slice GA GL gc) := fun W hW => (hW ⟨T, 0, none⟩ (by show T < _; omega)).trans k0
 obtain ⟨Hw1, HG1⟩ := hd2 hw1 hG1;clear hG1 hw1
 go_cut [9] from 10 to 17 (fun v wx => (∃ rp, v = .pointer (some ⟨rp, 0, none⟩) /\ Hid (RunAt wx T ⟨rp, .slice GA GL gc, gs, B⟩ (runZ tape) [])) /\ Hid (Below T w wx))
 case first =>
  refine wp_region_late (S := fun W => W.cell? ⟨T, 0, none⟩ = some (.slice GA GL gc)) #[false, false, false, false, false, false, false, false, false] (by kernel_rfl) k0 (fun hHeld => ?_);refine wpAnyL_tk 0 ?_;refine wpAnyL_tk 1 ?_;refine wpAnyL_tk 4 ?_;refine wpAnyL_ready (rs := [2, 3]) (by kernel_rfl) (by simp) ?_;refine AllReadyL.cons rfl (fun K hK => ?_) (AllReadyL.cons rfl (fun K hK => ?_) AllReadyL.nil)
  ·go_simp;refine hK.out _ _ ((hSS _ fun p hp => World.cell?_alloc_lt w1 _ p hp)) (fun hHeld2 => ?_);clear hK K hHeld;refine lay ?_;refine wpAnyL_rd 3 (fun K hK => ?_);go_simp;refine hK.out _ _ (hSS _ fun p hp => (World.cell?_alloc_lt _ _ p (by simp; omega)).trans (World.cell?_alloc_lt w1 _ p hp)) (fun hHeld3 => ?_);clear hK K hHeld2;refine lay ?_
   have hz2 : (w1.alloc (.cells (u64Z 16) 34)).heap.size = T + 1 + 1 := by simp; omega
   have hi1 := (Items.nil w1 T).new (World.grownBy_alloc w1 (.cells (u64Z 16) 34) none) (x := .row (.slice (some ⟨w1.heap.size, 0, none⟩) 16 16) 34 1 (List.replicate 16 (0 : Int)).length (u64s (List.replicate 16 0))) (own_made w1 T 16 (by omega) (by omega)) (fun b e => by have e : some w1.heap.size = some b := e; injection e with e; omega);have hi2 := hi1.new (World.grownBy_alloc _ (.cells (u64Z 0) 34) none) (x := .row (.slice (some ⟨(w1.alloc (.cells (u64Z 16) 34)).heap.size, 0, none⟩) 0 0) 34 1 (List.replicate 0 (0 : Int)).length (u64s (List.replicate 0 0))) (own_made _ T 0 (by omega) (by omega)) (fun b e => by have e : some (w1.alloc (.cells (u64Z 16) 34)).heap.size = some b := e; injection e with e; omega);rw [hz2, hz1] at hi2;have hi3 := hi2.drew;have hb3 := ((Hb1.out.alloc (by omega) (.cells (u64Z 16) 34)).alloc (by omega) (.cells (u64Z 0) 34)).drew;obtain ⟨W3, hW3⟩ := nm (((w1.alloc (.cells (u64Z 16) 34)).alloc (.cells (u64Z 0) 34)).drew);rw [<- hW3] at hi3 hb3;have hr3 := HTr.out.below (hb3.mono (show B <= T by have := HT.out; omega));refine wpAnyL_rd 5 (fun K hK => ?_)
   have hW3' : ((w1.alloc (.cells (u64Z 16) 34)).alloc (.cells #[] 34)).drew = W3 := by rw [hW3, show u64Z 0 = #[] from by first | rfl | simp [u64Z, madeCells]]
   rw [hW3']
   have hz3 : T <= W3.heap.size := by rw [hW3]; simp; omega
   obtain ⟨iU, hiU, uz0, uz1, uz2⟩ := info_parts infoU64;refine step_append_any _ rfl (.tmp 13) (.tmp 14) _ rfl T 34 iU _ 1 8 Try.underlying25 hiU uz0 uz1 uz2 rfl (by omega) _ 0 [] rfl (hi3.each _ List.mem_cons_self) B TA TL tc _ rfl (by rw [<- HTL.out]; exact hr3) ?c1 ?c2 ?c3 ?c4 ?_
   case c1 => intro u hu; obtain ⟨z, _, rfl⟩ := List.mem_map.mp hu; rfl
   case c2 => have := HTL.out; simp only [maxLen]; omega
   case c3 => have := HTL.out; omega
   case c4 => exact hz3
   intro v5 w5 hown5 hg5 hat5
   have hzT : T + 1 + 1 < W3.heap.size := by rw [hW3]; simp; omega
   have hi5 := hi3.push (i := 0) rfl (by rw [Nat.zero_add] at hown5; exact hown5) hg5 (by
    rcases hat5 with e | e
    ·exact .inl e
    ·exact .inr fun b hb => by rw [e] at hb; injection hb with hb; omega)
   have hb5 := hb3.grown hg5 hz3 (fun b e => by have e : some (T + 1 + 1) = some b := e; injection e with e; omega);have hk5 : w5.cell? ⟨T, 0, none⟩ = some (.slice GA GL gc) := (hg5.cell_far ⟨T, 0, none⟩ (by show T < _; omega) (by show some T ≠ some (T + 1 + 1); intro h; injection h with h; omega)).trans (by rw [<- hW3']; exact hHeld3);obtain ⟨A5, c5, rfl, _⟩ := own_any hown5;refine hK.out _ _ hk5 (fun hHeld5 => ?_);clear hK K hHeld3;obtain ⟨Hi1, Hi2, Hi3, Hi5, Hb3, Hb5, Hown5, Hg5⟩ := hd8 hi1 hi2 hi3 hi5 hb3 hb5 hown5 hg5;obtain ⟨Hat5, HW3⟩ := hd2 hat5 hW3;clear hW3 hat5 hg5 hown5 hb5 hb3 hi5 hi3 hi2 hi1;refine lay ?_;refine wpAnyL_tk 6 ?_;refine wpAnyL_rd 7 (fun K hK => ?_);go_simp
   have hz5 : T <= w5.heap.size := by have := Hg5.out.size; omega
   have hi7 := Hi5.out.newBlk hz5 41 #[.slice GA GL gc, .bool true, .slice (some ⟨T + 1, 0, none⟩) 16 16, .slice none 0 0, .slice none 0 0, .slice A5 TL c5, .slice none 0 0, .int .i64 0, .int .u64 0, .int .i64 0, .int .i64 0, .int .i64 0, .int .i64 0];have hb7 := Hb5.out.alloc hz5 (.cells #[.slice GA GL gc, .bool true, .slice (some ⟨T + 1, 0, none⟩) 16 16, .slice none 0 0, .slice none 0 0, .slice A5 TL c5, .slice none 0 0, .int .i64 0, .int .u64 0, .int .i64 0, .int .i64 0, .int .i64 0, .int .i64 0] 41);refine hK.out _ _ ((World.cell?_alloc_lt _ _ _ (by show T < _; have := Hg5.out.size; omega)).trans hHeld5) (fun hHeld7 => ?_);clear hK K hHeld5;obtain ⟨Hi7, Hb7, Hz5⟩ := hd3 hi7 hb7 hz5;clear hz5 hb7 hi7;refine lay ?_;refine wpAnyL_tk 8 ?_;refine wpAnyL_done (by kernel_rfl) ?_ _;go_wp2_with fail;go_meet;have hgs7 := Hgs.out.below (Hb7.out.mono (show B <= T by have := HT.out; omega));rw [HGL.out] at hgs7;have hl5 := HTL.out;subst hl5;have hi8 := Hi7.out;simp only [Nat.zero_add, List.nil_append, List.length_replicate] at hi8;have hfa := start_at (show B <= T by have := HT.out; omega) hgs7 (Items.perm hi8 ((List.Perm.swap _ _ _).trans ((List.Perm.swap _ _ _).cons _)))
   first
    | exact ⟨⟨_, rfl, Lib.hid hfa⟩, Hb7⟩
    | exact ⟨⟨_, rfl, Lib.hid hfa.drew⟩, Lib.hid Hb7.out.drew⟩
  ·go_simp;refine hK.out _ _ ((hSS _ fun p hp => World.cell?_alloc_lt w1 _ p hp)) (fun hHeld2 => ?_);clear hK K hHeld;refine lay ?_;refine wpAnyL_ready (rs := [2, 5]) (by kernel_rfl) (by simp) ?_;refine AllReadyL.cons rfl (fun K hK => ?_) (AllReadyL.cons rfl (fun K hK => ?_) AllReadyL.nil)
   rotate_left
   ·have hi2 := (Items.nil w1 T).new (World.grownBy_alloc w1 (.cells (u64Z 0) 34) none) (x := .row (.slice (some ⟨w1.heap.size, 0, none⟩) 0 0) 34 1 (List.replicate 0 (0 : Int)).length (u64s (List.replicate 0 0))) (own_made w1 T 0 (by omega) (by omega)) (fun b e => by have e : some w1.heap.size = some b := e; injection e with e; omega);rw [hz1] at hi2;have hi3 := hi2.drew;have hb3 := (Hb1.out.alloc (by omega) (.cells (u64Z 0) 34)).drew;obtain ⟨W3, hW3⟩ := nm ((w1.alloc (.cells (u64Z 0) 34)).drew);rw [<- hW3] at hi3 hb3;have hr3 := HTr.out.below (hb3.mono (show B <= T by have := HT.out; omega))
    have hW3' : (w1.alloc (.cells #[] 34)).drew = W3 := by rw [hW3, show u64Z 0 = #[] from by first | rfl | simp [u64Z, madeCells]]
    try rw [hW3']
    have hz3 : T <= W3.heap.size := by rw [hW3]; simp; omega
    obtain ⟨iU, hiU, uz0, uz1, uz2⟩ := info_parts infoU64;refine step_append_any _ rfl (.tmp 13) (.tmp 14) _ rfl T 34 iU _ 1 8 Try.underlying25 hiU uz0 uz1 uz2 rfl (by omega) _ 0 [] rfl (hi3.each _ List.mem_cons_self) B TA TL tc _ rfl (by rw [<- HTL.out]; exact hr3) ?d1 ?d2 ?d3 ?d4 ?_
    case d1 => intro u hu; obtain ⟨z, _, rfl⟩ := List.mem_map.mp hu; rfl
    case d2 => have := HTL.out; simp only [maxLen]; omega
    case d3 => have := HTL.out; omega
    case d4 => exact hz3
    intro v5 w5 hown5 hg5 hat5
    have hzT : T + 1 < W3.heap.size := by rw [hW3]; simp; omega
    have hi5 := hi3.push (i := 0) rfl (by rw [Nat.zero_add] at hown5; exact hown5) hg5 (by
     rcases hat5 with e | e
     ·exact .inl e
     ·exact .inr fun b hb => by rw [e] at hb; injection hb with hb; omega)
    have hb5 := hb3.grown hg5 hz3 (fun b e => by have e : some (T + 1) = some b := e; injection e with e; omega);have hk5 : w5.cell? ⟨T, 0, none⟩ = some (.slice GA GL gc) := (hg5.cell_far ⟨T, 0, none⟩ (by show T < _; omega) (by show some T ≠ some (T + 1); intro h; injection h with h; omega)).trans (by rw [<- hW3']; exact hHeld2);obtain ⟨A5, c5, rfl, _⟩ := own_any hown5
    have hz5 : T + 1 < w5.heap.size := by have := hg5.size; omega
    refine hK.out _ _ hk5 (fun hHeld5 => ?_);clear hK K hHeld2;have hi6 := hi5.new (World.grownBy_alloc _ (.cells (u64Z 16) 34) none) (x := .row (.slice (some ⟨w5.heap.size, 0, none⟩) 16 16) 34 1 (List.replicate 16 (0 : Int)).length (u64s (List.replicate 16 0))) (own_made _ T 16 (by omega) (by omega)) (fun b e => by have e : some w5.heap.size = some b := e; injection e with e; omega);have hb6 := hb5.alloc (by omega) (.cells (u64Z 16) 34);obtain ⟨Hi2, Hi3, Hi5, Hi6, Hb3, Hb5, Hb6, Hown5⟩ := hd8 hi2 hi3 hi5 hi6 hb3 hb5 hb6 hown5;obtain ⟨Hg5, Hat5, HW3⟩ := hd3 hg5 hat5 hW3;clear hW3 hat5 hg5 hown5 hb6 hb5 hb3 hi6 hi5 hi3 hi2;refine lay ?_;refine wpAnyL_rd 2 (fun K hK => ?_);go_simp;refine hK.out _ _ ((World.cell?_alloc_lt _ _ _ (by show T < _; omega)).trans hHeld5) (fun hHeld6 => ?_);clear hK K hHeld5;obtain ⟨w6, hw6⟩ := nm (w5.alloc (.cells (u64Z 16) 34));have hi6 := Hi6.out;have hb6 := Hb6.out;rw [<- hw6] at hHeld6 hi6 hb6 ⊢
    have hz6 : T + 1 < w6.heap.size := by rw [hw6]; simp; omega
    obtain ⟨Z, hZ⟩ := mn (w5.heap.size);rw [hZ] at hi6 ⊢;clear Hi6 Hb6;obtain ⟨Hi6, Hb6, Hw6, HZ⟩ := hd4 hi6 hb6 hw6 hZ;clear hZ hw6 hb6 hi6;refine lay ?_;refine wpAnyL_tk 6 ?_;refine wpAnyL_rd 7 (fun K hK => ?_);go_simp;have hi7 := Hi6.out.newBlk (show T <= w6.heap.size by omega) 41 #[.slice GA GL gc, .bool true, .slice (some ⟨Z, 0, none⟩) 16 16, .slice none 0 0, .slice none 0 0, .slice A5 TL c5, .slice none 0 0, .int .i64 0, .int .u64 0, .int .i64 0, .int .i64 0, .int .i64 0, .int .i64 0];have hb7 := Hb6.out.alloc (show T <= w6.heap.size by omega) (.cells #[.slice GA GL gc, .bool true, .slice (some ⟨Z, 0, none⟩) 16 16, .slice none 0 0, .slice none 0 0, .slice A5 TL c5, .slice none 0 0, .int .i64 0, .int .u64 0, .int .i64 0, .int .i64 0, .int .i64 0, .int .i64 0] 41);refine hK.out _ _ ((World.cell?_alloc_lt _ _ _ (by show T < _; omega)).trans hHeld6) (fun hHeld7 => ?_);clear hK K hHeld6;obtain ⟨Hi7, Hb7⟩ := hd2 hi7 hb7;clear hb7 hi7;refine lay ?_;refine wpAnyL_tk 8 ?_;refine wpAnyL_done (by kernel_rfl) ?_ _;go_wp2_with fail;go_meet;have hgs7 := Hgs.out.below (Hb7.out.mono (show B <= T by have := HT.out; omega));rw [HGL.out] at hgs7;have hl5 := HTL.out;subst hl5;have hi8 := Hi7.out;simp only [Nat.zero_add, List.nil_append, List.length_replicate] at hi8;have hfa := start_at (show B <= T by have := HT.out; omega) hgs7 (Items.perm hi8 (((List.Perm.swap _ _ _).cons _).trans ((List.Perm.swap _ _ _).trans ((List.Perm.swap _ _ _).cons _))))
    first
     | exact ⟨⟨_, rfl, Lib.hid hfa⟩, Hb7⟩
     | exact ⟨⟨_, rfl, Lib.hid hfa.drew⟩, Lib.hid Hb7.out.drew⟩
   go_simp;refine hK.out _ _ (hSS _ fun p hp => (World.cell?_alloc_lt _ _ p (by simp; omega)).trans (World.cell?_alloc_lt w1 _ p hp)) (fun hHeld3 => ?_);clear hK K hHeld2;refine lay ?_
   have hz2 : (w1.alloc (.cells (u64Z 0) 34)).heap.size = T + 1 + 1 := by simp; omega
   have hi1 := (Items.nil w1 T).new (World.grownBy_alloc w1 (.cells (u64Z 0) 34) none) (x := .row (.slice (some ⟨w1.heap.size, 0, none⟩) 0 0) 34 1 (List.replicate 0 (0 : Int)).length (u64s (List.replicate 0 0))) (own_made w1 T 0 (by omega) (by omega)) (fun b e => by have e : some w1.heap.size = some b := e; injection e with e; omega);have hi2 := hi1.new (World.grownBy_alloc _ (.cells (u64Z 16) 34) none) (x := .row (.slice (some ⟨(w1.alloc (.cells (u64Z 0) 34)).heap.size, 0, none⟩) 16 16) 34 1 (List.replicate 16 (0 : Int)).length (u64s (List.replicate 16 0))) (own_made _ T 16 (by omega) (by omega)) (fun b e => by have e : some (w1.alloc (.cells (u64Z 0) 34)).heap.size = some b := e; injection e with e; omega);rw [hz2, hz1] at hi2;have hi3 := hi2.drew;have hb3 := ((Hb1.out.alloc (by omega) (.cells (u64Z 0) 34)).alloc (by omega) (.cells (u64Z 16) 34)).drew;obtain ⟨W3, hW3⟩ := nm (((w1.alloc (.cells (u64Z 0) 34)).alloc (.cells (u64Z 16) 34)).drew);rw [<- hW3] at hi3 hb3;have hr3 := HTr.out.below (hb3.mono (show B <= T by have := HT.out; omega));refine wpAnyL_rd 5 (fun K hK => ?_)
   have hW3' : ((w1.alloc (.cells #[] 34)).alloc (.cells (u64Z 16) 34)).drew = W3 := by rw [hW3, show u64Z 0 = #[] from by first | rfl | simp [u64Z, madeCells]]
   rw [hW3']
   have hz3 : T <= W3.heap.size := by rw [hW3]; simp; omega
   obtain ⟨iU, hiU, uz0, uz1, uz2⟩ := info_parts infoU64;refine step_append_any _ rfl (.tmp 13) (.tmp 14) _ rfl T 34 iU _ 1 8 Try.underlying25 hiU uz0 uz1 uz2 rfl (by omega) _ 0 [] rfl (hi3.each _ (List.mem_cons_of_mem _ List.mem_cons_self)) B TA TL tc _ rfl (by rw [<- HTL.out]; exact hr3) ?c1 ?c2 ?c3 ?c4 ?_
   case c1 => intro u hu; obtain ⟨z, _, rfl⟩ := List.mem_map.mp hu; rfl
   case c2 => have := HTL.out; simp only [maxLen]; omega
   case c3 => have := HTL.out; omega
   case c4 => exact hz3
   intro v5 w5 hown5 hg5 hat5
   have hzT : T + 1 + 1 < W3.heap.size := by rw [hW3]; simp; omega
   have hi5 := hi3.push (i := 1) rfl (by rw [Nat.zero_add] at hown5; exact hown5) hg5 (by
    rcases hat5 with e | e
    ·exact .inl e
    ·exact .inr fun b hb => by rw [e] at hb; injection hb with hb; omega)
   have hb5 := hb3.grown hg5 hz3 (fun b e => by have e : some (T + 1) = some b := e; injection e with e; omega);have hk5 : w5.cell? ⟨T, 0, none⟩ = some (.slice GA GL gc) := (hg5.cell_far ⟨T, 0, none⟩ (by show T < _; omega) (by show some T ≠ some (T + 1); intro h; injection h with h; omega)).trans (by rw [<- hW3']; exact hHeld3);obtain ⟨A5, c5, rfl, _⟩ := own_any hown5;refine hK.out _ _ hk5 (fun hHeld5 => ?_);clear hK K hHeld3;obtain ⟨Hi1, Hi2, Hi3, Hi5, Hb3, Hb5, Hown5, Hg5⟩ := hd8 hi1 hi2 hi3 hi5 hb3 hb5 hown5 hg5;obtain ⟨Hat5, HW3⟩ := hd2 hat5 hW3;clear hW3 hat5 hg5 hown5 hb5 hb3 hi5 hi3 hi2 hi1;refine lay ?_;refine wpAnyL_tk 6 ?_;refine wpAnyL_rd 7 (fun K hK => ?_);go_simp
   have hz5 : T <= w5.heap.size := by have := Hg5.out.size; omega
   have hi7 := Hi5.out.newBlk hz5 41 #[.slice GA GL gc, .bool true, .slice (some ⟨T + 1 + 1, 0, none⟩) 16 16, .slice none 0 0, .slice none 0 0, .slice A5 TL c5, .slice none 0 0, .int .i64 0, .int .u64 0, .int .i64 0, .int .i64 0, .int .i64 0, .int .i64 0];have hb7 := Hb5.out.alloc hz5 (.cells #[.slice GA GL gc, .bool true, .slice (some ⟨T + 1 + 1, 0, none⟩) 16 16, .slice none 0 0, .slice none 0 0, .slice A5 TL c5, .slice none 0 0, .int .i64 0, .int .u64 0, .int .i64 0, .int .i64 0, .int .i64 0, .int .i64 0] 41);refine hK.out _ _ ((World.cell?_alloc_lt _ _ _ (by show T < _; have := Hg5.out.size; omega)).trans hHeld5) (fun hHeld7 => ?_);clear hK K hHeld5;obtain ⟨Hi7, Hb7, Hz5⟩ := hd3 hi7 hb7 hz5;clear hz5 hb7 hi7;refine lay ?_;refine wpAnyL_tk 8 ?_;refine wpAnyL_done (by kernel_rfl) ?_ _;go_wp2_with fail;go_meet;have hgs7 := Hgs.out.below (Hb7.out.mono (show B <= T by have := HT.out; omega));rw [HGL.out] at hgs7;have hl5 := HTL.out;subst hl5;have hi8 := Hi7.out;simp only [Nat.zero_add, List.nil_append, List.length_replicate] at hi8;have hfa := start_at (show B <= T by have := HT.out; omega) hgs7 (Items.perm hi8 (((List.Perm.swap _ _ _).cons _).trans ((List.Perm.swap _ _ _).trans ((List.Perm.swap _ _ _).cons _))))
   first
    | exact ⟨⟨_, rfl, Lib.hid hfa⟩, Hb7⟩
    | exact ⟨⟨_, rfl, Lib.hid hfa.drew⟩, Lib.hid Hb7.out.drew⟩
 case rest =>
  obtain ⟨⟨rp, rfl, hrun⟩, hbc⟩ := hcut;obtain ⟨X, hX⟩ := nm (⟨rp, .slice GA GL gc, gs, B⟩ : RunX);rw [<- hX] at hrun
  have hXr : X.rp = rp := by rw [hX]
  have hXg : X.gs = gs := by rw [hX]
  have hpush := push_any (args := []) (hrun.out.nilRow 34 1) (f := 0) (by rw [hXg]; exact Hg.out.push 0 g0 _ H1.out H0.out.symm) List.mem_cons_self (by show 0 < _; omega) 0;rw [hXr, hXg] at hpush;obtain ⟨HX, HXg, HXr, Hpush⟩ := hd4 hX hXg hXr hpush;clear hpush hXr hXg hX;clear hrun;go_upto_region 2 with fail;go_wp2_with fail;refine Hpush.out.mono ?_;rintro e w2 ⟨rfl, h2, hb2⟩;have hbw := hbc.out.trans hb2;have hlp := LpI.start Hg.out (by have := (List.getElem?_eq_some_iff.1 H1.out).1; omega) Ht.out;have h2' := h2.sub (List.sublist_cons_self _ _);obtain ⟨U, hU⟩ := mn (allR gs tape fuel);clear hbc;obtain ⟨H2, H2', Hb2, Hbw, Hlp, HU⟩ := hd6 h2 h2' hb2 hbw hlp hU;clear hU hlp hbw hb2 h2' h2;go_upto_region 3 with fail
  go_loopg [] fuel (fun gk wr => Hid (∃ k R', k + gk = fuel /\ RunAt wr T X R' [] /\ Below T w wr /\ LpI gs k R' /\ R'.go gs gk = U))
  case atStart => exact Lib.hid ⟨0, _, by omega, H2'.out, Hbw.out, Hlp.out, HU.out⟩
  case round =>
   obtain ⟨k, R', hk, hR, hbr, hl, hu⟩ := hrel.out;clear hrel;obtain ⟨V, hV⟩ := hR.run;have c7 : wr.cell? ⟨X.rp, 7, none⟩ = some (.int .i64 R'.endK) := hV.blk.cell 7;have c9 : wr.cell? ⟨X.rp, 9, none⟩ = some (.int .i64 R'.steps) := hV.blk.cell 9;have c7f := hV.blk.frozen 7;rw [hl.steps] at c9;rw [HXr.out] at c7 c9 c7f
   by_cases he : R'.endK = 0
   ·rw [he] at c7
    by_cases hfk : fuel <= k
    ·have hge : (fuel : Int) <= k := by omega
     have hgk : gk = 0 := by omega
     subst hgk;have hb7 := hbr.setCell (p := ⟨X.rp, 7, none⟩) hV.size_.1 (.int .i64 3);have hV7 := hV.setF (R' := { R' with endK := 3 }) 7 (.int .i64 3) rfl ⟨rfl, rfl, rfl, rfl, rfl⟩
     have h7 : RunAt (wr.setCell ⟨X.rp, 7, none⟩ (.int .i64 3)) T X { R' with endK := 3 } [] := ⟨hR.le, hR.gs.below (((Below.refl T wr).setCell (p := ⟨X.rp, 7, none⟩) hV.size_.1 (.int .i64 3)).mono hR.le), _, hV7⟩
     have hu3 : U = { R' with endK := 3 } := by rw [<- hu]; unfold RunD.go; rw [if_pos he]
     rw [HXr.out] at h7 hb7;obtain ⟨HR, Hbr, Hl, Hu, HV, Hb7, HV7, H7⟩ := hd8 hR hbr hl hu hV hb7 hV7 h7;have Hu3 := Lib.hid hu3;clear hu3 h7 hV7 hb7 hV hu hl hbr hR;go_wp2_with fail;go_ret;refine ⟨by rw [HT.out]; exact Hb7.out, X, HXg.out, by rw [HXr.out]; rfl, by rw [HT.out, HU.out, Hu3.out]; exact H7.out⟩
    ·have hge : ¬ (fuel : Int) <= k := by omega
     obtain ⟨n, hn⟩ : ∃ n, gk = n + 1 := ⟨gk - 1, by omega⟩
     subst hn;have hcall := step_lp (X := X) (k := k) (by rw [HXg.out]; exact Hg.out) hR (by rw [HXg.out]; exact hl) he (by omega);rw [HXr.out, HXg.out] at hcall;have hl2 := hl.step Hg.out Hi.out he (by omega);have hu2 : (R'.step gs).go gs n = U := go_one he hu;obtain ⟨HR, Hbr, Hl, Hu, HV, Hcall, Hl2, Hu2⟩ := hd8 hR hbr hl hu hV hcall hl2 hu2;clear hu2 hl2 hcall hV hu hl hbr hR;go_wp2_with fail;refine Hcall.out.mono ?_;rintro e w3 ⟨rfl, h3, hb3⟩;have hb4 := Hbr.out.trans hb3;obtain ⟨H3, Hb3, Hb4⟩ := hd3 h3 hb3 hb4;clear hb4 hb3 h3;go_wp2_with fail
     go_roundg n
     case measure => omega
     case rel => exact Lib.hid ⟨k + 1, _, by omega, H3.out, Hb4.out, Hl2.out, Hu2.out⟩
   ·have hu4 : R' = U := by rw [<- hu]; cases gk <;> (unfold RunD.go; rw [if_neg he])
    obtain ⟨ek, hek⟩ := mn (R'.endK);rw [hek] at c7 he;obtain ⟨HR, Hbr, Hl, Hu, HV, Hu4, Hek⟩ := hd7 hR hbr hl hu hV hu4 hek;clear hek hu4 hV hu hl hbr hR;go_wp2_with fail;go_ret;refine ⟨by rw [HT.out]; exact Hbr.out, X, HXg.out, by rw [HXr.out]; rfl, by rw [HT.out, HU.out, <- Hu4.out]; exact HR.out⟩
end
end Go.Proofs.Ytncpehhfjkncoaa
namespace Go.Proofs.Ytncpehhfjkncoaa
open Go.RowKit

theorem fieldsEvent : (Try.prog.fieldsOf 62).toList.map (fun f => (f.type, f.offset)) = [(60, 0), (34, 1)] := by kernel_rfl
theorem fieldsEnd : (Try.prog.fieldsOf 36).toList.map (fun f => (f.type, f.offset)) = [(33, 0), (34, 1)] := by kernel_rfl
theorem eqFields_same {w : World} {k1 k2 j1 j2 : IntKind} {a b : Int} {t1 t2 : TypeId} (h1 : Try.prog.underlying t1 = some (.int j1)) (h2 : Try.prog.underlying t2 = some (.int j2)) (hp1 : Try.prog.plainKey t1 = true) (hp2 : Try.prog.plainKey t2 = true) (d : Nat) {l : List Field} (h : l.map (fun f => (f.type, f.offset)) = [(t1, 0), (t2, 1)]) :
  (Op.eqFields (d + 1) #[.int k1 a, .int k2 b] #[.int k1 a, .int k2 b] l).run Try.prog w = .ok true w := by
 obtain ⟨f, g, rfl⟩ : ∃ f g, l = [f, g] := by
  rcases l with _ | ⟨f, _ | ⟨g, _ | ⟨x, r⟩⟩⟩
  ·simp at h
  ·simp at h
  ·exact ⟨f, g, rfl⟩
  ·simp at h
 obtain ⟨f1, f2, f3, f4, f5, f6, f7⟩ := f;obtain ⟨g1, g2, g3, g4, g5, g6, g7⟩ := g;simp only [List.map_cons, List.map_nil, List.cons.injEq, Prod.mk.injEq, and_true] at h;obtain ⟨⟨rfl, rfl⟩, rfl, rfl⟩ := h;have p1 : (part f2 #[.int k1 a, .int k2 b] 0).run Try.prog w = .ok (.int k1 a) w := run_part_plain _ hp1 rfl;have p2 : (part g2 #[.int k1 a, .int k2 b] 1).run Try.prog w = .ok (.int k2 b) w := run_part_plain _ hp2 rfl;have q1 := run_equalIn_int (P := Try.prog) w d f2 k1 j1 a a h1;have q2 := run_equalIn_int (P := Try.prog) w d g2 k2 j2 b b h2;unfold Op.eqFields;dsimp only;unfold Op.eqFields;dsimp only;unfold Op.eqFields
 by_cases e1 : f1 = "_" <;> by_cases e2 : g1 = "_" <;> simp [e1, e2, p1, p2, q1, q2]
theorem eqIn_event (a b : Int) (w : World) : (Op.equalIn 10000 62 (.agg #[.int .i64 a, .int .u64 b]) (.agg #[.int .i64 a, .int .u64 b])).run Try.prog w = .ok true w := by
 rw [show (10000 : Nat) = 9998 + 1 + 1 from rfl, run_equalIn_agg w _ _ _ _ (by kernel_rfl) (by kernel_rfl)];exact eqFields_same (j1 := .i64) (j2 := .u64) (by kernel_rfl) (by kernel_rfl) (by kernel_rfl) (by kernel_rfl) _ fieldsEvent
theorem eqIn_end (a b : Int) (w : World) : (Op.equalIn 10000 36 (.agg #[.int .i64 a, .int .u64 b]) (.agg #[.int .i64 a, .int .u64 b])).run Try.prog w = .ok true w := by
 rw [show (10000 : Nat) = 9998 + 1 + 1 from rfl, run_equalIn_agg w _ _ _ _ (by kernel_rfl) (by kernel_rfl)];exact eqFields_same (j1 := .i64) (j2 := .u64) (by kernel_rfl) (by kernel_rfl) (by kernel_rfl) (by kernel_rfl) _ fieldsEnd
theorem neq_event (a b : Int) (w : World) : (binOp .neq 62 (.agg #[.int .i64 a, .int .u64 b]) (.agg #[.int .i64 a, .int .u64 b])).run Try.prog w = .ok (.bool false) w := by
 rw [run_neq_struct, eqIn_event]; rfl
theorem eql_end (a b : Int) (w : World) : (binOp .eql 36 (.agg #[.int .i64 a, .int .u64 b]) (.agg #[.int .i64 a, .int .u64 b])).run Try.prog w = .ok (.bool true) w := by
 rw [run_eql_struct, eqIn_end]; rfl
theorem evCells_get : ∀ (l : List (Int × Int)) (k : Nat) (p : Int × Int), l[k]? = some p -> (evCells l)[k * 2]? = some (.int .i64 p.1) /\ (evCells l)[k * 2 + 1]? = some (.int .u64 p.2)
 | [], k, p, h => by simp at h
 | x :: l, 0, p, h => by
  simp only [List.getElem?_cons_zero, Option.some.injEq] at h;subst h; exact ⟨rfl, rfl⟩
 | x :: l, k + 1, p, h => by
  simp only [List.getElem?_cons_succ] at h;obtain ⟨h1, h2⟩ := evCells_get l k p h
  have e1 : (k + 1) * 2 = k * 2 + 1 + 1 := by omega
  rw [e1];exact ⟨h1, h2⟩
theorem ev_read {w : World} {B n : Nat} {A : Option Addr} {xs : List (Int × Int)} (h : Reads w B 2 A n (evCells xs)) {k : Nat} {p : Int × Int} (hp : xs[k]? = some p) (hk : k < n) :
  ∃ ad : Addr, A = some ad /\ w.cell? (ad.add (k * 2)) = some (.int .i64 p.1) /\ w.cell? ⟨(ad.add (k * 2)).block, (ad.add (k * 2)).off + 1, none⟩ = some (.int .u64 p.2) := by
 obtain ⟨ad, e, _, hc⟩ := h.2 (by omega);obtain ⟨q1, q2⟩ := evCells_get xs k p hp;exact ⟨ad, e, hc _ _ q1, by have := hc _ _ q2; rwa [<- addr_sub ad (k * 2) 1 (by omega)] at this⟩
theorem begins_any {w : World} {B n1 c1 n2 c2 : Nat} {A1 A2 : Option Addr} {xs ys l : List (Int × Int)} (h1 : Reads w B 2 A1 n1 (evCells xs)) (h2 : Reads w B 2 A2 n2 (evCells ys)) (hl1 : xs.length = n1) (hl2 : ys.length = n2) (m1 : n1 <= maxLen) (m2 : n2 <= maxLen) (he : ys = xs ++ l) :
  Calls Try.prog 9 #[.slice A1 n1 c1, .slice A2 n2 c2] w fun e w' => e = .returned (.bool true) /\ ∃ d, w' = w.drewN d := by
 have hle : n1 <= n2 := by rw [<- hl1, <- hl2, he, List.length_append]; omega
 have hle' : ¬ (n1 : Int) > n2 := by omega
 unfold maxLen at m1 m2;have hneq := neq_event;obtain ⟨H1, H2, Hl1, Hl2, He⟩ := hd5 h1 h2 hl1 hl2 he;clear he hl2 hl1 h2 h1;go_enter Try.func9, Try.ntmps9;go_wp2_with fail
 go_loopw [13] (fun i wq => ∃ k : Nat, k <= n1 /\ i = .int .i64 k /\ ∃ d, wq = w.drewN d) (fun i _ => n1 - (intOf i).toNat)
 case atStart => exact ⟨0, by omega, rfl, 0, rfl⟩
 case round =>
  obtain ⟨k, hk, rfl, d, hwr⟩ := hrel;subst hwr
  by_cases hlt : k < n1
  ·have hkI : (k : Int) < n1 := by omega
   obtain ⟨p, hp⟩ : ∃ p, xs[k]? = some p := ⟨_, List.getElem?_eq_getElem (by have := Hl1.out; omega)⟩
   have hp2 : ys[k]? = some p := by rw [He.out, List.getElem?_append_left (by have := Hl1.out; omega)]; exact hp
   obtain ⟨a, b⟩ := p;obtain ⟨ad, rfl, a0, a1⟩ := ev_read H1.out hp hlt;obtain ⟨bd, rfl, b0, b1⟩ := ev_read H2.out hp2 (by omega)
   have hkI2 : (k : Int) < n2 := by omega
   replace a0 : (w.drewN d).cell? (ad.add (k * 2)) = some (.int .i64 a) := a0
   replace a1 : (w.drewN d).cell? ⟨(ad.add (k * 2)).block, (ad.add (k * 2)).off + 1, none⟩ = some (.int .u64 b) := a1
   replace b0 : (w.drewN d).cell? (bd.add (k * 2)) = some (.int .i64 a) := b0
   replace b1 : (w.drewN d).cell? ⟨(bd.add (k * 2)).block, (bd.add (k * 2)).off + 1, none⟩ = some (.int .u64 b) := b1
   obtain ⟨Hp, Hp2⟩ := hd2 hp hp2;clear hp2 hp;go_upto_region 6 with fail;refine wp_region_noPanic ?_;refine wp_region_held_drew (S := fun W => (W.cell? (ad.add (k * 2)) = some (.int .i64 a) /\ W.cell? ⟨(ad.add (k * 2)).block, (ad.add (k * 2)).off + 1, none⟩ = some (.int .u64 b)) /\ W.cell? (bd.add (k * 2)) = some (.int .i64 a) /\ W.cell? ⟨(bd.add (k * 2)).block, (bd.add (k * 2)).off + 1, none⟩ = some (.int .u64 b)) (by kernel_rfl) ⟨⟨a0, a1⟩, b0, b1⟩ (fun hHeld => ?_);refine wpAnyH_tk 0 ?_;refine wpAnyH_tk 1 ?_;refine wpAnyH_tk 2 ?_;refine wpAnyH_tk 3 ?_;refine wpAnyH_tk 4 ?_;refine wpAnyH_tk 5 ?_;refine wpAnyH_tk 6 ?_;refine wpAnyH_tk 7 ?_;refine wpAnyH_tk 8 ?_;refine wpAnyH_done (by kernel_rfl) ?_ _;refine NoPanic.normal ?_;go_wp2_with fail;exact ⟨⟨k + 1, by omega, by go_num, _, rfl⟩, by simp [intOf]; omega⟩
  ·have hk16 : k = n1 := by omega
   subst hk16;go_wp2_with fail;go_ret;exact ⟨rfl, d, rfl⟩
theorem evsame_any {w : World} {B n1 c1 n2 c2 : Nat} {A1 A2 : Option Addr} {xs ys : List (Int × Int)} (h1 : Reads w B 2 A1 n1 (evCells xs)) (h2 : Reads w B 2 A2 n2 (evCells ys)) (hl1 : xs.length = n1) (hl2 : ys.length = n2) (m1 : n1 <= maxLen) (he : ys = xs) :
  Calls Try.prog 8 #[.slice A1 n1 c1, .slice A2 n2 c2] w fun e w' => e = .returned (.bool true) /\ ∃ d, w' = w.drewN d := by
 obtain rfl : n1 = n2 := by rw [<- hl1, <- hl2, he]
 have hb := begins_any (c1 := c1) (c2 := c2) (l := []) h1 h2 hl1 hl2 m1 m1 (by rw [he, List.append_nil]);unfold maxLen at m1;obtain ⟨H1, H2, Hl1, Hl2, He, Hb⟩ := hd6 h1 h2 hl1 hl2 he hb;clear hb he hl2 hl1 h2 h1;go_enter Try.func8, Try.ntmps8;go_wp2_with fail;go_wp2_with fail;refine (Hb.out).mono ?_;rintro e w2 ⟨rfl, d, rfl⟩;go_wp2_with fail;go_ret;exact ⟨rfl, d, rfl⟩
end Go.Proofs.Ytncpehhfjkncoaa
namespace Go.Proofs.Ytncpehhfjkncoaa
open Go.RowKit
section
variable {gs : List GraphD}
theorem linErr_zero (h : linErr gs = 0) : checkB gs true = true /\ linOver gs = false := by
 unfold linErr at h
 by_cases hc : checkB gs true = true
 ·rw [if_pos hc] at h
  by_cases ho : linOver gs = true
  ·rw [if_pos ho] at h; omega
  ·exact ⟨hc, by simpa using ho⟩
 ·rw [if_neg hc] at h; omega
theorem check_first {b : Bool} (h : checkB gs b = true) : ∃ g0, gs[0]? = some g0 /\ g0.params.length = 0 := by
 unfold checkB at h
 rcases hg0 : gs[0]? with _ | g0
 ·rw [hg0] at h; simp at h
 ·rw [hg0] at h;simp only [Bool.and_eq_true, decide_eq_true_eq] at h;exact ⟨g0, rfl, h.1.1.1.2⟩
theorem line_small (h : checkB gs true = true) (hs : GsSmall gs) (ho : linOver gs = false) : GsSmall (gs.map lineG) := by
 refine ⟨fun g' hg' => ?_, by rw [List.length_map]; exact hs.len⟩;obtain ⟨g, hg, rfl⟩ := List.mem_map.1 hg';obtain ⟨s1, s2, s3, s4, s5⟩ := hs.each g hg;obtain ⟨hns, he⟩ := lin_ok h hs hg
 have hov : (lineG g).nodes.length <= 4096 := by
  unfold linOver at ho;rw [List.any_eq_false] at ho;have := ho g hg
  simpa using this
 refine ⟨s1, s2, s3, by omega, fun x hx => ?_⟩
 rcases line_node hns he hx with ⟨n, hn, a, b, rfl⟩ | ⟨a, b, rfl⟩
 ·exact s5 n hn
 ·show 0 * 8 <= _; omega
theorem line_imm (h : checkB gs true = true) (hs : GsSmall gs) (hi : ImmU gs) : ImmU (gs.map lineG) := by
 intro g' hg' x hx;obtain ⟨g, hg, rfl⟩ := List.mem_map.1 hg';obtain ⟨hns, he⟩ := lin_ok h hs hg
 rcases line_node hns he hx with ⟨n, hn, a, b, rfl⟩ | ⟨a, b, rfl⟩
 ·exact hi g hg n hn
 ·show U64 0;unfold U64; omega
end
/-- graphs that may be run -/
structure RunsG (gs : List GraphD) : Prop where
 gw : GsW gs
 imm : ImmU gs
 fst : ∃ g0, gs[0]? = some g0 /\ g0.params.length = 0
theorem runsG {gs : List GraphD} (h : checkB gs true = true) (hs : GsSmall gs) (hi : ImmU gs) : RunsG gs := ⟨gsw_ok h hs, hi, check_first h⟩
theorem runsL {gs : List GraphD} (h : checkB gs true = true) (hs : GsSmall gs) (hi : ImmU gs) (ho : linOver gs = false) : RunsG (gs.map lineG) :=
 ⟨gsw_ok (line_check h hs ho) (line_small h hs ho), line_imm h hs hi, check_first (line_check h hs ho)⟩
section
variable {w w' : World} {base : Nat} {X : RunX} {R : RunD}
/-- what the law reads of a run -/
structure RunSee (w : World) (B rp : Nat) (R : RunD) : Prop where
 lt : rp < B
 k6 : ∃ A c, w.cell? ⟨rp, 6, none⟩ = some (.slice A R.events.length c) /\ R.events.length <= maxLen /\ Reads w B 2 A R.events.length (evCells R.events)
 k7 : w.cell? ⟨rp, 7, none⟩ = some (.int .i64 R.endK)
 k8 : w.cell? ⟨rp, 8, none⟩ = some (.int .u64 R.endV)
theorem RunAt.see (h : RunAt w base X R []) : RunSee w w.heap.size X.rp R := by
 obtain ⟨V, hV⟩ := h.run;have hb := hV.blk;have he := hV.evs;obtain ⟨A, c, hv, hn, hc, hr⟩ := own_any he;refine ⟨hb.lt, ⟨A, c, ?_, by omega, hr⟩, hb.cell 7, hb.cell 8⟩;have := hb.cell 6;rw [<- hv];exact this
theorem RunSee.below {B rp : Nat} (h : RunSee w B rp R) (hb : Below B w w') : RunSee w' B rp R := by
 obtain ⟨lt, ⟨A, c, k6, m6, r6⟩, k7, k8⟩ := h;exact ⟨lt, ⟨A, c, (hb.cell (p := ⟨rp, 6, none⟩) lt).trans k6, m6, r6.below hb⟩, (hb.cell (p := ⟨rp, 7, none⟩) lt).trans k7, (hb.cell (p := ⟨rp, 8, none⟩) lt).trans k8⟩
theorem RunSee.more {B B' rp : Nat} (h : RunSee w B rp R) (hB : B <= B') : RunSee w B' rp R := by
 obtain ⟨lt, ⟨A, c, k6, m6, r6⟩, k7, k8⟩ := h;exact ⟨by omega, ⟨A, c, k6, m6, r6.more hB⟩, k7, k8⟩
end
end Go.Proofs.Ytncpehhfjkncoaa
namespace Go.Proofs.Ytncpehhfjkncoaa

def ndR (a : Int) : NodeD := ⟨12, 0, 0, 0, a, 0, 0, 0, 0, [], 0, 0⟩
def chain (k : Nat) : List NodeD := (List.range k).map fun i => nopD (i + 1)
def ringN (k : Nat) (ring : Bool) : List NodeD := (if ring then (chain k).set (k - 1) (nopD 0) else chain k) ++ [ndR (-1)]
def ringG (k e : Nat) (ring : Bool) : GraphD := ⟨[], List.replicate 16 0, 0, [], false, -1, ringN k ring, e⟩
section
variable {k e : Nat} {ring : Bool}
end
def grF : GraphD := ⟨[], List.replicate 16 0, 0, [], false, -1, [nopD 2, ndR (-1), nopD 1], 0⟩
theorem lineF : lineG grF = ⟨[], List.replicate 16 0, 0, [], false, -1, [ndR (-1)], 0⟩ := by rfl
theorem errF : linErr [grF] = 0 := by decide
theorem checkF : checkB [(⟨[], List.replicate 16 0, 0, [], false, -1, [ndR (-1)], 0⟩ : GraphD)] true = true := by decide
end Go.Proofs.Ytncpehhfjkncoaa
