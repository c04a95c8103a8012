/- The law LinearRings, walked: it answers true. No condition. -/
import Derived.Test.YtncpehhfjkncoaaLinFirst
set_option linter.unusedVariables false
set_option linter.unusedSimpArgs false
namespace Go.Proofs.Ytncpehhfjkncoaa
open Go.RowKit

theorem mod_word (a : Int) (m : Int) (h0 : 0 < m) (h1 : m < 1000000) : ∃ k : Nat, (k : Int) < m ∧ IntKind.i64.wrap ((IntKind.u64.wrap a).tmod m) = (k : Int) := by
  have h2 : 0 ≤ IntKind.u64.wrap a := by rw [IntKind.wrap_u64]; omega
  have h3 := Int.emod_nonneg (IntKind.u64.wrap a) (show m ≠ 0 by omega)
  have h4 := Int.emod_lt_of_pos (IntKind.u64.wrap a) (show 0 < m by omega)
  refine ⟨((IntKind.u64.wrap a) % m).toNat, by omega, ?_⟩
  rw [Int.tmod_eq_emod_of_nonneg h2, IntKind.wrap_i64]
  omega
theorem NodesOwn.snoc {w : World} {base : Nat} {v : Value} {l : List NodeD} {x : NodeD} {av : Value} {css : List (List Value)} (h1 : css.length = l.length) (h3 : ∀ (k : Nat) x, l[k]? = some x → ∃ av, css[k]? = some (ncells x av) ∧ IntsOwn w base av x.args)
    (ho : w.ownsRow base 52 12 v (l.length + 1) (css.flatten ++ ncells x av)) (ha : IntsOwn w base av x.args) : NodesOwn w base v (l ++ [x]) := by
  refine ⟨css ++ [ncells x av], by simp [h1], by simpa using ho, fun k y hy => ?_⟩
  rcases Nat.lt_or_ge k l.length with hk | hk
  · rw [List.getElem?_append_left hk] at hy
    obtain ⟨av', q1, q2⟩ := h3 k y hy
    exact ⟨av', by rw [List.getElem?_append_left (by omega)]; exact q1, q2⟩
  · rw [List.getElem?_append_right hk] at hy
    have h0 : k - l.length = 0 := by
      have := (List.getElem?_eq_some_iff.1 hy).1
      simp at this; omega
    rw [h0] at hy
    simp only [List.getElem?_cons_zero, Option.some.injEq] at hy
    subst hy
    exact ⟨av, by rw [List.getElem?_append_right (by omega), h1, h0]; rfl, ha⟩
theorem chain_snoc (j : Nat) : chain (j + 1) = chain j ++ [nopD (j + 1)] := by
  unfold chain
  rw [List.range_succ, List.map_append]; rfl
set_option maxRecDepth 100000 in
set_option maxHeartbeats 8000000 in
theorem walk_LinearRings (w : World) (a0 : Int) (w0 : (Lit.int .i64 a0).wf = true) (a1 : Int) (w1 : (Lit.int .i64 a1).wf = true) (a2 : Bool) :
    Calls Try.prog 4 #[.int .i64 a0, .int .i64 a1, .bool a2] w fun e w' => e = .returned (.bool true) ∧ Below w.heap.size w w' := by
  have hmk : ∀ W : World, (Instr.makeSlice 44 (.int .i64 16) (.int .i64 16)).run Try.prog W = .ok (.slice (some ⟨W.heap.size, 0, none⟩) 16 16) (W.alloc (.cells (kzero 16) 79)) := make_kinds 16 (by omega)
  obtain ⟨k0, hk0, hkq⟩ := mod_word a0 200 (by omega) (by omega)
  obtain ⟨K, hK⟩ : ∃ K : Nat, K = k0 + 1 := ⟨_, rfl⟩
  have hK1 : 1 ≤ K := by omega
  have hK2 : K ≤ 200 := by omega
  have hKw : IntKind.i64.wrap (1 + (k0 : Int)) = (K : Int) := by rw [IntKind.wrap_i64]; omega
  have hfirst := first_any w
  obtain ⟨iN, hiN, nz0, nz1, nz2⟩ := info_parts infoNode
  have HK := Lib.hid hK
  have Hfirst := Lib.hid hfirst
  clear hfirst hK
  clear w0
  go_enter Try.func4, Try.ntmps4
  go_wp2_with fail
  refine Hfirst.out.mono ?_
  rintro e w2 ⟨rfl, hb2⟩
  have hsz2 := hb2.size
  obtain ⟨KB, hKB⟩ : ∃ KB, KB = w2.heap.size := ⟨_, rfl⟩
  obtain ⟨F, hF⟩ : ∃ F, F = w2.heap.size + 1 := ⟨_, rfl⟩
  obtain ⟨w4, hw4⟩ : ∃ w4, w4 = (w2.alloc (.cells (kzero 16) 79)).alloc (.cells #[.slice none 0 0, .slice (some ⟨KB, 0, none⟩) 16 16, .int .i64 0, .slice none 0 0, .bool false, .int .i64 (-1), .slice none 0 0, .int .i64 0] 48) := ⟨_, rfl⟩
  have hK4 : Blk w4 KB 79 (kzero 16) := by rw [hw4, hKB]; exact (Blk.new w2 _ _).alloc _
  have hF4 : Blk w4 F 48 #[.slice none 0 0, .slice (some ⟨KB, 0, none⟩) 16 16, .int .i64 0, .slice none 0 0, .bool false, .int .i64 (-1), .slice none 0 0, .int .i64 0] := by rw [hw4, hF]; exact Blk.new2 w2 _ _ _
  have hb4 : Below w.heap.size w w4 := by rw [hw4]; exact (hb2.alloc hsz2 _).alloc (by simp; omega) _
  have hFw : w.heap.size ≤ F := by omega
  have hKF : KB ≠ F := by omega
  have Hb2 := Lib.hid hb2
  have HK4 := Lib.hid hK4
  have HF4 := Lib.hid hF4
  have Hb4 := Lib.hid hb4
  clear hb4 hF4 hK4 hb2
  go_upto_region 5 with fail
  rw [← hF, ← hKB, ← hw4]
  have HF := Lib.hid hF
  have HKB := Lib.hid hKB
  have Hw4 := Lib.hid hw4
  clear hw4 hKB hF
  go_wp2_with fail
  go_loopg [23] K (fun gk iv wr => ∃ (j : Nat) (nv : Value), j + gk = K ∧ iv = .int .i64 j ∧ Hid (NodesOwn wr w.heap.size nv (chain j)) ∧ Hid (Blk wr KB 79 (kzero 16)) ∧ Hid (Blk wr F 48 #[.slice none 0 0, .slice (some ⟨KB, 0, none⟩) 16 16, .int .i64 0, .slice none 0 0, .bool false, .int .i64 (-1), nv, .int .i64 0]) ∧ Hid (Below w.heap.size w wr))
  case atStart => exact ⟨0, _, by omega, rfl, Lib.hid ⟨[], rfl, World.ownsRow_nil _ _ _ _, by intro k x h; simp [chain] at h⟩, HK4, HF4, Hb4⟩
  case round =>
    obtain ⟨j, nv, hj, rfl, hNj, hKj, hFj, hbj⟩ := hrel
    obtain ⟨css, hcl, hown, hcs⟩ := hNj.out
    rw [chain_len] at hcl hown
    have hFj' := hFj.out
    obtain ⟨NA, nc, rfl, hnc1, hnc2, _⟩ := own_any hown
    have hnF : (Value.slice NA j nc).ownBlock ≠ some F := own_blk_ne hown hFj' (by decide)
    have hnK : (Value.slice NA j nc).ownBlock ≠ some KB := own_blk_ne hown hKj.out (by decide)
    have hszj := hbj.out.size
    have kf6 := Blk.cell hFj' 6
    simp only [List.getElem?_toArray, List.getElem?_cons_zero, List.getElem?_cons_succ] at kf6
    by_cases hjK : j < K
    · have Hcl := Lib.hid hcl
      have Hown := Lib.hid hown
      have Hcs := Lib.hid hcs
      have HFj' := Lib.hid hFj'
      clear hFj' hcs hown hcl
      go_wp2_with (first
        | (at_builtin
           refine wpList_append_any _ rfl (.tmp 27) (.tmp 31) _ rfl w.heap.size 52 iN _ 12 104 Try.underlying46 hiN nz0 nz1 nz2 rfl (by omega) (.slice NA j nc) j css.flatten rfl (Hown.out.alloc _) (wr.heap.size + 1) (some ⟨wr.heap.size, 0, none⟩) 1 1 (ncells (nopD (j + 1)) (.slice none 0 0)) rfl (Reads.newS _ rfl _ _ _ _ _ rfl rfl) ?c1 ?c2 ?c3 ?c4 ?_
           case c1 => intro u hu; simp only [ncells, List.mem_cons, List.not_mem_nil, or_false] at hu; rcases hu with rfl | rfl | rfl | rfl | rfl | rfl | rfl | rfl | rfl | rfl | rfl | rfl <;> rfl
           case c2 => simp only [maxLen]; omega
           case c3 => omega
           case c4 => simp; omega
           intro v6 w6 hown6 hg6 hat6
           obtain ⟨A6, x6, rfl, _⟩ := own_any hown6
           have hF6 := (HFj'.out.alloc _).grown hg6 (Ne.symm hnF)
           have k66 := Blk.cell hF6 6
           have f66 := Blk.frozen hF6 6
           simp only [List.getElem?_toArray, List.getElem?_cons_zero, List.getElem?_cons_succ] at k66
           have Hown6 := Lib.hid hown6
           have Hg6 := Lib.hid hg6
           have HF6 := Lib.hid hF6
           clear hF6 hat6 hg6 hown6))
      have hg' : wr.grownBy w6 (Value.slice NA j nc).ownBlock := (World.grownBy_alloc wr _ _).trans Hg6.out
      have hK6 := (hKj.out.grown hg' (Ne.symm hnK)).far (p := ⟨F, 6, none⟩) hKF (.slice A6 (j + 1) x6)
      have hF9 := HF6.out.set_ 6 (.slice A6 (j + 1) x6)
      simp only [List.setIfInBounds_toArray, List.set_cons_zero, List.set_cons_succ] at hF9
      have hb6 := (hbj.out.grown hg' hszj (fun k e => (Hown.out.lt k e).1)).setCell (p := ⟨F, 6, none⟩) hFw (.slice A6 (j + 1) x6)
      have hfar : Other wr 3 (Value.slice NA j nc).ownBlock := Other.own Hown.out (by decide)
      have hfF : Far w6 (some F) := Far.blk HF6.out (by decide) (by decide) (by decide)
      have hN6 : NodesOwn w6 w.heap.size (.slice A6 (j + 1) x6) (chain (j + 1)) := by
        rw [chain_snoc]
        refine NodesOwn.snoc (css := css) (av := .slice none 0 0) (by rw [Hcl.out, chain_len]) (fun k x hx => ?_) (by rw [chain_len]; exact Hown6.out) (World.ownsRow_nil _ _ _ _)
        obtain ⟨av, q1, q2⟩ := Hcs.out k x hx
        exact ⟨av, q1, hfar.own_keep q2 hg'⟩
      have hN9 := hN6.kept (grown_setCell w6 ⟨F, 6, none⟩ (.slice A6 (j + 1) x6)) hfF
      go_roundg (gk - 1)
      case measure => omega
      case rel => exact ⟨j + 1, _, by omega, by simp, Lib.hid hN9, Lib.hid hK6, Lib.hid hF9, Lib.hid hb6⟩
    · obtain rfl : j = K := by omega
      clear hjK
      obtain ⟨e, he, heq⟩ : ∃ e : Nat, (e : Int) < j ∧ IntKind.i64.wrap ((IntKind.u64.wrap a1).tmod (j : Int)) = (e : Int) := mod_word a1 j (by omega) (by omega)
      obtain ⟨m, hm⟩ : ∃ m, m + 1 = j := ⟨j - 1, by omega⟩
      have hjm : (j : Int) - 1 = (m : Int) := by omega
      have hmj : m < j := by omega
      have hju : IntKind.u64.wrap (j : Int) = (j : Int) := by rw [IntKind.wrap_u64]; omega
      have hj0 : ((j : Int) == 0) = false := by simp; omega
      have hj00 : ¬ (j : Int) = 0 := by omega
      have hm0 : (0 : Int) ≤ m := by omega
      have Hcl := Lib.hid hcl
      have Hown := Lib.hid hown
      have Hcs := Lib.hid hcs
      have HFj' := Lib.hid hFj'
      have Hm := Lib.hid hm
      clear hm hFj' hcs hown hcl
      go_upto_region 12 with (first
        | (at_builtin
           refine wpList_append_any _ rfl (.tmp 36) (.tmp 38) _ rfl w.heap.size 52 iN _ 12 104 Try.underlying46 hiN nz0 nz1 nz2 rfl (by omega) (.slice NA j nc) j css.flatten rfl (Hown.out.alloc _) (wr.heap.size + 1) (some ⟨wr.heap.size, 0, none⟩) 1 1 (ncells (ndR (-1)) (.slice none 0 0)) rfl (Reads.newS _ rfl _ _ _ _ _ rfl rfl) ?c1 ?c2 ?c3 ?c4 ?_
           case c1 => intro u hu; simp only [ncells, List.mem_cons, List.not_mem_nil, or_false] at hu; rcases hu with rfl | rfl | rfl | rfl | rfl | rfl | rfl | rfl | rfl | rfl | rfl | rfl <;> rfl
           case c2 => simp only [maxLen]; omega
           case c3 => omega
           case c4 => simp; omega
           intro v6 w6 hown6 hg6 hat6
           obtain ⟨A6, x6, rfl, hA6b, hA6l, _⟩ := own_form hown6 (by omega)
           have hF6 := (HFj'.out.alloc _).grown hg6 (Ne.symm hnF)
           have k66 := Blk.cell hF6 6
           have f66 := Blk.frozen hF6 6
           have k67 := Blk.cell hF6 7
           have f67 := Blk.frozen hF6 7
           simp only [List.getElem?_toArray, List.getElem?_cons_zero, List.getElem?_cons_succ] at k66 k67
           have Hown6 := Lib.hid hown6
           have Hg6 := Lib.hid hg6
           have HF6 := Lib.hid hF6
           clear hF6 hat6 hg6 hown6))
      have hg' : wr.grownBy w6 (Value.slice NA j nc).ownBlock := (World.grownBy_alloc wr _ _).trans Hg6.out
      have hK6 := hKj.out.grown hg' (Ne.symm hnK)
      have hb6 := hbj.out.grown hg' hszj (fun k e => (Hown.out.lt k e).1)
      have hfar : Other wr 3 (Value.slice NA j nc).ownBlock := Other.own Hown.out (by decide)
      have hfF : Far w6 (some F) := Far.blk HF6.out (by decide) (by decide) (by decide)
      have hN6 : NodesOwn w6 w.heap.size (.slice (some ⟨A6, 0, none⟩) (j + 1) x6) (chain j ++ [ndR (-1)]) := by
        refine NodesOwn.snoc (css := css) (av := .slice none 0 0) (by rw [Hcl.out, chain_len]) (fun k x hx => ?_) (by rw [chain_len]; exact Hown6.out) (World.ownsRow_nil _ _ _ _)
        obtain ⟨av, q1, q2⟩ := Hcs.out k x hx
        exact ⟨av, q1, hfar.own_keep q2 hg'⟩
      have hF7 := HF6.out.set_ 6 (.slice (some ⟨A6, 0, none⟩) (j + 1) x6)
      simp only [List.setIfInBounds_toArray, List.set_cons_zero, List.set_cons_succ] at hF7
      have hF8 := hF7.set_ 7 (.int .i64 e)
      simp only [List.setIfInBounds_toArray, List.set_cons_zero, List.set_cons_succ] at hF8
      have hg8 : w6.grownBy ((w6.setCell ⟨F, 6, none⟩ (.slice (some ⟨A6, 0, none⟩) (j + 1) x6)).setCell ⟨F, 7, none⟩ (.int .i64 e)) (some F) := only_setCell (p := ⟨F, 7, none⟩) (grown_setCell w6 ⟨F, 6, none⟩ _) (.inl rfl) _
      have hN8 := hN6.kept hg8 hfF
      have hK8 := hK6.grown hg8 (fun e => hKF (Option.some.inj e))
      have hb8 := hb6.grown hg8 (by have := hb6.size; omega) (fun k e => by injection e with e; omega)
      obtain ⟨w8, hw8⟩ : ∃ w8, w8 = (w6.setCell ⟨F, 6, none⟩ (.slice (some ⟨A6, 0, none⟩) (j + 1) x6)).setCell ⟨F, 7, none⟩ (.int .i64 e) := ⟨_, rfl⟩
      rw [← hw8]
      rw [← hw8] at hF8 hg8 hN8 hK8 hb8
      clear k66 f66 k67 f67 kf6
      have hrf : chain j ++ [ndR (-1)] = ringN j false := by simp [ringN]
      rw [hrf] at hN8
      have hmg : (ringN j false)[m]? = some (nopD (m + 1)) := by
        rw [ringN_at hmj, if_neg (fun h => by cases h.1)]
      have hrt : (ringN j false).set m (nopD 0) = ringN j true := by
        have := Hm.out
        unfold ringN
        simp only [if_true, Bool.false_eq_true, if_false]
        rw [List.set_append_left _ _ (by rw [chain_len]; exact hmj), show j - 1 = m by omega]
      obtain ⟨av, cs, hBN, hav, hcell⟩ := hN8.cells hmg
      have c10 := hcell 10 _ rfl
      have f10 := Blk.frozen hBN (m * 12 + 10)
      have hFA : F ≠ A6 := (hF8.ne_ hBN (by decide))
      have hKA : KB ≠ A6 := (hK8.ne_ hBN (by decide))
      have hN9 := hN8.setj (j := 10) (u := .int .i64 0) (y := nopD 0) hmg ringN_len (by omega) (fun _ => rfl) rfl
      rw [hrt] at hN9
      have hF9 := hF8.far (p := ⟨A6, m * 12 + 10, none⟩) hFA (.int .i64 0)
      have hK9 := hK8.far (p := ⟨A6, m * 12 + 10, none⟩) hKA (.int .i64 0)
      have hb9 := hb8.setCell (p := ⟨A6, m * 12 + 10, none⟩) hA6b (.int .i64 0)
      have k86 := Blk.cell hF8 6
      simp only [List.getElem?_toArray, List.getElem?_cons_zero, List.getElem?_cons_succ] at k86
      have HK6 := Lib.hid hK6
      have Hb6 := Lib.hid hb6
      have Hfar := Lib.hid hfar
      have HfF := Lib.hid hfF
      have HN6 := Lib.hid hN6
      have HF7 := Lib.hid hF7
      have HF8 := Lib.hid hF8
      have Hg8 := Lib.hid hg8
      have HN8 := Lib.hid hN8
      have HK8 := Lib.hid hK8
      have Hb8 := Lib.hid hb8
      have Hw8 := Lib.hid hw8
      have Hg' := Lib.hid hg'
      have Hrf := Lib.hid hrf
      have Hmg := Lib.hid hmg
      have Hrt := Lib.hid hrt
      have HBN := Lib.hid hBN
      have Hav := Lib.hid hav
      have Hcell := Lib.hid hcell
      have HN9 := Lib.hid hN9
      have HF9 := Lib.hid hF9
      have HK9 := Lib.hid hK9
      have Hb9 := Lib.hid hb9
      clear hb9 hK9 hF9 hN9 hcell hav hBN hrt hmg hrf hg' hw8 hb8 hK8 hN8 hg8 hF8 hF7 hN6 hfF hfar hb6 hK6
      cases a2
      case' true =>
        go_upto_region 14 with fail
        obtain ⟨w9, hw9⟩ : ∃ w9, w9 = w8.setCell ⟨A6, m * 12 + 10, none⟩ (.int .i64 0) := ⟨_, rfl⟩
        rw [← hw9]
        rw [← hw9] at HN9 HF9 HK9 Hb9
        obtain ⟨br, hbr⟩ : ∃ br, br = true := ⟨_, rfl⟩
        rw [← hbr] at HN9
        obtain ⟨x0, hx0⟩ : ∃ x0, nopD 0 = x0 := ⟨_, rfl⟩
        have hxv : x0 = ⟨10, 0, 0, 0, 0, 0, 0, 0, 0, [], 0, 0⟩ := by rw [← hx0]; rfl
        have hbv : (if br = true then nopD 0 else ndR (-1)) = x0 := by rw [hbr, ← hx0]; rfl
      case' false =>
        go_upto_region 14 with fail
        obtain ⟨w9, hw9⟩ : ∃ w9, w9 = w8 := ⟨_, rfl⟩
        rw [← hw9]
        clear HN9 HF9 HK9 Hb9
        have HN9 := HN8
        have HF9 := HF8
        have HK9 := HK8
        have Hb9 := Hb8
        rw [← hw9] at HN9 HF9 HK9 Hb9
        obtain ⟨br, hbr⟩ : ∃ br, br = false := ⟨_, rfl⟩
        rw [← hbr] at HN9
        obtain ⟨x0, hx0⟩ : ∃ x0, ndR (-1) = x0 := ⟨_, rfl⟩
        have hxv : x0 = ⟨12, 0, 0, 0, -1, 0, 0, 0, 0, [], 0, 0⟩ := by rw [← hx0]; rfl
        have hbv : (if br = true then nopD 0 else ndR (-1)) = x0 := by rw [hbr, ← hx0]; rfl
      all_goals
        have Hw9 := Lib.hid hw9
        have Hbr := Lib.hid hbr
        have Hx0 := Lib.hid hx0
        clear hx0 hbr hw9
        clear c10 f10 k86
        have hF9' := HF9.out
        have kf0 := Blk.cell hF9' 0
        have kf1 := Blk.cell hF9' 1
        have kf2 := Blk.cell hF9' 2
        have kf3 := Blk.cell hF9' 3
        have kf4 := Blk.cell hF9' 4
        have kf5 := Blk.cell hF9' 5
        have kf6 := Blk.cell hF9' 6
        have kf7 := Blk.cell hF9' 7
        simp only [List.getElem?_toArray, List.getElem?_cons_zero, List.getElem?_cons_succ] at kf0 kf1 kf2 kf3 kf4 kf5 kf6 kf7
        have hsz9 := Hb9.out.size
        obtain ⟨R, hR⟩ : ∃ R, R = w9.heap.size := ⟨_, rfl⟩
        obtain ⟨wA, hwA⟩ : ∃ wA, wA = w9.alloc (.cells #[.slice none 0 0, .slice (some ⟨KB, 0, none⟩) 16 16, .int .i64 0, .slice none 0 0, .bool false, .int .i64 (-1), .slice (some ⟨A6, 0, none⟩) (j + 1) x6, .int .i64 e] 48) := ⟨_, rfl⟩
        have hRA : Blk wA R 48 #[.slice none 0 0, .slice (some ⟨KB, 0, none⟩) 16 16, .int .i64 0, .slice none 0 0, .bool false, .int .i64 (-1), .slice (some ⟨A6, 0, none⟩) (j + 1) x6, .int .i64 e] := by rw [hwA, hR]; exact Blk.new _ _ _
        have hKA : Blk wA KB 79 (kzero 16) := by rw [hwA]; exact HK9.out.alloc _
        have hNA : NodesOwn wA w.heap.size (.slice (some ⟨A6, 0, none⟩) (j + 1) x6) (ringN j br) := by rw [hwA]; exact HN9.out.kept (World.grownBy_alloc w9 _ none) (Far.none_ _)
        have hbA : Below w.heap.size w wA := by rw [hwA]; exact Hb9.out.alloc hsz9 _
        have hgs : GraphsAt wA wA.heap.size (.slice (some ⟨R, 0, none⟩) 1 1) [ringG j e br] := by
          refine ⟨_, _, _, [gcells (ringG j e br) (.slice none 0 0) (.slice (some ⟨KB, 0, none⟩) 16 16) (.slice none 0 0) (.slice (some ⟨A6, 0, none⟩) (j + 1) x6)], rfl, Nat.le_refl _, by unfold maxLen; omega, rfl, rfl, by simp [gcells], Reads.of_blk hRA rfl (by simp [gcells]), fun i z hz => ?_⟩
          match i, hz with
          | 0, hz =>
            simp only [List.getElem?_cons_zero, Option.some.injEq] at hz
            subst hz
            exact ⟨_, rfl, _, _, _, _, rfl, nums_nil _ _ _, nums_kzero hKA (by unfold maxLen; omega), nums_nil _ _ _, hNA.at_⟩
        have heN : e < j := by omega
        have hargs : ∀ x ∈ ringN j br, x.args.length * 8 ≤ 140737488351232 := by
          intro x hx
          obtain ⟨i, hi, hxi⟩ := List.getElem_of_mem hx
          have hxe : (ringN j br)[i]? = some x := by rw [List.getElem?_eq_getElem hi, hxi]
          rw [ringN_len] at hi
          by_cases hik : i = j
          · rw [hik, ringN_last] at hxe; injection hxe with hxe; rw [← hxe]; simp [ndR]
          · rw [ringN_at (by omega)] at hxe; injection hxe with hxe; rw [← hxe]; simp [nopD]
        have hlin := linear_any hgs (Nat.le_refl _) ⟨by intro g hg; simp at hg; rw [hg]; refine ⟨by simp [ringG], by simp [ringG], by simp [ringG], ?_, hargs⟩; have : (ringG j e br).nodes.length = j + 1 := ringN_len; omega, by simp⟩
        have herr := ring_err (ring := br) hK1 hK2 heN
        have hgr := ring_graph (ring := br) heN
        rw [hbv] at hgr
        have HF9' := Lib.hid hF9'
        have HR := Lib.hid hR
        have HwA := Lib.hid hwA
        have HRA := Lib.hid hRA
        have HKA := Lib.hid hKA
        have HNA := Lib.hid hNA
        have HbA := Lib.hid hbA
        have Hgs := Lib.hid hgs
        have Hargs := Lib.hid hargs
        have Hlin := Lib.hid hlin
        have Herr := Lib.hid herr
        have Hgr := Lib.hid hgr
        have Hbv := Lib.hid hbv
        clear hbv hgr herr hlin hargs hgs hbA hNA hKA hRA hwA hR hF9'
        go_wp2_with fail
        rw [← HwA.out, ← HR.out]
        refine Hlin.out.mono ?_
        rintro ee wB ⟨hbAB, hpost⟩
        rcases hpost with ⟨h0, _⟩ | ⟨_, pv, css', rfl, hownB, hgsB⟩
        · exact absurd Herr.out h0
        rw [List.map_cons, Hgr.out, List.map_nil] at hgsB
        rw [show ([ringG j e br] : List GraphD).length = 1 from rfl] at hownB
        obtain ⟨PV, pvc, rfl, _⟩ := own_any hownB
        have hgaB := hgsB.at_ hownB
        have hszA := HbA.out.size
        have hbB := HbA.out.trans (hbAB.mono hszA)
        obtain ⟨T, hT⟩ : ∃ T, T = wB.heap.size := ⟨_, rfl⟩
        obtain ⟨wC, hwC⟩ : ∃ wC, wC = wB.alloc (.cells #[.slice PV 1 pvc] 24) := ⟨_, rfl⟩
        have hTC : Blk wC T 24 #[.slice PV 1 pvc] := by rw [hwC, hT]; exact Blk.new _ _ _
        have hgaC : GraphsAt wC wB.heap.size (.slice PV 1 pvc) [⟨[], List.replicate 16 0, 0, [], false, -1, [x0], 0⟩] := hgaB.keep fun p hp => by rw [hwC]; exact World.cell?_alloc_lt wB _ p hp
        have hbC : Below w.heap.size w wC := by rw [hwC]; exact hbB.alloc hbB.size _
        obtain ⟨ad, pv5, kv5, iv5, nv5, hA, _, hM⟩ := hgaC.at_ (k := 0) rfl
        subst hA
        have e0 : ad.add (0 * 8) = ad := by rw [Nat.zero_mul]; first | rfl | simp [Addr.add]
        rw [e0] at hM
        obtain ⟨NB, nbc, hnv, _⟩ := hM.nodes.slice
        have hnv : nv5 = .slice NB 1 nbc := hnv
        subst hnv
        have m6 := hM.c6
        obtain ⟨nad, ncs, hnA, _, _, _, hNode, n0, nj⟩ := RowsAt.at_ (l := [x0]) hM.nodes (k := 0) (x := x0) rfl
        subst hnA
        obtain ⟨av5, rfl, hav5⟩ := hNode
        subst hxv
        obtain ⟨AA, ac, rfl, _⟩ := hav5.slice
        have e1 : nad.add (0 * 12) = nad := by rw [Nat.zero_mul]; first | rfl | simp [Addr.add]
        rw [e1] at n0 nj
        have c0 := n0 _ rfl
        have c1 := nj 1 _ (by omega) rfl
        have c2 := nj 2 _ (by omega) rfl
        have c3 := nj 3 _ (by omega) rfl
        have c4 := nj 4 _ (by omega) rfl
        have c5 := nj 5 _ (by omega) rfl
        have c6 := nj 6 _ (by omega) rfl
        have c7 := nj 7 _ (by omega) rfl
        have c8 := nj 8 _ (by omega) rfl
        have c9 := nj 9 _ (by omega) rfl
        have c10 := nj 10 _ (by omega) rfl
        have c11 := nj 11 _ (by omega) rfl
        simp only at c0 c1 c2 c3 c4 c5 c6 c7 c8 c9 c10 c11
        have hszC := hbC.size
        have k0 := Blk.cell hTC 0
        simp only [List.getElem?_toArray, List.getElem?_cons_zero] at k0
        clear n0 nj
        clear kf0 kf1 kf2 kf3 kf4 kf5 kf6 kf7
        have HownB := Lib.hid hownB
        have HgsB := Lib.hid hgsB
        have HgaB := Lib.hid hgaB
        have HbB := Lib.hid hbB
        have HwC := Lib.hid hwC
        have HTC := Lib.hid hTC
        have HgaC := Lib.hid hgaC
        have HM := Lib.hid hM
        have Hav5 := Lib.hid hav5
        have HbAB := Lib.hid hbAB
        have He0 := Lib.hid e0
        have He1 := Lib.hid e1
        clear e1 e0 hbAB hav5 hM hgaC hTC hwC hbB hgaB hgsB hownB
        have HTe := Lib.hid hT
        clear hT
        go_upto_region 15 with fail
        rw [← HTe.out, ← HwC.out]
        go_wp2_with fail
        go_ret
        exact ⟨rfl, hbC.alloc hszC _⟩
end Go.Proofs.Ytncpehhfjkncoaa
