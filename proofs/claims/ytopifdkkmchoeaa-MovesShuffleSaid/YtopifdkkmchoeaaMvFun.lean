/- Walks of slices.ContainsFunc, Clone and DeleteFunc at moves. Conditions: the moves lie in memory; for DeleteFunc in a row of the call's own. -/
import Derived.Test.YtopifdkkmchoeaaMvIdx
import Derived.Test.YtopifdkkmchoeaaMvDel
set_option linter.unusedVariables false
set_option linter.unusedSimpArgs false
namespace Go.Proofs.Ytopifdkkmchoeaa
open Go.RowKit

theorem ret_boolM {a b : Bool} (h : a = b) : Ending.returned (.bool a) = .returned (.bool b) := by rw [h]
theorem idxM_any (p : Mv → Bool) (ms : List Mv) : decide (0 ≤ idxM p ms) = ms.any p := by
  unfold idxM
  rcases h : ms.findIdx? p with _ | i
  · rw [List.findIdx?_eq_none_iff] at h
    have : ms.any p = false := by rw [List.any_eq_false]; intro x hx; simp [h x hx]
    rw [this]; rfl
  · rw [List.findIdx?_eq_some_iff_getElem] at h
    obtain ⟨hl, hp, _⟩ := h
    have : ms.any p = true := List.any_eq_true.2 ⟨_, List.getElem_mem hl, hp⟩
    rw [this]
    simp
set_option maxRecDepth 100000 in
set_option maxHeartbeats 1000000 in
theorem contains_any (A : Option Addr) (n c : Nat) (ms : List Mv) (w : World) (B : Nat) (hr : Reads w B 2 A n (mcells ms)) (hl : ms.length = n) (hn : n ≤ c) (hc : n ≤ 140737488351232) (hB : B ≤ w.heap.size)
    (F : Nat) (cb : Array Value) (p : Mv → Bool) (eg : ∀ args w, (callFunc F args).run Try.prog w = .ok (.enter F args) w) (hp : ∀ (W : World) (m : Mv), Below w.heap.size w W → Calls Try.prog F (#[magg m] ++ cb) W fun e W' => e = .returned (.bool (p m)) ∧ Below W.heap.size W W') :
    Calls Try.prog 19 #[.slice A n c, .func (.func F) #[] cb] w fun e w' => e = .returned (.bool (ms.any p)) ∧ Below w.heap.size w w' := by
  have hcn := index_any A n c ms w B hr hl hn hc hB F cb p eg hp
  have hid := idxM_any p ms
  obtain ⟨r, hR⟩ : ∃ r, idxM p ms = r := ⟨_, rfl⟩
  rw [hR] at hcn hid
  have Hr := Lib.hid hr
  have Hl := Lib.hid hl
  have Hp := Lib.hid hp
  have Hcn := Lib.hid hcn
  have Hid := Lib.hid hid
  have HR := Lib.hid hR
  clear hR hid hcn hp hl hr
  go_enter Try.func19, Try.ntmps19
  go_wp2_with fail
  refine Hcn.out.mono ?_
  rintro e w2 ⟨rfl, hb2⟩
  have Hb2 := Lib.hid hb2
  clear hb2
  go_wp2_with fail
  go_ret
  exact ⟨ret_boolM Hid.out, Hb2.out⟩
theorem eg_asks : ∀ args w, (callFunc 20 args).run Try.prog w = .ok (.enter 20 args) w := enters_of Try.func20 (by kernel_rfl) rfl
theorem eg_dup : ∀ args w, (callFunc 16 args).run Try.prog w = .ok (.enter 16 args) w := enters_of Try.func16 (by kernel_rfl) rfl
theorem eg_free : ∀ args w, (callFunc 18 args).run Try.prog w = .ok (.enter 18 args) w := enters_of Try.func18 (by kernel_rfl) rfl
set_option maxRecDepth 100000 in
set_option maxHeartbeats 1000000 in
theorem free_any (w : World) (m : Mv) (L : Nat) (A : Option Addr) (n c : Nat) (ms : List Mv) (hL : Blk w L 24 #[.slice A n c]) (hr : Reads w w.heap.size 2 A n (mcells ms)) (hl : ms.length = n) (hn : n ≤ c) (hc : n ≤ 140737488351232) :
    Calls Try.prog 18 #[magg m, .pointer (some ⟨L, 0, none⟩)] w fun e w' => e = .returned (.bool (freeM ms m)) ∧ Below w.heap.size w w' := by
  obtain ⟨a, b⟩ := m
  have hM := Blk.new w 26 #[.int .i64 a, .int .i64 b]
  have hal := (Below.refl w.heap.size w).alloc (Nat.le_refl _) (.cells #[.int .i64 a, .int .i64 b] 26)
  have hL1 := hL.alloc (.cells #[.int .i64 a, .int .i64 b] 26)
  have hr1 := hr.alloc (Nat.le_refl _) (.cells #[.int .i64 a, .int .i64 b] 26)
  have hp : ∀ (W : World) (x : Mv), Below (w.alloc (.cells #[.int .i64 a, .int .i64 b] 26)).heap.size (w.alloc (.cells #[.int .i64 a, .int .i64 b] 26)) W → Calls Try.prog 20 (#[magg x] ++ #[.pointer (some ⟨w.heap.size, 0, none⟩)]) W fun e W' => e = .returned (.bool (x.2 == a)) ∧ Below W.heap.size W W' := fun W x hb =>
    asks_any W (a, b) x w.heap.size (hM.below hb (by simp))
  have hcn := contains_any A n c ms _ _ hr1 hl hn hc (by simp) _ _ (fun x => x.2 == a) eg_asks hp
  have hfr : (!ms.any fun x => x.2 == a) = freeM ms (a, b) := rfl
  obtain ⟨r, hR⟩ : ∃ r, (ms.any fun x => x.2 == a) = r := ⟨_, rfl⟩
  rw [hR] at hcn hfr
  have kl0 := Blk.cell hL1 0
  simp only [List.getElem?_toArray, List.getElem?_cons_zero, List.getElem?_cons_succ] at kl0
  simp only [magg]
  have HM := Lib.hid hM
  have Hal := Lib.hid hal
  have HL1 := Lib.hid hL1
  have Hr1 := Lib.hid hr1
  have Hp := Lib.hid hp
  have Hcn := Lib.hid hcn
  have Hfr := Lib.hid hfr
  have HR := Lib.hid hR
  have HL := Lib.hid hL
  have Hr := Lib.hid hr
  have Hl := Lib.hid hl
  clear hl hr hL hR hfr hcn hp hr1 hL1 hal hM
  go_enter Try.func18, Try.ntmps18
  go_wp2_with fail
  refine Hcn.out.mono ?_
  rintro e w2 ⟨rfl, hb2⟩
  have hbn := Hal.out.trans (hb2.mono Hal.out.size)
  have Hbn := Lib.hid hbn
  clear hbn
  clear hb2
  go_wp2_with fail
  go_ret
  exact ⟨ret_boolM Hfr.out, Hbn.out⟩
set_option maxRecDepth 100000 in
set_option maxHeartbeats 1000000 in
theorem clone_mv (A : Option Addr) (n c : Nat) (xs : List Value) (w : World) (B : Nat) (hr : Reads w B 2 A n xs) (hone : ∀ u ∈ xs, u.oneCell' = true) (hnc : n ≤ c) (hc : c ≤ maxLen) (hB : B ≤ w.heap.size) (hs : n * 16 ≤ 140737488351232) :
    Calls Try.prog 15 #[.slice A n c] w fun e w' => Below w.heap.size w w' ∧ ∃ V x, e = .returned (.slice V n x) ∧ w'.ownsRow w.heap.size 26 2 (.slice V n x) n xs := by
  obtain ⟨i0, hi0, hz0, hz1, hz2⟩ := info_parts infoMv
  unfold maxLen at hc
  rcases A with _ | ad
  · have hn : n = 0 := by
      rcases Nat.eq_zero_or_pos n with h0 | h0
      · exact h0
      · obtain ⟨ad, h, _⟩ := hr.2 h0; cases h
    subst hn
    have hx : xs = [] := List.eq_nil_of_length_eq_zero (by simpa using hr.1)
    subst hx
    clear hr hone
    have hq := fun W : World => (Lib.run_eql_slice_nil (P := Try.prog) W 24 _ none 0 c 0 0 Try.underlying24)
    go_enter Try.func15, Try.ntmps15
    go_wp2_with fail
    go_ret
    exact ⟨Below.refl _ _, _, _, rfl, World.ownsRow_nil _ _ _ _⟩
  · have hE := own_lit0 w 26 2
    have hSrc := hr.alloc hB (.cells #[] 26)
    have Hr := Lib.hid hr
    have HE := Lib.hid hE
    have HSrc := Lib.hid hSrc
    have Hone := Lib.hid hone
    clear hone hSrc hE hr
    have hq := fun W : World => (Lib.run_eql_slice_nil (P := Try.prog) W 24 _ (some ad) n c 0 0 Try.underlying24)
    go_enter Try.func15, Try.ntmps15
    go_wp2_with (first
      | (at_builtin
         refine wpList_append_any _ rfl (.tmp 5) (.tmp 6) _ rfl w.heap.size 26 i0 _ 2 16 Try.underlying24 hi0 hz0 hz1 hz2 rfl (by omega) (.slice (some ⟨w.heap.size, 0, none⟩) 0 0) 0 [] rfl HE.out B (some ad) n c xs rfl HSrc.out ?c1 ?c2 ?c3 ?c4 ?_
         case c1 => exact Hone.out
         case c2 => unfold maxLen; omega
         case c3 => omega
         case c4 => simp
         intro v5 w5 hown5 hg5 hat5))
    have hO5 := own_app (ys := xs) hown5 rfl
    obtain ⟨V, x, rfl, _⟩ := own_any hO5
    have hb5 : Below w.heap.size w w5 := ((Below.refl _ _).alloc (Nat.le_refl _) _).grown hg5 (by simp) (fun k e => by injection e with e; simp only at e; omega)
    have Hown5 := Lib.hid hown5
    have HO5 := Lib.hid hO5
    have Hg5 := Lib.hid hg5
    have Hat5 := Lib.hid hat5
    have Hb5 := Lib.hid hb5
    clear hb5 hat5 hg5 hO5 hown5
    go_ret
    exact ⟨Hb5.out, V, x, rfl, HO5.out⟩
end Go.Proofs.Ytopifdkkmchoeaa
