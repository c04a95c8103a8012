/- Walks of slices.Clone at kinds and at instructions. Conditions: the list lies in memory, within the reach. -/
import Derived.Test.YtcaefdfdngecdaaRefCopy
import Derived.WalkSpells
set_option linter.unusedVariables false
set_option linter.unusedSimpArgs false
namespace Go.Proofs.Ytcaefdfdngecdaa
open Go.RowKit

set_option maxRecDepth 100000 in
set_option maxHeartbeats 400000 in
theorem clone_kinds (v : Value) (xs : List Int) (w : World) (B : Nat) (h : KindsAt w B v xs) (hB : B ≤ w.heap.size) (hs : xs.length * 1 ≤ 140737488351232) :
    Calls Try.prog 31 #[v] w fun e w' => Below w.heap.size w w' ∧ ∃ sv, e = .returned sv ∧ w'.ownsRow w.heap.size 51 1 sv xs.length (kindVals xs) := by
  obtain ⟨i0, hi0, hz0, hz1, hz2⟩ := info_parts infoKind
  obtain ⟨A, n, c, rfl, hnc, hc, hl, hr⟩ := h
  rw [hl] at hs ⊢
  unfold maxLen at hc
  rcases A with _ | ad
  · have hn : n = 0 := by
      rcases Nat.eq_zero_or_pos n with h0 | h0
      · exact h0
      · obtain ⟨ad, h, _⟩ := hr.2 h0; cases h
    subst hn
    have hx : xs = [] := List.eq_nil_of_length_eq_zero hl
    subst hx
    clear hl hr
    have hq := fun W : World => (Lib.run_eql_slice_nil (P := Try.prog) W 42 _ none 0 c 0 0 Try.underlying42)
    go_enter Try.func31, Try.ntmps31
    go_wp2_with fail
    go_ret
    exact ⟨Below.refl _ _, _, rfl, World.ownsRow_nil _ _ _ _⟩
  · have hE := own_lit0 w 51 1
    have hSrc := hr.alloc hB (.cells #[] 51)
    have Hl := Lib.hid hl
    have Hr := Lib.hid hr
    have HE := Lib.hid hE
    have HSrc := Lib.hid hSrc
    clear hSrc hE hr hl
    have hq := fun W : World => (Lib.run_eql_slice_nil (P := Try.prog) W 42 _ (some ad) n c 0 0 Try.underlying42)
    go_enter Try.func31, Try.ntmps31
    go_wp2_with (first
      | (at_builtin
         refine wpList_append_any _ rfl (.tmp 5) (.tmp 6) _ rfl w.heap.size 51 i0 _ 1 1 Try.underlying42 hi0 hz0 hz1 hz2 rfl (by omega) (.slice (some ⟨w.heap.size, 0, none⟩) 0 0) 0 [] rfl HE.out B (some ad) n c (kindVals xs) rfl HSrc.out ?c1 ?c2 ?c3 ?c4 ?_
         case c1 => exact byteVals_one xs
         case c2 => unfold maxLen; omega
         case c3 => omega
         case c4 => simp
         intro v3 w3 hown3 hg3 hat3
         have hO3 := own_app (ys := kindVals xs) hown3 rfl
         have hb3 : Below w.heap.size w w3 := ((Below.refl _ _).alloc (Nat.le_refl _) _).grown hg3 (by simp) (fun k e => by injection e with e; simp only at e; omega)
         have HO3 := Lib.hid hO3
         have Hb3 := Lib.hid hb3
         clear hb3 hO3
         clear hown3 hg3 hat3))
    go_ret
    exact ⟨Hb3.out, _, rfl, HO3.out⟩
set_option maxRecDepth 100000 in
set_option maxHeartbeats 400000 in
theorem clone_instrs (v : Value) (xs : List InstrD) (w : World) (B : Nat) (h : CodeAt w B v xs) (hB : B ≤ w.heap.size) (hs : xs.length * 24 ≤ 140737488351232) :
    Calls Try.prog 32 #[v] w fun e w' => Below w.heap.size w w' ∧ ∃ sv, e = .returned sv ∧ w'.ownsRow w.heap.size 49 3 sv xs.length (xs.flatMap icells) := by
  obtain ⟨i0, hi0, hz0, hz1, hz2⟩ := info_parts infoInstr
  obtain ⟨A, n, c, rfl, hnc, hc, hl, hr⟩ := h
  rw [hl] at hs ⊢
  unfold maxLen at hc
  rcases A with _ | ad
  · have hn : n = 0 := by
      rcases Nat.eq_zero_or_pos n with h0 | h0
      · exact h0
      · obtain ⟨ad, h, _⟩ := hr.2 h0; cases h
    subst hn
    have hx : xs = [] := List.eq_nil_of_length_eq_zero hl
    subst hx
    clear hl hr
    have hq := fun W : World => (Lib.run_eql_slice_nil (P := Try.prog) W 43 _ none 0 c 0 0 Try.underlying43)
    go_enter Try.func32, Try.ntmps32
    go_wp2_with fail
    go_ret
    exact ⟨Below.refl _ _, _, rfl, World.ownsRow_nil _ _ _ _⟩
  · have hE := own_lit0 w 49 3
    have hSrc := hr.alloc hB (.cells #[] 49)
    have Hl := Lib.hid hl
    have Hr := Lib.hid hr
    have HE := Lib.hid hE
    have HSrc := Lib.hid hSrc
    clear hSrc hE hr hl
    have hq := fun W : World => (Lib.run_eql_slice_nil (P := Try.prog) W 43 _ (some ad) n c 0 0 Try.underlying43)
    go_enter Try.func32, Try.ntmps32
    go_wp2_with (first
      | (at_builtin
         refine wpList_append_any _ rfl (.tmp 5) (.tmp 6) _ rfl w.heap.size 49 i0 _ 3 24 Try.underlying43 hi0 hz0 hz1 hz2 rfl (by omega) (.slice (some ⟨w.heap.size, 0, none⟩) 0 0) 0 [] rfl HE.out B (some ad) n c (xs.flatMap icells) rfl HSrc.out ?c1 ?c2 ?c3 ?c4 ?_
         case c1 => exact icells_one xs
         case c2 => unfold maxLen; omega
         case c3 => omega
         case c4 => simp
         intro v3 w3 hown3 hg3 hat3
         have hO3 := own_app (ys := xs.flatMap icells) hown3 rfl
         have hb3 : Below w.heap.size w w3 := ((Below.refl _ _).alloc (Nat.le_refl _) _).grown hg3 (by simp) (fun k e => by injection e with e; simp only at e; omega)
         have HO3 := Lib.hid hO3
         have Hb3 := Lib.hid hb3
         clear hb3 hO3
         clear hown3 hg3 hat3))
    go_ret
    exact ⟨Hb3.out, _, rfl, HO3.out⟩
end Go.Proofs.Ytcaefdfdngecdaa
