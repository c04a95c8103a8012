/- Walks of slices.Clone at numbers, kinds and nodes. Conditions: the list lies in memory, within the reach. -/
import Derived.Test.YtncpehhfjkncoaaIrCpP
import Derived.WalkSpells
set_option linter.unusedVariables false
set_option linter.unusedSimpArgs false
namespace Go.Proofs.Ytncpehhfjkncoaa
open Go.RowKit

set_option maxRecDepth 100000 in
set_option maxHeartbeats 1000000 in
theorem clone_ints (A : Option Addr) (n c : Nat) (xs : List Value) (w : World) (B : Nat) (hr : Reads w B 1 A n xs) (hone : ∀ u ∈ xs, u.oneCell' = true) (hnc : n ≤ c) (hc : c ≤ maxLen) (hB : B ≤ w.heap.size) (hs : n * 8 ≤ 140737488351232) :
    Calls Try.prog 23 #[.slice A n c] w fun e w' => Below w.heap.size w w' ∧ ∃ V x, e = .returned (.slice V n x) ∧ w'.ownsRow w.heap.size 3 1 (.slice V n x) n xs := by
  obtain ⟨i0, hi0, hz0, hz1, hz2⟩ := info_parts infoIntr
  unfold maxLen at hc
  rcases A with _ | ad
  · have hn : n = 0 := by
      rcases Nat.eq_zero_or_pos n with h0 | h0
      · exact h0
      · obtain ⟨ad, h, _⟩ := hr.2 h0; cases h
    subst hn
    have hx : xs = [] := List.eq_nil_of_length_eq_zero (by simpa using hr.1)
    subst hx
    clear hr hone
    have hq := fun W : World => (Lib.run_eql_slice_nil (P := Try.prog) W 45 _ none 0 c 0 0 Try.underlying45)
    go_enter Try.func23, Try.ntmps23
    go_wp2_with fail
    go_ret
    exact ⟨Below.refl _ _, _, _, rfl, World.ownsRow_nil _ _ _ _⟩
  · have hE := own_lit0 w 3 1
    have hSrc := hr.alloc hB (.cells #[] 3)
    have Hr := Lib.hid hr
    have HE := Lib.hid hE
    have HSrc := Lib.hid hSrc
    have Hone := Lib.hid hone
    clear hone hSrc hE hr
    have hq := fun W : World => (Lib.run_eql_slice_nil (P := Try.prog) W 45 _ (some ad) n c 0 0 Try.underlying45)
    go_enter Try.func23, Try.ntmps23
    go_wp2_with (first
      | (at_builtin
         refine wpList_append_any _ rfl (.tmp 5) (.tmp 6) _ rfl w.heap.size 3 i0 _ 1 8 Try.underlying45 hi0 hz0 hz1 hz2 rfl (by omega) (.slice (some ⟨w.heap.size, 0, none⟩) 0 0) 0 [] rfl HE.out B (some ad) n c xs rfl HSrc.out ?c1 ?c2 ?c3 ?c4 ?_
         case c1 => exact Hone.out
         case c2 => unfold maxLen; omega
         case c3 => omega
         case c4 => simp
         intro v5 w5 hown5 hg5 hat5))
    have hO5 := own_app (ys := xs) hown5 rfl
    obtain ⟨V, x, rfl, _⟩ := own_any hO5
    have hb5 : Below w.heap.size w w5 := ((Below.refl _ _).alloc (Nat.le_refl _) _).grown hg5 (by simp) (fun k e => by injection e with e; simp only at e; omega)
    have Hown5 := Lib.hid hown5
    have HO5 := Lib.hid hO5
    have Hg5 := Lib.hid hg5
    have Hat5 := Lib.hid hat5
    have Hb5 := Lib.hid hb5
    clear hb5 hat5 hg5 hO5 hown5
    go_ret
    exact ⟨Hb5.out, V, x, rfl, HO5.out⟩
set_option maxRecDepth 100000 in
set_option maxHeartbeats 1000000 in
theorem clone_kinds (A : Option Addr) (n c : Nat) (xs : List Value) (w : World) (B : Nat) (hr : Reads w B 1 A n xs) (hone : ∀ u ∈ xs, u.oneCell' = true) (hnc : n ≤ c) (hc : c ≤ maxLen) (hB : B ≤ w.heap.size) (hs : n * 1 ≤ 140737488351232) :
    Calls Try.prog 24 #[.slice A n c] w fun e w' => Below w.heap.size w w' ∧ ∃ V x, e = .returned (.slice V n x) ∧ w'.ownsRow w.heap.size 79 1 (.slice V n x) n xs := by
  obtain ⟨i0, hi0, hz0, hz1, hz2⟩ := info_parts infoKindr
  unfold maxLen at hc
  rcases A with _ | ad
  · have hn : n = 0 := by
      rcases Nat.eq_zero_or_pos n with h0 | h0
      · exact h0
      · obtain ⟨ad, h, _⟩ := hr.2 h0; cases h
    subst hn
    have hx : xs = [] := List.eq_nil_of_length_eq_zero (by simpa using hr.1)
    subst hx
    clear hr hone
    have hq := fun W : World => (Lib.run_eql_slice_nil (P := Try.prog) W 44 _ none 0 c 0 0 Try.underlying44)
    go_enter Try.func24, Try.ntmps24
    go_wp2_with fail
    go_ret
    exact ⟨Below.refl _ _, _, _, rfl, World.ownsRow_nil _ _ _ _⟩
  · have hE := own_lit0 w 79 1
    have hSrc := hr.alloc hB (.cells #[] 79)
    have Hr := Lib.hid hr
    have HE := Lib.hid hE
    have HSrc := Lib.hid hSrc
    have Hone := Lib.hid hone
    clear hone hSrc hE hr
    have hq := fun W : World => (Lib.run_eql_slice_nil (P := Try.prog) W 44 _ (some ad) n c 0 0 Try.underlying44)
    go_enter Try.func24, Try.ntmps24
    go_wp2_with (first
      | (at_builtin
         refine wpList_append_any _ rfl (.tmp 5) (.tmp 6) _ rfl w.heap.size 79 i0 _ 1 1 Try.underlying44 hi0 hz0 hz1 hz2 rfl (by omega) (.slice (some ⟨w.heap.size, 0, none⟩) 0 0) 0 [] rfl HE.out B (some ad) n c xs rfl HSrc.out ?c1 ?c2 ?c3 ?c4 ?_
         case c1 => exact Hone.out
         case c2 => unfold maxLen; omega
         case c3 => omega
         case c4 => simp
         intro v5 w5 hown5 hg5 hat5))
    have hO5 := own_app (ys := xs) hown5 rfl
    obtain ⟨V, x, rfl, _⟩ := own_any hO5
    have hb5 : Below w.heap.size w w5 := ((Below.refl _ _).alloc (Nat.le_refl _) _).grown hg5 (by simp) (fun k e => by injection e with e; simp only at e; omega)
    have Hown5 := Lib.hid hown5
    have HO5 := Lib.hid hO5
    have Hg5 := Lib.hid hg5
    have Hat5 := Lib.hid hat5
    have Hb5 := Lib.hid hb5
    clear hb5 hat5 hg5 hO5 hown5
    go_ret
    exact ⟨Hb5.out, V, x, rfl, HO5.out⟩
end Go.Proofs.Ytncpehhfjkncoaa
