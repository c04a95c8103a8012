/- The law CodeCuts: no bytes cut off, and none with bytes behind, are a program. Condition: the program and the bytes lie in memory, the numbers fit their kinds. -/
import Derived.Test.YtcaefdfdngecdaaFirstC
import Derived.Test.YtcaefdfdngecdaaOpenC
import Derived.Test.YtcaefdfdngecdaaBig
set_option linter.unusedVariables false
set_option linter.unusedSimpArgs false
namespace Go.Proofs.Ytcaefdfdngecdaa
open Go.RowKit

theorem Reads.take {w : World} {B n k : Nat} {A : Option Addr} {xs : List Value} (h : Reads w B 1 A n xs) (hk : k ≤ n) : Reads w B 1 A k (xs.take k) :=
  ⟨by have := h.1; rw [List.length_take]; omega, fun hn => by
    obtain ⟨ad, e, hb, hc⟩ := h.2 (by omega)
    refine ⟨ad, e, hb, fun j u hu => hc j u ?_⟩
    have hj := (List.getElem?_eq_some_iff.1 hu).1
    rw [List.length_take] at hj
    rwa [List.getElem?_take_of_lt (by omega)] at hu⟩
theorem cut_at (a : Int) (L : Nat) (h0 : 0 < L) (h1 : L ≤ 160000000) : ∃ k : Nat, k < L ∧ wrap64 ((IntKind.u64.wrap a).tmod (L : Int)) = (k : Int) := by
  have hu : 0 ≤ IntKind.u64.wrap a := by rw [IntKind.wrap_u64]; omega
  have hb := Int.emod_nonneg (IntKind.u64.wrap a) (show (L : Int) ≠ 0 by omega)
  have hc := Int.emod_lt_of_pos (IntKind.u64.wrap a) (show (0 : Int) < L by omega)
  refine ⟨(IntKind.u64.wrap a % (L : Int)).toNat, by omega, ?_⟩
  rw [Int.tmod_eq_emod_of_nonneg hu, Int.toNat_of_nonneg hb, IntWalk.wrap64_in _ ⟨by omega, by omega⟩]
set_option maxRecDepth 100000 in
set_option maxHeartbeats 2000000 in
theorem walk_CodeCuts (w : World) (fv0 : Value) (fs0 : List FuncD) (hf0 : FuncsIn w fv0 fs0) (a1 : Int) (w1 : (Lit.int .i64 a1).wf = true) (A2 : Option Addr) (n2 c2 : Nat) (z2 : List Int) (r2 : Reads w w.heap.size 1 A2 n2 (z2.map (Value.int .u8))) (l2 : z2.length = n2) (nc2 : n2 ≤ c2) (cm2 : c2 ≤ maxLen) (rc2 : c2 * 1 ≤ 140737488351232) (w2 : ∀ z ∈ z2, (Lit.int .u8 z).wf = true) :
    Calls Try.prog 5 #[.agg #[fv0], .int .i64 a1, .slice A2 n2 c2] w fun e w' => e = .returned (.bool true) ∧ Below w.heap.size w w' := by
  obtain ⟨i0, hi0, hz0, hz1, hz2⟩ := info_parts infoU8
  obtain ⟨hfs, hwf, _⟩ := hf0
  obtain ⟨A, n, c, css, rfl, hc1, hc2, hl, hcl, hr, hcs⟩ := id hfs
  unfold maxLen at hc2 cm2
  have ha := bounds_i64 w1
  obtain ⟨ha0, ha1⟩ := ha
  have hP : Blk (w.alloc (.cells #[.slice A n c] 26)) w.heap.size 26 #[.slice A n c] := Blk.new w _ _
  have hb0 : Below w.heap.size w (w.alloc (.cells #[.slice A n c] 26)) := (Below.refl _ _).alloc (Nat.le_refl _) _
  have Hfs := Lib.hid hfs
  have Hwf := Lib.hid hwf
  have HP := Lib.hid hP
  have Hb0 := Lib.hid hb0
  have HR2 := Lib.hid r2
  have HL2 := Lib.hid l2
  have HW2 := Lib.hid w2
  clear w2 l2 r2 hb0 hP hwf hfs
  clear hl hcl hr hcs w1
  go_enter Try.func5, Try.ntmps5
  go_wp2_with fail
  refine (first_any _).mono ?_
  rintro e w1 ⟨rfl, hb1⟩
  have hbw1 := Hb0.out.trans (hb1.mono (by simp))
  have hP1 := HP.out.below hb1 (by simp)
  have hs1 := hb1.size
  rw [World.size_alloc] at hs1
  have kp0 := Blk.cell hP1 0
  simp only [List.getElem?_toArray, List.getElem?_cons_zero, List.getElem?_cons_succ] at kp0
  have hfs1 := (Hfs.out.below hbw1).more (B' := w1.heap.size) (by omega)
  have Hfs1 := Lib.hid hfs1
  have Hbw1 := Lib.hid hbw1
  have HP1 := Lib.hid hP1
  clear hP1 hbw1 hfs1
  clear hb1
  go_wp2_with fail
  refine (encode_any _ fs0 _ Hfs1.out (fun f hf => (Hwf.out f hf).1)).mono ?_
  rintro e w2 ⟨hcase, hb2⟩
  have hbw2 := Hbw1.out.trans (hb2.mono (by omega))
  have hs2 := hb2.size
  rcases hcase with ⟨hok, sv, rfl, hown⟩ | ⟨hok, rfl⟩
  · have hput := decP_put fs0 (fun f hf => (Hwf.out f hf).1) hok
    have hbyte := encP_byte fs0 (fun f hf => (Hwf.out f hf).1) hok
    have hlen := encP_len fs0 hok
    generalize hXS : encP fs0 = XS at *
    obtain ⟨g, sc, rfl, hsc⟩ := own_form hown hlen.1
    unfold maxLen at hsc
    obtain ⟨L, hL⟩ : ∃ L, L = XS.length := ⟨_, rfl⟩
    rw [← hL] at hown hlen hsc ⊢
    obtain ⟨hl0, hl1⟩ := hlen
    have hz : ((L : Int) == 0) = false := by rw [beq_eq_false_iff_ne]; omega
    obtain ⟨k, hk, hq⟩ := cut_at a1 L hl0 hl1
    have hks : (k : Int) ≤ sc := by omega
    have Hbw2 := Lib.hid hbw2
    have Hown := Lib.hid hown
    have Hput := Lib.hid hput
    have Hbyte := Lib.hid hbyte
    have HL := Lib.hid hL
    clear hL hbyte hput hown hbw2
    clear hXS hok hb2 kp0
    go_wp2_with fail
    clear hq
    have hks2 : KindsAt w2 w2.heap.size (.slice (some ⟨g, 0, none⟩) k sc) (XS.take k) :=
      ⟨_, _, _, rfl, by omega, by unfold maxLen; omega, by rw [List.length_take, ← HL.out]; omega, by
        rw [kindVals, List.map_take]
        exact Reads.take (Reads.of_own Hown.out) (by omega)⟩
    refine (decode_any _ (XS.take k) _ _ hks2 (fun x hx => Hbyte.out x (List.mem_of_mem_take hx)) (Nat.le_refl _)).mono ?_
    rintro e w3 ⟨hb3, hcase3⟩
    have hcut : decP (XS.take k) = none := decP_cut (t := XS.drop k) (by rw [List.take_append_drop]; exact Hput.out) (by
      intro h
      have := congrArg List.length h
      rw [List.length_drop, ← HL.out] at this
      simp at this; omega)
    obtain rfl : e = .returned (.tuple #[.agg #[.slice none 0 0], .int .i64 30]) := by
      rcases hcase3 with ⟨_, h⟩ | ⟨fs, h, _⟩ | ⟨fs, pv, h, _⟩
      · exact h
      · rw [hcut] at h; cases h
      · rw [hcut] at h; cases h
    have hs3 := hb3.size
    have hbw3 := Hbw2.out.trans (hb3.mono (by omega))
    have hR3 := (Reads.of_own Hown.out).below hb3
    have hgs : g < w2.heap.size := hsc.2.1
    clear hcut hcase3 hb3 hks2
    have hW4 := own_lit0 (w3.alloc (.cells #[.slice none 0 0] 26)) 5 1
    have hb4 := (hbw3.alloc (by omega) (.cells #[.slice none 0 0] 26)).alloc (by simp; omega) (.cells #[] 5)
    have hR4 := (hR3.alloc hs3 (.cells #[.slice none 0 0] 26)).alloc (by simp; omega) (.cells #[] 5)
    rw [World.size_alloc] at hW4
    have Hbw3 := Lib.hid hbw3
    have HR3 := Lib.hid hR3
    have HW4 := Lib.hid hW4
    have Hb4 := Lib.hid hb4
    have HR4 := Lib.hid hR4
    clear hR4 hb4 hW4 hR3 hbw3
    go_wp2_with (first
      | (at_builtin
         refine wpList_append_any _ rfl (.tmp 43) (.tmp 44) _ rfl (w3.heap.size + 1) 5 i0 _ 1 1 Try.underlying22 hi0 hz0 hz1 hz2 rfl (by omega) _ 0 [] rfl HW4.out w2.heap.size (some ⟨g, 0, none⟩) L sc (byteVals XS) rfl HR4.out (byteVals_one _) ?c2 ?c3 ?c4 ?_
         case c2 => simp only [maxLen]; omega
         case c3 => omega
         case c4 => simp
         intro v5 w5 hown5 hg5 hat5
         rw [List.nil_append, Nat.zero_add] at hown5
         have hb5 := Hb4.out.grown hg5 (by simp; omega) (fun k e => by have := (HW4.out.lt k e).1; omega)
         have hs5 := hg5.size
         simp only [World.size_alloc] at hs5)
      | (at_builtin
         refine wpList_append_big _ rfl (.tmp 45) (.tmp 46) _ rfl (w3.heap.size + 1) 5 i0 _ 1 1 Try.underlying22 hi0 hz0 hz1 hz2 rfl (by omega) _ L (byteVals XS) rfl hown5 w.heap.size A2 n2 c2 (byteVals z2) rfl (HR2.out.below hb5) (byteVals_one _) ?d2 ?d3 ?d4 ?_
         case d2 => simp only [maxLen]; omega
         case d3 => omega
         case d4 => omega
         intro v6 w6 hown6 hg6 hat6))
    have hb6 := hb5.grown hg6 (by omega) (fun k e => by have := (hown5.lt k e).1; omega)
    have hs6 := hb6.size
    have hk6 : KindsAt w6 w6.heap.size v6 (XS ++ z2) := by
      obtain ⟨A, c, h1, h2, h3, h4⟩ := own_any hown6
      exact ⟨A, _, c, h1, h2, h3, by rw [List.length_append, ← HL.out, HL2.out], by rw [← byteVals_append] at h4; exact h4⟩
    refine (decode_any _ (XS ++ z2) _ _ hk6 (fun x hx => ?_) (Nat.le_refl _)).mono ?_
    · rcases List.mem_append.1 hx with h | h
      · exact Hbyte.out x h
      · have := bounds_u8 (HW2.out x h); exact ⟨this.1, by omega⟩
    rintro e w7 ⟨hb7, hcase7⟩
    have hb8 := hb6.trans (hb7.mono hs6)
    have hs8 := hb8.size
    by_cases hn2 : 0 < n2
    · have hnone : decP (XS ++ z2) = none := decP_more Hput.out z2 (fun h => by have := HL2.out; rw [h] at this; simp at this; omega)
      obtain rfl : e = .returned (.tuple #[.agg #[.slice none 0 0], .int .i64 30]) := by
        rcases hcase7 with ⟨_, h⟩ | ⟨fs, h, _⟩ | ⟨fs, pv, h, _⟩
        · exact h
        · rw [hnone] at h; cases h
        · rw [hnone] at h; cases h
      have hd : decide ((0 : Int) < n2) = true := by simpa using hn2
      have hbx := hb8.alloc hs8 (.cells #[.slice none 0 0] 26)
      have Hbx := Lib.hid hbx
      clear hbx
      clear hnone hcase7 hb7 hk6 hb6 hb5 hg5 hg6 hown5 hown6 hb8 hat5 hat6
      go_wp2_with fail
      go_ret
      exact ⟨rfl, Hbx.out⟩
    · have hz2 : z2 = [] := List.eq_nil_of_length_eq_zero (by rw [HL2.out]; omega)
      have hsome : decP (XS ++ z2) = some fs0 := by rw [hz2, List.append_nil]; exact Hput.out
      obtain ⟨QA, qn, qc, E, he, hE⟩ : ∃ QA qn qc, ∃ E : Int, e = .returned (.tuple #[.agg #[.slice QA qn qc], .int .i64 E]) ∧ (E == 30) = false := by
        rcases hcase7 with ⟨h, _⟩ | ⟨fs, _, _, h⟩ | ⟨fs, pv, _, _, h, ⟨A, n, c, _, h2, _⟩, _⟩
        · rw [hsome] at h; cases h
        · exact ⟨_, _, _, _, h, rfl⟩
        · subst h2; exact ⟨_, _, _, _, h, rfl⟩
      subst he
      have hd : decide ((0 : Int) < n2) = false := by simpa using hn2
      have hbx := hb8.alloc hs8 (.cells #[.slice QA qn qc] 26)
      have Hbx := Lib.hid hbx
      clear hbx
      clear hsome hcase7 hb7 hk6 hb6 hb5 hg5 hg6 hown5 hown6 hb8 hat5 hat6 hz2
      go_wp2_with fail
      go_ret
      exact ⟨rfl, Hbx.out⟩
  · have Hbw2 := Lib.hid hbw2
    clear hbw2
    clear hok hb2 kp0
    go_wp2_with fail
    go_ret
    exact ⟨rfl, Hbw2.out⟩
end Go.Proofs.Ytcaefdfdngecdaa
