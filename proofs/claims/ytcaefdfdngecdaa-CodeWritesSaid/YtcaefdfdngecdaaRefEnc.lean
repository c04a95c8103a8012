/- Walk of the document's Bytes: a program's bytes, or false. Conditions: the program lies in memory, its numbers fit their kinds. -/
import Derived.Test.YtcaefdfdngecdaaRefEnc1
import Derived.Test.YtcaefdfdngecdaaRefCopy
import Derived.Outline
import Derived.Deep.CutBlock
set_option linter.unusedVariables false
set_option linter.unusedSimpArgs false
namespace Go.Proofs.Ytcaefdfdngecdaa
open Go.RowKit

theorem below_grown {w w' : World} (hb : Below w.heap.size w w') : w.grownBy w' none := ⟨hb.os, hb.tape, hb.output, hb.size, fun i hi _ => hb.block i hi⟩
set_option maxRecDepth 100000 in
set_option maxHeartbeats 1000000 in
theorem refenc_size (fsv : Value) (fs : List FuncD) (w : World) (B : Nat) (hp : FuncsAt w B fsv fs) (hbad : ¬ (1 ≤ fs.length ∧ fs.length ≤ 255)) :
    Calls Try.prog 16 #[.agg #[fsv]] w fun e w' => e = .returned (.tuple #[.slice none 0 0, .bool false]) ∧ Below w.heap.size w w' := by
  obtain ⟨A, n, c, css, rfl, h1, h2, h3, _, _, _⟩ := hp
  rw [h3] at hbad
  unfold maxLen at h2
  have k0 : (w.alloc (.cells #[.slice A n c] 26)).cell? ⟨w.heap.size, 0, none⟩ = some (.slice A n c) := (Blk.new w 26 #[.slice A n c]).cell 0
  clear h3
  by_cases hz : n = 0
  · subst hz
    go_enter Try.func16, Try.ntmps16
    go_wp2_with fail
    go_ret2
    exact ⟨rfl, (Below.refl _ _).alloc (Nat.le_refl _) _⟩
  · have hz' : decide ((n : Int) < 1) = false := by simp only [decide_eq_false_iff_not]; omega
    have hb : decide ((255 : Int) < n) = true := by simp only [decide_eq_true_eq]; omega
    go_enter Try.func16, Try.ntmps16
    go_wp2_with fail
    go_ret2
    exact ⟨rfl, (Below.refl _ _).alloc (Nat.le_refl _) _⟩
set_option maxRecDepth 100000 in
set_option maxHeartbeats 4000000 in
theorem refenc_body (fsv : Value) (fs : List FuncD) (w : World) (hp : FuncsAt w w.heap.size fsv fs) (hwf : ∀ f ∈ fs, f.Wf) (h1 : 1 ≤ fs.length) (h255 : fs.length ≤ 255) :
    Calls Try.prog 16 #[.agg #[fsv]] w fun e w' => (okP fs = true ∧ (∃ sv, e = .returned (.tuple #[sv, .bool true]) ∧ w'.ownsRow w.heap.size 5 1 sv (encP fs).length (byteVals (encP fs))) ∨ okP fs = false ∧ e = .returned (.tuple #[.slice none 0 0, .bool false])) ∧ Below w.heap.size w w' := by
  obtain ⟨i0, hi0, hz0, hz1, hz2⟩ := info_parts infoU8
  obtain ⟨A, n, c, css, rfl, hc1, hc2, hl, hcl, hr, hcs⟩ := hp
  have h5 := css_five hl hcl hcs
  unfold maxLen at hc2
  rw [hl] at h1 h255
  obtain ⟨ad, hA, hadb, _⟩ := hr.2 (by omega)
  subst hA
  have k0 : (w.alloc (.cells #[.slice (some ad) n c] 26)).cell? ⟨w.heap.size, 0, none⟩ = some (.slice (some ad) n c) := (Blk.new w 26 #[.slice (some ad) n c]).cell 0
  have hz' : decide ((n : Int) < 1) = false := by simp only [decide_eq_false_iff_not]; omega
  have hb : decide ((255 : Int) < n) = false := by simp only [decide_eq_false_iff_not]; omega
  have k0' : ((w.alloc (.cells #[.slice (some ad) n c] 26)).alloc (.cells #[.int .u8 87, .int .u8 76, .int .u8 (n : Int)] 5)).cell? ⟨w.heap.size, 0, none⟩ = some (.slice (some ad) n c) := ((Blk.new w 26 #[.slice (some ad) n c]).alloc _).cell 0
  have HL := Lib.hid hl
  have HC := Lib.hid hcl
  have HCS := Lib.hid hcs
  have HW := Lib.hid hwf
  have HR := Lib.hid hr
  clear hr hwf hcs hcl hl
  go_enter Try.func16, Try.ntmps16
  go_wp2_with fail
  have hst : ((w.alloc (.cells #[.slice (some ad) n c] 26)).alloc (.cells #[.int .u8 87, .int .u8 76, .int .u8 (n : Int)] 5)).ownsRow w.heap.size 5 1 (.slice (some ⟨w.heap.size + 1, 0, none⟩) 3 3) 3 (byteVals [87, 76, (n : Int)]) := by
    have h := World.ownsRow_lit (base := w.heap.size) (e := 5) (size := 1) (w.alloc (.cells #[.slice (some ad) n c] 26)) #[.int .u8 87, .int .u8 76, .int .u8 (n : Int)] 3 (by simp) (by unfold maxLen; omega) rfl
    rw [World.size_alloc] at h
    exact h
  have hst' : ((w.alloc (.cells #[.slice (some ad) n c] 26)).alloc (.cells #[.int .u8 87, .int .u8 76, .int .u8 (n : Int)] 5)).ownsRow w.heap.size 5 1 (.slice (some ⟨w.heap.size + 1, 0, none⟩) 3 3) (3 + ((fs.take 0).flatMap encF).length) (byteVals ([87, 76, (n : Int)] ++ (fs.take 0).flatMap encF)) := by simpa using hst
  have hb0 : Below w.heap.size w ((w.alloc (.cells #[.slice (some ad) n c] 26)).alloc (.cells #[.int .u8 87, .int .u8 76, .int .u8 (n : Int)] 5)) := ((Below.refl _ _).alloc (Nat.le_refl _) _).alloc (by simp) _
  clear k0 k0' hst
  go_loopw [4, 32] (fun s i wr => ∃ j : Nat, j ≤ n ∧ i = .int .i64 j ∧ wr.ownsRow w.heap.size 5 1 s (3 + ((fs.take j).flatMap encF).length) (byteVals ([87, 76, (n : Int)] ++ (fs.take j).flatMap encF)) ∧ Below w.heap.size w wr ∧ Hid (∀ x ∈ fs.take j, okF x = true)) (fun _ i _ => n - (intOf i).toNat)
  case atStart => exact ⟨0, by omega, rfl, hst', hb0, by intro x hx; simp at hx⟩
  case round =>
    obtain ⟨j, hj, rfl, hown, hbw, hoks⟩ := hrel
    clear hst' hb0
    by_cases hlt : j < n
    · have hrw := HR.out.below hbw
      obtain ⟨f, hfk⟩ : ∃ f, fs[j]? = some f := ⟨_, List.getElem?_eq_getElem (by have := HL.out; omega)⟩
      obtain ⟨cs, hck, lv, cv, rfl, hlv, hcv⟩ := HCS.out j f hfk
      obtain ⟨LA, ln, lc, rfl, hl1, hl2, hl3, hl4⟩ := hlv
      obtain ⟨CA, cn, cc, rfl, hm1, hm2, hm3, hm4⟩ := hcv
      obtain ⟨g0, g1, g2, g3, g4⟩ := func_cells hrw HC.out h5 j f _ _ hck
      have hlen : ((fs.take j).flatMap encF).length ≤ 600000 * 255 := by
        have := encFs_le (fs.take j) hoks.out
        rw [List.length_take] at this
        omega
      have hsz := hbw.size
      have hfw := HW.out f (List.mem_of_getElem? hfk)
      have hbox := hbw.alloc (by omega) (.cells #[.int .i64 f.params, .slice LA ln lc, .bool f.result, .int .i64 f.keep, .slice CA cn cc] 45)
      have hF0 := Blk.new wr 45 #[.int .i64 f.params, .slice LA ln lc, .bool f.result, .int .i64 f.keep, .slice CA cn cc]
      have hO1 := hown.alloc (.cells #[.int .i64 f.params, .slice LA ln lc, .bool f.result, .int .i64 f.keep, .slice CA cn cc] 45)
      have hnF : u4.ownBlock ≠ some wr.heap.size := own_blk_ne hO1 hF0 (by decide)
      have hsn := encFs_snoc fs j f hfk
      have hyesF : okF f = true → ∀ y ∈ fs.take (j + 1), okF y = true := fun h y hy => by
        rw [List.take_add_one, hfk] at hy
        rcases List.mem_append.1 hy with h' | h'
        · exact hoks.out y h'
        · simp at h'; rw [h']; exact h
      have hnoF : okF f = false → okP fs = false := fun h => by
        unfold okP
        have : fs.all okF = false := by
          rw [List.all_eq_false]
          exact ⟨f, List.mem_of_getElem? hfk, by simpa using h⟩
        rw [this, Bool.and_false]
      unfold maxLen at hl2 hm2
      have Hfw := Lib.hid hfw
      have Hbox := Lib.hid hbox
      have HF0 := Lib.hid hF0
      have HO1 := Lib.hid hO1
      have HnF := Lib.hid hnF
      have Hsn := Lib.hid hsn
      have HyesF := Lib.hid hyesF
      have HnoF := Lib.hid hnoF
      have Hl4 := Lib.hid hl4
      have Hm4 := Lib.hid hm4
      have Hl3 := Lib.hid hl3
      have Hm3 := Lib.hid hm3
      have HOKS := Lib.hid hoks
      clear hoks hm3 hl3 hm4 hl4 hnoF hyesF hsn hnF hO1 hF0 hbox hfw
      clear hrw hck hfk hown
      obtain ⟨F, hFe⟩ : ∃ F, F = wr.heap.size := ⟨_, rfl⟩
      have HFe := Lib.hid hFe
      have hFlo : w.heap.size ≤ F := by omega
      clear hFe
      generalize hPre : [87, 76, (n : Int)] ++ (fs.take j).flatMap encF = XS at *
      generalize hLe : 3 + ((fs.take j).flatMap encF).length = M at *
      have hM : M ≤ 160000000 := by omega
      have HPre := Lib.hid hPre
      have HLe := Lib.hid hLe
      clear hLe hPre
      clear hlen
      obtain ⟨params, locals, result, keep, code⟩ := f
      simp only at *
      by_cases hok : headOk ⟨params, locals, result, keep, code⟩ = true
      · have hh : 0 ≤ params ∧ params ≤ ln ∧ (ln : Int) ≤ 255 ∧ -1 ≤ keep ∧ keep ≤ 254 ∧ (cn : Int) ≤ 65535 := by
          unfold headOk at hok
          simp only [decide_eq_true_eq, Hl3.out, Hm3.out] at hok
          omega
        obtain ⟨p0, p1, p2, p3, p4, p5⟩ := hh
        have d0 : decide (params < 0) = false := by simpa using p0
        have d1 : decide ((ln : Int) < params) = false := by simpa using p1
        have d2 : decide ((255 : Int) < ln) = false := by simpa using p2
        have d3 : decide (keep < -1) = false := by simpa using p3
        have d4 : decide (254 < keep) = false := by simpa using p4
        have d5 : decide ((65535 : Int) < cn) = false := by simpa using p5
        have Hok := Lib.hid hok
        clear hok
        go_wp2_with (first
          | (at_builtin
             refine wpList_append_any _ rfl (.tmp 69) (.tmp 77) _ rfl w.heap.size 5 i0 _ 1 1 Try.underlying22 hi0 hz0 hz1 hz2 rfl (by omega) u4 M (byteVals XS) rfl (HO1.out.alloc _) (wr.heap.size + 2) (some ⟨wr.heap.size + 1, 0, none⟩) 2 2 (byteVals [params, (ln : Int)]) rfl ?c0 ?c1 ?c2 ?c3 ?c4 ?_
             case c0 => exact Reads.newN _ (by simp) _ _ 2 _ rfl rfl
             case c1 => exact byteVals_one _
             case c2 => simp only [maxLen]; omega
             case c3 => omega
             case c4 => simp; omega
             intro v2 w2 hown2 hg2 hat2
             have hF2 := (HF0.out.alloc (.cells #[.int .u8 params, .int .u8 (ln : Int)] 5)).grown hg2 (Ne.symm HnF.out)
             have q1 := Blk.cell hF2 1
             simp only [List.getElem?_toArray, List.getElem?_cons_zero, List.getElem?_cons_succ] at q1))
        have hb2 := (Hbox.out.alloc (by simp; omega) (.cells #[.int .u8 params, .int .u8 (ln : Int)] 5)).grown hg2 (by simp; omega) (fun k e => (HO1.out.lt k e).1)
        rw [← HFe.out] at hF2
        rw [← HFe.out]
        have hown2' : w2.ownsRow w.heap.size 5 1 v2 (M + 2 + 0) (byteVals (XS ++ [params, (ln : Int)] ++ locals.take 0)) := by simpa [byteVals] using hown2
        have Hb2 := Lib.hid hb2
        have HF2 := Lib.hid hF2
        clear hF2 hb2
        clear hg2 hat2 q1 hown2 g0 g1 g2 g3 g4
        go_loopw [4, 82] (fun s i wq => ∃ k : Nat, k ≤ ln ∧ i = .int .i64 k ∧ wq.ownsRow w.heap.size 5 1 s (M + 2 + k) (byteVals (XS ++ [params, (ln : Int)] ++ locals.take k)) ∧ Blk wq F 45 #[.int .i64 params, .slice LA ln lc, .bool result, .int .i64 keep, .slice CA cn cc] ∧ Below w.heap.size w wq ∧ Hid (∀ x ∈ locals.take k, x ≤ 1)) (fun _ i _ => ln - (intOf i).toNat)
        case atStart => exact ⟨0, by omega, rfl, hown2', HF2.out, Hb2.out, by intro x hx; simp at hx⟩
        case round =>
          obtain ⟨k, hk, rfl, hown3, hF3, hb3, hle⟩ := hrel
          clear hown2'
          by_cases hlt2 : k < ln
          · obtain ⟨ad2, u, rfl, _, hu, hcell⟩ := (Hl4.out.below hb3).at_ hlt2
            obtain ⟨x, hxk, rfl⟩ : ∃ x, locals[k]? = some x ∧ u = .int .u8 x := by
              rw [kindVals, List.getElem?_map, Option.map_eq_some_iff] at hu
              obtain ⟨x, h1, h2⟩ := hu
              exact ⟨x, h1, h2.symm⟩
            have hx0 := (Hfw.out.locals x (List.mem_of_getElem? hxk)).1
            have hsz3 := hb3.size
            have Hxk := Lib.hid hxk
            have Hown3 := Lib.hid hown3
            have HF3 := Lib.hid hF3
            have Hb3 := Lib.hid hb3
            clear hb3 hF3 hown3 hxk
            clear hu
            by_cases hx1 : x ≤ 1
            · have hx01 : x = 0 ∨ x = 1 := by omega
              clear hx0 hx1
              rcases hx01 with rfl | rfl
              · go_wp2_with (first
                  | (at_builtin
                     refine wpList_append_any _ rfl (.tmp 92) (.tmp 94) _ rfl w.heap.size 5 i0 _ 1 1 Try.underlying22 hi0 hz0 hz1 hz2 rfl (by omega) _ (M + 2 + k) (byteVals (XS ++ [params, (ln : Int)] ++ locals.take k)) rfl (Hown3.out.alloc _) (wr.heap.size + 1) (some ⟨wr.heap.size, 0, none⟩) 1 1 [.int .u8 0] rfl (Reads.newAt _ rfl _ _) ?c1 ?c2 ?c3 ?c4 ?_
                     case c1 => intro u hu; simp only [List.mem_singleton] at hu; subst hu; rfl
                     case c2 => simp only [maxLen]; omega
                     case c3 => omega
                     case c4 => simp; omega
                     intro v4 w4 hown4 hg4 hat4))
                have e : byteVals (XS ++ [params, (ln : Int)] ++ locals.take (k + 1)) = byteVals (XS ++ [params, (ln : Int)] ++ locals.take k) ++ [.int .u8 0] := by
                  rw [List.take_add_one, Hxk.out]; simp [byteVals]
                refine ⟨⟨k + 1, by omega, by go_num, by rw [e]; exact hown4, (HF3.out.alloc _).grown hg4 (Ne.symm (own_blk_ne Hown3.out HF3.out (by decide))), (Hb3.out.alloc (by omega) _).grown hg4 (by simp; omega) (fun g e => (Hown3.out.lt g e).1), ?_⟩, by simp [intOf]; omega⟩
                show ∀ y ∈ _, y ≤ 1
                rw [List.take_add_one, Hxk.out]
                intro y hy
                rcases List.mem_append.1 hy with h | h
                · exact hle.out y h
                · simp at h; omega
              · go_wp2_with (first
                  | (at_builtin
                     refine wpList_append_any _ rfl (.tmp 92) (.tmp 94) _ rfl w.heap.size 5 i0 _ 1 1 Try.underlying22 hi0 hz0 hz1 hz2 rfl (by omega) _ (M + 2 + k) (byteVals (XS ++ [params, (ln : Int)] ++ locals.take k)) rfl (Hown3.out.alloc _) (wr.heap.size + 1) (some ⟨wr.heap.size, 0, none⟩) 1 1 [.int .u8 1] rfl (Reads.newAt _ rfl _ _) ?c1 ?c2 ?c3 ?c4 ?_
                     case c1 => intro u hu; simp only [List.mem_singleton] at hu; subst hu; rfl
                     case c2 => simp only [maxLen]; omega
                     case c3 => omega
                     case c4 => simp; omega
                     intro v4 w4 hown4 hg4 hat4))
                have e : byteVals (XS ++ [params, (ln : Int)] ++ locals.take (k + 1)) = byteVals (XS ++ [params, (ln : Int)] ++ locals.take k) ++ [.int .u8 1] := by
                  rw [List.take_add_one, Hxk.out]; simp [byteVals]
                refine ⟨⟨k + 1, by omega, by go_num, by rw [e]; exact hown4, (HF3.out.alloc _).grown hg4 (Ne.symm (own_blk_ne Hown3.out HF3.out (by decide))), (Hb3.out.alloc (by omega) _).grown hg4 (by simp; omega) (fun g e => (Hown3.out.lt g e).1), ?_⟩, by simp [intOf]; omega⟩
                show ∀ y ∈ _, y ≤ 1
                rw [List.take_add_one, Hxk.out]
                intro y hy
                rcases List.mem_append.1 hy with h | h
                · exact hle.out y h
                · simp at h; omega
            · have hNO : okP fs = false := HnoF.out (by
                unfold okF
                have : (locals.all fun k => decide (k ≤ 1)) = false := by
                  rw [List.all_eq_false]
                  exact ⟨x, List.mem_of_getElem? Hxk.out, by simpa using hx1⟩
                simp [this])
              have e0 : (x == 0) = false := by rw [beq_eq_false_iff_ne]; omega
              have e1 : (x == 1) = false := by rw [beq_eq_false_iff_ne]; omega
              have e2 : (x != 0) = true := by rw [bne_iff_ne]; omega
              have e3 : (x != 1) = true := by rw [bne_iff_ne]; omega
              have HNO := Lib.hid hNO
              clear hNO
              go_wp2_with fail
              go_ret2
              exact ⟨.inr ⟨HNO.out, rfl⟩, Hb3.out⟩
          · have hkl : ln ≤ k := by omega
            have hown5 : wr.ownsRow w.heap.size 5 1 u4 (M + 2 + ln) (byteVals (XS ++ [params, (ln : Int)] ++ locals)) := by
              obtain rfl : ln = k := by omega
              rw [List.take_of_length_le (by have := Hl3.out; omega)] at hown3; exact hown3
            have q2 := Blk.cell hF3 2
            have q3 := Blk.cell hF3 3
            have q4 := Blk.cell hF3 4
            simp only [List.getElem?_toArray, List.getElem?_cons_zero, List.getElem?_cons_succ] at q2 q3 q4
            have hHL : okI ⟨0, 0, 0⟩ = false := by decide
            have hall : (locals.all fun k => decide (k ≤ 1)) = true := by
              rw [List.all_eq_true]
              intro y hy
              have := hle.out y (by rw [List.take_of_length_le (by have := Hl3.out; omega)]; exact hy)
              simpa using this
            have hsz3 := hb3.size
            have Hown5 := Lib.hid hown5
            have HF3 := Lib.hid hF3
            have Hb3 := Lib.hid hb3
            have Hall := Lib.hid hall
            clear hall hb3 hF3 hown5
            clear hown3 hHL
            have hkk : 0 ≤ keep ∨ keep = -1 := by omega
            cases result <;> rcases hkk with hk0 | rfl
            · have dk : decide ((0 : Int) ≤ keep) = true := by first | rfl | simpa using hk0
              have hby : byteOf keep = keep := by unfold byteOf; rw [IntKind.wrap_u8']; omega
              have Hby := Lib.hid hby
              clear hby
              go_wp2_with (first
                | (at_builtin
                   refine wpList_append_any _ rfl (.tmp 105) (.tmp 108) _ rfl w.heap.size 5 i0 _ 1 1 Try.underlying22 hi0 hz0 hz1 hz2 rfl (by omega) u4 (M + 2 + ln) (byteVals (XS ++ [params, (ln : Int)] ++ locals)) rfl (Hown5.out.alloc _) (wr.heap.size + 1) (some ⟨wr.heap.size, 0, none⟩) 2 2 (byteVals [0, keep]) rfl ?c0 ?c1 ?c2 ?c3 ?c4 ?_
                   case c0 => exact Reads.newN _ (by simp) _ _ 2 _ rfl rfl
                   case c1 => exact byteVals_one _
                   case c2 => simp only [maxLen]; omega
                   case c3 => omega
                   case c4 => simp; omega
                   intro v6 w6 hown6 hg6 hat6
                   have hF6 := (HF3.out.alloc (.cells #[.int .u8 0, .int .u8 keep] 5)).grown hg6 (Ne.symm (own_blk_ne Hown5.out HF3.out (by decide)))
                   have q4 := Blk.cell hF6 4
                   simp only [List.getElem?_toArray, List.getElem?_cons_zero, List.getElem?_cons_succ] at q4))
              have hb6 := (Hb3.out.alloc (by omega) (.cells #[.int .u8 0, .int .u8 keep] 5)).grown hg6 (by simp; omega) (fun g e => (Hown5.out.lt g e).1)
              have hs6 := hb6.size
              have HF6 := Lib.hid hF6
              have Hb6 := Lib.hid hb6
              have Hown6 := Lib.hid hown6
              clear hown6 hb6 hF6
              clear hg6 hat6 q2 q3 q4 dk
              refine (low_any (cn : Int) 2 w6 (by unfold U64; omega) (by omega)).mono ?_
              rintro e w7 ⟨lv7, rfl, hown7, hb7⟩
              obtain ⟨LA7, lc7, rfl, hlc7, hlm7, hR7⟩ := own_any hown7
              have hO7 := own_kept' Hown6.out (below_grown hb7) (fun g h => by cases h)
              have hF7 := HF6.out.below hb7 HF6.out.lt
              have hb7' := Hb6.out.trans (hb7.mono hs6)
              have hs7 := hb7'.size
              unfold maxLen at hlm7
              have HO7 := Lib.hid hO7
              have HF7 := Lib.hid hF7
              have HR7 := Lib.hid hR7
              have Hb7' := Lib.hid hb7'
              clear hb7' hR7 hF7 hO7
              clear hown7 hb7
              go_wp2_with (first
                | (at_builtin
                   refine wpList_append_any _ rfl (.tmp 110) (.tmp 115) _ rfl w.heap.size 5 i0 _ 1 1 Try.underlying22 hi0 hz0 hz1 hz2 rfl (by omega) v6 (M + 2 + ln + 2) _ rfl HO7.out w7.heap.size LA7 2 lc7 (byteVals (bytesLE 2 (cn : Int))) rfl HR7.out ?c1 ?c2 ?c3 ?c4 ?_
                   case c1 => exact byteVals_one _
                   case c2 => simp only [maxLen]; omega
                   case c3 => omega
                   case c4 => omega
                   intro v8 w8 hown8 hg8 hat8
                   have hF8 := HF7.out.grown hg8 (Ne.symm (own_blk_ne HO7.out HF7.out (by decide)))
                   have q4 := Blk.cell hF8 4
                   simp only [List.getElem?_toArray, List.getElem?_cons_zero, List.getElem?_cons_succ] at q4))
              have hb8 := Hb7'.out.grown hg8 (by omega) (fun g e => (HO7.out.lt g e).1)
              have hst8 : w8.ownsRow w.heap.size 5 1 v8 (M + 6 + ln + ((code.take 0).flatMap encI).length) (byteVals (XS ++ encHead ⟨params, locals, false, keep, code⟩ ++ (code.take 0).flatMap encI)) := by
                have e1 : M + 2 + ln + 2 + 2 = M + 6 + ln + ((code.take 0).flatMap encI).length := by simp; omega
                have e2 : byteVals (XS ++ [params, (ln : Int)] ++ locals) ++ byteVals [0, keep] ++ byteVals (bytesLE 2 (cn : Int)) = byteVals (XS ++ encHead ⟨params, locals, false, keep, code⟩ ++ (code.take 0).flatMap encI) := by
                  rw [← byteVals_append, ← byteVals_append]
                  simp only [encHead, Hl3.out, Hm3.out, Hby.out, List.append_assoc, List.take_zero, List.flatMap_nil, List.append_nil]
                  rfl
                rw [e1, e2] at hown8
                exact hown8
              have Hb8 := Lib.hid hb8
              clear hb8
              clear hown8 hg8 hat8 hF8 q4
              go_loopw [4, 120] (fun s i wq => ∃ q : Nat, q ≤ cn ∧ i = .int .i64 q ∧ wq.ownsRow w.heap.size 5 1 s (M + 6 + ln + ((code.take q).flatMap encI).length) (byteVals (XS ++ encHead ⟨params, locals, false, keep, code⟩ ++ (code.take q).flatMap encI)) ∧ Below w.heap.size w wq ∧ Hid (∀ x ∈ code.take q, okI x = true)) (fun _ i _ => cn - (intOf i).toNat)
              case atStart => exact ⟨0, by omega, rfl, hst8, Hb8.out, by intro x hx; simp at hx⟩
              case round =>
                obtain ⟨q, hq, rfl, hown9, hb9, hoks9⟩ := hrel
                clear hst8
                by_cases hlt3 : q < cn
                · obtain ⟨ad3, hA3, _, hcell⟩ := (Hm4.out.below hb9).2 (by omega)
                  subst hA3
                  obtain ⟨x, hxk⟩ : ∃ x, code[q]? = some x := ⟨_, List.getElem?_eq_getElem (by have := Hm3.out; omega)⟩
                  obtain ⟨f0, f1, f2⟩ := flatMap_three code q x hxk
                  have r0 := hcell _ _ f0
                  have r1 := hcell _ _ f1
                  have r2 := hcell _ _ f2
                  rw [← addr_sub ad3 _ 1 (by omega)] at r1
                  rw [← addr_sub ad3 _ 2 (by omega)] at r2
                  have hxw := Hfw.out.code x (List.mem_of_getElem? hxk)
                  have hlen9 : ((code.take q).flatMap encI).length ≤ 9 * q := by
                    have := encIs_le (code.take q); rw [List.length_take] at this; omega
                  have hs9 := hb9.size
                  have hbx := hb9.alloc hs9 (.cells #[.int .u8 x.op, .int .i64 x.arg, .int .u64 x.imm] 49)
                  have hG0 := Blk.new wr 49 #[.int .u8 x.op, .int .i64 x.arg, .int .u64 x.imm]
                  have hO9 := hown9.alloc (.cells #[.int .u8 x.op, .int .i64 x.arg, .int .u64 x.imm] 49)
                  have Hxk := Lib.hid hxk
                  have Hxw := Lib.hid hxw
                  have Hbx := Lib.hid hbx
                  have HG0 := Lib.hid hG0
                  have HO9 := Lib.hid hO9
                  have HOKS9 := Lib.hid hoks9
                  clear hoks9 hO9 hG0 hbx hxw hxk
                  clear hcell f0 f1 f2 hown9 hb9
                  go_wp2_with fail
                  refine (says_any x _).mono ?_
                  rintro e w10 ⟨rfl, hb10⟩
                  have hb10' := Hbx.out.trans (hb10.mono (by simp; omega))
                  have hs10 := hb10'.size
                  have hG10 := HG0.out.below hb10 (by simp)
                  have hO10 := own_kept' HO9.out (below_grown hb10) (fun g h => by cases h)
                  have t0 := Blk.cell hG10 0
                  simp only [List.getElem?_toArray, List.getElem?_cons_zero, List.getElem?_cons_succ] at t0
                  have Hb10' := Lib.hid hb10'
                  have HG10 := Lib.hid hG10
                  have HO10 := Lib.hid hO10
                  clear hO10 hG10 hb10'
                  clear hb10 r0 r1 r2
                  by_cases hxok : okI x = true
                  · rw [hxok]
                    have Hxok := Lib.hid hxok
                    clear hxok
                    go_wp2_with (first
                      | (at_builtin
                         refine wpList_append_any _ rfl (.tmp 127) (.tmp 130) _ rfl w.heap.size 5 i0 _ 1 1 Try.underlying22 hi0 hz0 hz1 hz2 rfl (by omega) u4 _ _ rfl (HO10.out.alloc _) (w10.heap.size + 1) (some ⟨w10.heap.size, 0, none⟩) 1 1 [.int .u8 x.op] rfl (Reads.newAt _ rfl _ _) ?c1 ?c2 ?c3 ?c4 ?_
                         case c1 => intro u hu; simp only [List.mem_singleton] at hu; subst hu; rfl
                         case c2 => simp only [maxLen]; omega
                         case c3 => omega
                         case c4 => simp; omega
                         intro v11 w11 hown11 hg11 hat11
                         have hG11 := (HG10.out.alloc (.cells #[.int .u8 x.op] 5)).grown hg11 (Ne.symm (own_blk_ne HO10.out HG10.out (by decide)))
                         have s0 := Blk.cell hG11 0
                         have s1 := Blk.cell hG11 1
                         have s2 := Blk.cell hG11 2
                         simp only [List.getElem?_toArray, List.getElem?_cons_zero, List.getElem?_cons_succ] at s0 s1 s2))
                    have hb11 := (Hb10'.out.alloc hs10 (.cells #[.int .u8 x.op] 5)).grown hg11 (by simp; omega) (fun g e => (HO10.out.lt g e).1)
                    have hs11 := hb11.size
                    have Hb11 := Lib.hid hb11
                    have Hown11 := Lib.hid hown11
                    clear hown11 hb11
                    clear hG11 hg11 hat11 t0
                    rcases width_cases x.op with hw | hw | hw | hw | hw
                    · have hen : encI x = x.op :: bytesLE 8 x.imm := by simp [encI, hw]
                      have Hw := Lib.hid hw
                      have Hen := Lib.hid hen
                      clear hen hw
                      go_wp2_with fail
                      refine (refwidth_as x.op 8 _ Hw.out).mono ?_
                      rintro e w' ⟨rfl, rfl⟩
                      go_wp2_with fail
                      refine (low_any x.imm 8 w11 (by first | exact Hxw.out.imm | (unfold u64Of U64; rw [IntKind.wrap_u64]; omega)) (by omega)).mono ?_
                      rintro e w12 ⟨lv12, rfl, hown12, hb12⟩
                      obtain ⟨LA12, lc12, rfl, hlc12, hlm12, hR12⟩ := own_any hown12
                      have hO12 := own_kept' Hown11.out (below_grown hb12) (fun g h => by cases h)
                      have hb12' := Hb11.out.trans (hb12.mono hs11)
                      have hs12 := hb12'.size
                      unfold maxLen at hlm12
                      have HO12 := Lib.hid hO12
                      have HR12 := Lib.hid hR12
                      have Hb12' := Lib.hid hb12'
                      clear hb12' hR12 hO12
                      clear hown12 hb12 s0 s1 s2
                      go_wp2_with (first
                        | (at_builtin
                           refine wpList_append_any _ rfl (.tmp 137) (.tmp 140) _ rfl w.heap.size 5 i0 _ 1 1 Try.underlying22 hi0 hz0 hz1 hz2 rfl (by omega) v11 _ _ rfl HO12.out w12.heap.size LA12 8 lc12 (byteVals (bytesLE 8 x.imm)) rfl HR12.out ?c1 ?c2 ?c3 ?c4 ?_
                           case c1 => exact byteVals_one _
                           case c2 => simp only [maxLen]; omega
                           case c3 => omega
                           case c4 => omega
                           intro v13 w13 hown13 hg13 hat13))
                      have hb13 := Hb12'.out.grown hg13 (by omega) (fun g e => (HO12.out.lt g e).1)
                      refine ⟨⟨q + 1, by omega, by go_num, ?_, hb13, ?_⟩, by simp [intOf]; omega⟩
                      · rw [encIs_snoc code q x Hxk.out, Hen.out]
                        have e1 : M + 6 + ln + ((code.take q).flatMap encI).length + 1 + 8 = M + 6 + ln + ((code.take q).flatMap encI ++ x.op :: bytesLE 8 x.imm).length := by
                          rw [List.length_append, List.length_cons, bytesLE_length]; omega
                        have e2 : byteVals (XS ++ encHead ⟨params, locals, false, keep, code⟩ ++ (code.take q).flatMap encI) ++ [.int .u8 x.op] ++ byteVals (bytesLE 8 x.imm) = byteVals (XS ++ encHead ⟨params, locals, false, keep, code⟩ ++ ((code.take q).flatMap encI ++ x.op :: bytesLE 8 x.imm)) := by
                          simp [byteVals]
                        rw [e1, e2] at hown13
                        exact hown13
                      · show ∀ y ∈ _, okI y = true
                        rw [List.take_add_one, Hxk.out]
                        intro y hy
                        rcases List.mem_append.1 hy with h | h
                        · exact HOKS9.out y h
                        · simp at h; rw [h]; exact Hxok.out
                    · have hen : encI x = x.op :: bytesLE 2 (u64Of x.arg) := by simp [encI, hw]
                      have Hw := Lib.hid hw
                      have Hen := Lib.hid hen
                      clear hen hw
                      go_wp2_with fail
                      refine (refwidth_as x.op 2 _ Hw.out).mono ?_
                      rintro e w' ⟨rfl, rfl⟩
                      go_wp2_with fail
                      refine (low_any (u64Of x.arg) 2 w11 (by first | exact Hxw.out.imm | (unfold u64Of U64; rw [IntKind.wrap_u64]; omega)) (by omega)).mono ?_
                      rintro e w12 ⟨lv12, rfl, hown12, hb12⟩
                      obtain ⟨LA12, lc12, rfl, hlc12, hlm12, hR12⟩ := own_any hown12
                      have hO12 := own_kept' Hown11.out (below_grown hb12) (fun g h => by cases h)
                      have hb12' := Hb11.out.trans (hb12.mono hs11)
                      have hs12 := hb12'.size
                      unfold maxLen at hlm12
                      have HO12 := Lib.hid hO12
                      have HR12 := Lib.hid hR12
                      have Hb12' := Lib.hid hb12'
                      clear hb12' hR12 hO12
                      clear hown12 hb12 s0 s1 s2
                      go_wp2_with (first
                        | (at_builtin
                           refine wpList_append_any _ rfl (.tmp 142) (.tmp 147) _ rfl w.heap.size 5 i0 _ 1 1 Try.underlying22 hi0 hz0 hz1 hz2 rfl (by omega) v11 _ _ rfl HO12.out w12.heap.size LA12 2 lc12 (byteVals (bytesLE 2 (u64Of x.arg))) rfl HR12.out ?c1 ?c2 ?c3 ?c4 ?_
                           case c1 => exact byteVals_one _
                           case c2 => simp only [maxLen]; omega
                           case c3 => omega
                           case c4 => omega
                           intro v13 w13 hown13 hg13 hat13))
                      have hb13 := Hb12'.out.grown hg13 (by omega) (fun g e => (HO12.out.lt g e).1)
                      refine ⟨⟨q + 1, by omega, by go_num, ?_, hb13, ?_⟩, by simp [intOf]; omega⟩
                      · rw [encIs_snoc code q x Hxk.out, Hen.out]
                        have e1 : M + 6 + ln + ((code.take q).flatMap encI).length + 1 + 2 = M + 6 + ln + ((code.take q).flatMap encI ++ x.op :: bytesLE 2 (u64Of x.arg)).length := by
                          rw [List.length_append, List.length_cons, bytesLE_length]; omega
                        have e2 : byteVals (XS ++ encHead ⟨params, locals, false, keep, code⟩ ++ (code.take q).flatMap encI) ++ [.int .u8 x.op] ++ byteVals (bytesLE 2 (u64Of x.arg)) = byteVals (XS ++ encHead ⟨params, locals, false, keep, code⟩ ++ ((code.take q).flatMap encI ++ x.op :: bytesLE 2 (u64Of x.arg))) := by
                          simp [byteVals]
                        rw [e1, e2] at hown13
                        exact hown13
                      · show ∀ y ∈ _, okI y = true
                        rw [List.take_add_one, Hxk.out]
                        intro y hy
                        rcases List.mem_append.1 hy with h | h
                        · exact HOKS9.out y h
                        · simp at h; rw [h]; exact Hxok.out
                    · have hen : encI x = x.op :: bytesLE 1 (u64Of x.arg) := by simp [encI, hw]
                      have Hw := Lib.hid hw
                      have Hen := Lib.hid hen
                      clear hen hw
                      go_wp2_with fail
                      refine (refwidth_as x.op 1 _ Hw.out).mono ?_
                      rintro e w' ⟨rfl, rfl⟩
                      go_wp2_with fail
                      refine (low_any (u64Of x.arg) 1 w11 (by first | exact Hxw.out.imm | (unfold u64Of U64; rw [IntKind.wrap_u64]; omega)) (by omega)).mono ?_
                      rintro e w12 ⟨lv12, rfl, hown12, hb12⟩
                      obtain ⟨LA12, lc12, rfl, hlc12, hlm12, hR12⟩ := own_any hown12
                      have hO12 := own_kept' Hown11.out (below_grown hb12) (fun g h => by cases h)
                      have hb12' := Hb11.out.trans (hb12.mono hs11)
                      have hs12 := hb12'.size
                      unfold maxLen at hlm12
                      have HO12 := Lib.hid hO12
                      have HR12 := Lib.hid hR12
                      have Hb12' := Lib.hid hb12'
                      clear hb12' hR12 hO12
                      clear hown12 hb12 s0 s1 s2
                      go_wp2_with (first
                        | (at_builtin
                           refine wpList_append_any _ rfl (.tmp 142) (.tmp 147) _ rfl w.heap.size 5 i0 _ 1 1 Try.underlying22 hi0 hz0 hz1 hz2 rfl (by omega) v11 _ _ rfl HO12.out w12.heap.size LA12 1 lc12 (byteVals (bytesLE 1 (u64Of x.arg))) rfl HR12.out ?c1 ?c2 ?c3 ?c4 ?_
                           case c1 => exact byteVals_one _
                           case c2 => simp only [maxLen]; omega
                           case c3 => omega
                           case c4 => omega
                           intro v13 w13 hown13 hg13 hat13))
                      have hb13 := Hb12'.out.grown hg13 (by omega) (fun g e => (HO12.out.lt g e).1)
                      refine ⟨⟨q + 1, by omega, by go_num, ?_, hb13, ?_⟩, by simp [intOf]; omega⟩
                      · rw [encIs_snoc code q x Hxk.out, Hen.out]
                        have e1 : M + 6 + ln + ((code.take q).flatMap encI).length + 1 + 1 = M + 6 + ln + ((code.take q).flatMap encI ++ x.op :: bytesLE 1 (u64Of x.arg)).length := by
                          rw [List.length_append, List.length_cons, bytesLE_length]; omega
                        have e2 : byteVals (XS ++ encHead ⟨params, locals, false, keep, code⟩ ++ (code.take q).flatMap encI) ++ [.int .u8 x.op] ++ byteVals (bytesLE 1 (u64Of x.arg)) = byteVals (XS ++ encHead ⟨params, locals, false, keep, code⟩ ++ ((code.take q).flatMap encI ++ x.op :: bytesLE 1 (u64Of x.arg))) := by
                          simp [byteVals]
                        rw [e1, e2] at hown13
                        exact hown13
                      · show ∀ y ∈ _, okI y = true
                        rw [List.take_add_one, Hxk.out]
                        intro y hy
                        rcases List.mem_append.1 hy with h | h
                        · exact HOKS9.out y h
                        · simp at h; rw [h]; exact Hxok.out
                    · have hen : encI x = x.op :: bytesLE 0 (u64Of x.arg) := by simp [encI, hw]
                      have Hw := Lib.hid hw
                      have Hen := Lib.hid hen
                      clear hen hw
                      go_wp2_with fail
                      refine (refwidth_as x.op 0 _ Hw.out).mono ?_
                      rintro e w' ⟨rfl, rfl⟩
                      go_wp2_with fail
                      refine (low_any (u64Of x.arg) 0 w11 (by first | exact Hxw.out.imm | (unfold u64Of U64; rw [IntKind.wrap_u64]; omega)) (by omega)).mono ?_
                      rintro e w12 ⟨lv12, rfl, hown12, hb12⟩
                      obtain ⟨LA12, lc12, rfl, hlc12, hlm12, hR12⟩ := own_any hown12
                      have hO12 := own_kept' Hown11.out (below_grown hb12) (fun g h => by cases h)
                      have hb12' := Hb11.out.trans (hb12.mono hs11)
                      have hs12 := hb12'.size
                      unfold maxLen at hlm12
                      have HO12 := Lib.hid hO12
                      have HR12 := Lib.hid hR12
                      have Hb12' := Lib.hid hb12'
                      clear hb12' hR12 hO12
                      clear hown12 hb12 s0 s1 s2
                      go_wp2_with (first
                        | (at_builtin
                           refine wpList_append_any _ rfl (.tmp 142) (.tmp 147) _ rfl w.heap.size 5 i0 _ 1 1 Try.underlying22 hi0 hz0 hz1 hz2 rfl (by omega) v11 _ _ rfl HO12.out w12.heap.size LA12 0 lc12 (byteVals (bytesLE 0 (u64Of x.arg))) rfl HR12.out ?c1 ?c2 ?c3 ?c4 ?_
                           case c1 => exact byteVals_one _
                           case c2 => simp only [maxLen]; omega
                           case c3 => omega
                           case c4 => omega
                           intro v13 w13 hown13 hg13 hat13))
                      have hb13 := Hb12'.out.grown hg13 (by omega) (fun g e => (HO12.out.lt g e).1)
                      refine ⟨⟨q + 1, by omega, by go_num, ?_, hb13, ?_⟩, by simp [intOf]; omega⟩
                      · rw [encIs_snoc code q x Hxk.out, Hen.out]
                        have e1 : M + 6 + ln + ((code.take q).flatMap encI).length + 1 + 0 = M + 6 + ln + ((code.take q).flatMap encI ++ x.op :: bytesLE 0 (u64Of x.arg)).length := by
                          rw [List.length_append, List.length_cons, bytesLE_length]; omega
                        have e2 : byteVals (XS ++ encHead ⟨params, locals, false, keep, code⟩ ++ (code.take q).flatMap encI) ++ [.int .u8 x.op] ++ byteVals (bytesLE 0 (u64Of x.arg)) = byteVals (XS ++ encHead ⟨params, locals, false, keep, code⟩ ++ ((code.take q).flatMap encI ++ x.op :: bytesLE 0 (u64Of x.arg))) := by
                          simp [byteVals]
                        rw [e1, e2] at hown13
                        exact hown13
                      · show ∀ y ∈ _, okI y = true
                        rw [List.take_add_one, Hxk.out]
                        intro y hy
                        rcases List.mem_append.1 hy with h | h
                        · exact HOKS9.out y h
                        · simp at h; rw [h]; exact Hxok.out
                    · exfalso
                      have h := Hxok.out
                      simp [okI, hw] at h
                  · have hxno : okI x = false := by simpa using hxok
                    have hNO : okP fs = false := HnoF.out (by
                      unfold okF
                      have : code.all okI = false := by
                        rw [List.all_eq_false]
                        exact ⟨x, List.mem_of_getElem? Hxk.out, by simpa using hxok⟩
                      simp [this])
                    have HNO := Lib.hid hNO
                    clear hNO
                    rw [hxno]
                    clear hxok hxno
                    go_wp2_with fail
                    go_ret2
                    exact ⟨.inr ⟨HNO.out, rfl⟩, Hb10'.out⟩
                · have hqc : cn ≤ q := by omega
                  have hOKF : okF ⟨params, locals, false, keep, code⟩ = true := by
                    unfold okF
                    have h2 : code.all okI = true := by
                      rw [List.all_eq_true]
                      intro y hy
                      exact hoks9.out y (by rw [List.take_of_length_le (by have := Hm3.out; omega)]; exact hy)
                    simp only
                    rw [Hok.out, Hall.out, h2]; rfl
                  have hfin : wr.ownsRow w.heap.size 5 1 u4 (3 + ((fs.take (j + 1)).flatMap encF).length) (byteVals ([87, 76, (n : Int)] ++ (fs.take (j + 1)).flatMap encF)) := by
                    rw [List.take_of_length_le (by have := Hm3.out; omega)] at hown9
                    have e1 : (encHead ⟨params, locals, false, keep, code⟩).length = 6 + ln := by
                      simp only [encHead, List.length_append, bytesLE_length, List.length_cons, List.length_nil, Hl3.out]; omega
                    rw [Hsn.out, List.length_append, ← List.append_assoc, HPre.out, ← Nat.add_assoc, HLe.out, encF, List.length_append, ← List.append_assoc, e1, ← Nat.add_assoc, ← Nat.add_assoc]
                    exact hown9
                  have Hfin := Lib.hid hfin
                  have Hb9 := Lib.hid hb9
                  have HOKF := Lib.hid hOKF
                  clear hOKF hb9 hfin
                  clear hown9
                  go_wp2_with fail
                  exact ⟨⟨j + 1, by omega, by go_num, Hfin.out, Hb9.out, HyesF.out HOKF.out⟩, by simp [intOf]; omega⟩
            · have dk : decide ((0 : Int) ≤ (-1)) = false := by first | rfl | simpa using hk0
              have hby : byteOf (-1) = 255 := by unfold byteOf; rw [IntKind.wrap_u8']; omega
              have Hby := Lib.hid hby
              clear hby
              go_wp2_with (first
                | (at_builtin
                   refine wpList_append_any _ rfl (.tmp 105) (.tmp 108) _ rfl w.heap.size 5 i0 _ 1 1 Try.underlying22 hi0 hz0 hz1 hz2 rfl (by omega) u4 (M + 2 + ln) (byteVals (XS ++ [params, (ln : Int)] ++ locals)) rfl (Hown5.out.alloc _) (wr.heap.size + 1) (some ⟨wr.heap.size, 0, none⟩) 2 2 (byteVals [0, 255]) rfl ?c0 ?c1 ?c2 ?c3 ?c4 ?_
                   case c0 => exact Reads.newN _ (by simp) _ _ 2 _ rfl rfl
                   case c1 => exact byteVals_one _
                   case c2 => simp only [maxLen]; omega
                   case c3 => omega
                   case c4 => simp; omega
                   intro v6 w6 hown6 hg6 hat6
                   have hF6 := (HF3.out.alloc (.cells #[.int .u8 0, .int .u8 255] 5)).grown hg6 (Ne.symm (own_blk_ne Hown5.out HF3.out (by decide)))
                   have q4 := Blk.cell hF6 4
                   simp only [List.getElem?_toArray, List.getElem?_cons_zero, List.getElem?_cons_succ] at q4))
              have hb6 := (Hb3.out.alloc (by omega) (.cells #[.int .u8 0, .int .u8 255] 5)).grown hg6 (by simp; omega) (fun g e => (Hown5.out.lt g e).1)
              have hs6 := hb6.size
              have HF6 := Lib.hid hF6
              have Hb6 := Lib.hid hb6
              have Hown6 := Lib.hid hown6
              clear hown6 hb6 hF6
              clear hg6 hat6 q2 q3 q4 dk
              refine (low_any (cn : Int) 2 w6 (by unfold U64; omega) (by omega)).mono ?_
              rintro e w7 ⟨lv7, rfl, hown7, hb7⟩
              obtain ⟨LA7, lc7, rfl, hlc7, hlm7, hR7⟩ := own_any hown7
              have hO7 := own_kept' Hown6.out (below_grown hb7) (fun g h => by cases h)
              have hF7 := HF6.out.below hb7 HF6.out.lt
              have hb7' := Hb6.out.trans (hb7.mono hs6)
              have hs7 := hb7'.size
              unfold maxLen at hlm7
              have HO7 := Lib.hid hO7
              have HF7 := Lib.hid hF7
              have HR7 := Lib.hid hR7
              have Hb7' := Lib.hid hb7'
              clear hb7' hR7 hF7 hO7
              clear hown7 hb7
              go_wp2_with (first
                | (at_builtin
                   refine wpList_append_any _ rfl (.tmp 110) (.tmp 115) _ rfl w.heap.size 5 i0 _ 1 1 Try.underlying22 hi0 hz0 hz1 hz2 rfl (by omega) v6 (M + 2 + ln + 2) _ rfl HO7.out w7.heap.size LA7 2 lc7 (byteVals (bytesLE 2 (cn : Int))) rfl HR7.out ?c1 ?c2 ?c3 ?c4 ?_
                   case c1 => exact byteVals_one _
                   case c2 => simp only [maxLen]; omega
                   case c3 => omega
                   case c4 => omega
                   intro v8 w8 hown8 hg8 hat8
                   have hF8 := HF7.out.grown hg8 (Ne.symm (own_blk_ne HO7.out HF7.out (by decide)))
                   have q4 := Blk.cell hF8 4
                   simp only [List.getElem?_toArray, List.getElem?_cons_zero, List.getElem?_cons_succ] at q4))
              have hb8 := Hb7'.out.grown hg8 (by omega) (fun g e => (HO7.out.lt g e).1)
              have hst8 : w8.ownsRow w.heap.size 5 1 v8 (M + 6 + ln + ((code.take 0).flatMap encI).length) (byteVals (XS ++ encHead ⟨params, locals, false, (-1), code⟩ ++ (code.take 0).flatMap encI)) := by
                have e1 : M + 2 + ln + 2 + 2 = M + 6 + ln + ((code.take 0).flatMap encI).length := by simp; omega
                have e2 : byteVals (XS ++ [params, (ln : Int)] ++ locals) ++ byteVals [0, 255] ++ byteVals (bytesLE 2 (cn : Int)) = byteVals (XS ++ encHead ⟨params, locals, false, (-1), code⟩ ++ (code.take 0).flatMap encI) := by
                  rw [← byteVals_append, ← byteVals_append]
                  simp only [encHead, Hl3.out, Hm3.out, Hby.out, List.append_assoc, List.take_zero, List.flatMap_nil, List.append_nil]
                  rfl
                rw [e1, e2] at hown8
                exact hown8
              have Hb8 := Lib.hid hb8
              clear hb8
              clear hown8 hg8 hat8 hF8 q4
              go_loopw [4, 120] (fun s i wq => ∃ q : Nat, q ≤ cn ∧ i = .int .i64 q ∧ wq.ownsRow w.heap.size 5 1 s (M + 6 + ln + ((code.take q).flatMap encI).length) (byteVals (XS ++ encHead ⟨params, locals, false, (-1), code⟩ ++ (code.take q).flatMap encI)) ∧ Below w.heap.size w wq ∧ Hid (∀ x ∈ code.take q, okI x = true)) (fun _ i _ => cn - (intOf i).toNat)
              case atStart => exact ⟨0, by omega, rfl, hst8, Hb8.out, by intro x hx; simp at hx⟩
              case round =>
                obtain ⟨q, hq, rfl, hown9, hb9, hoks9⟩ := hrel
                clear hst8
                by_cases hlt3 : q < cn
                · obtain ⟨ad3, hA3, _, hcell⟩ := (Hm4.out.below hb9).2 (by omega)
                  subst hA3
                  obtain ⟨x, hxk⟩ : ∃ x, code[q]? = some x := ⟨_, List.getElem?_eq_getElem (by have := Hm3.out; omega)⟩
                  obtain ⟨f0, f1, f2⟩ := flatMap_three code q x hxk
                  have r0 := hcell _ _ f0
                  have r1 := hcell _ _ f1
                  have r2 := hcell _ _ f2
                  rw [← addr_sub ad3 _ 1 (by omega)] at r1
                  rw [← addr_sub ad3 _ 2 (by omega)] at r2
                  have hxw := Hfw.out.code x (List.mem_of_getElem? hxk)
                  have hlen9 : ((code.take q).flatMap encI).length ≤ 9 * q := by
                    have := encIs_le (code.take q); rw [List.length_take] at this; omega
                  have hs9 := hb9.size
                  have hbx := hb9.alloc hs9 (.cells #[.int .u8 x.op, .int .i64 x.arg, .int .u64 x.imm] 49)
                  have hG0 := Blk.new wr 49 #[.int .u8 x.op, .int .i64 x.arg, .int .u64 x.imm]
                  have hO9 := hown9.alloc (.cells #[.int .u8 x.op, .int .i64 x.arg, .int .u64 x.imm] 49)
                  have Hxk := Lib.hid hxk
                  have Hxw := Lib.hid hxw
                  have Hbx := Lib.hid hbx
                  have HG0 := Lib.hid hG0
                  have HO9 := Lib.hid hO9
                  have HOKS9 := Lib.hid hoks9
                  clear hoks9 hO9 hG0 hbx hxw hxk
                  clear hcell f0 f1 f2 hown9 hb9
                  go_wp2_with fail
                  refine (says_any x _).mono ?_
                  rintro e w10 ⟨rfl, hb10⟩
                  have hb10' := Hbx.out.trans (hb10.mono (by simp; omega))
                  have hs10 := hb10'.size
                  have hG10 := HG0.out.below hb10 (by simp)
                  have hO10 := own_kept' HO9.out (below_grown hb10) (fun g h => by cases h)
                  have t0 := Blk.cell hG10 0
                  simp only [List.getElem?_toArray, List.getElem?_cons_zero, List.getElem?_cons_succ] at t0
                  have Hb10' := Lib.hid hb10'
                  have HG10 := Lib.hid hG10
                  have HO10 := Lib.hid hO10
                  clear hO10 hG10 hb10'
                  clear hb10 r0 r1 r2
                  by_cases hxok : okI x = true
                  · rw [hxok]
                    have Hxok := Lib.hid hxok
                    clear hxok
                    go_wp2_with (first
                      | (at_builtin
                         refine wpList_append_any _ rfl (.tmp 127) (.tmp 130) _ rfl w.heap.size 5 i0 _ 1 1 Try.underlying22 hi0 hz0 hz1 hz2 rfl (by omega) u4 _ _ rfl (HO10.out.alloc _) (w10.heap.size + 1) (some ⟨w10.heap.size, 0, none⟩) 1 1 [.int .u8 x.op] rfl (Reads.newAt _ rfl _ _) ?c1 ?c2 ?c3 ?c4 ?_
                         case c1 => intro u hu; simp only [List.mem_singleton] at hu; subst hu; rfl
                         case c2 => simp only [maxLen]; omega
                         case c3 => omega
                         case c4 => simp; omega
                         intro v11 w11 hown11 hg11 hat11
                         have hG11 := (HG10.out.alloc (.cells #[.int .u8 x.op] 5)).grown hg11 (Ne.symm (own_blk_ne HO10.out HG10.out (by decide)))
                         have s0 := Blk.cell hG11 0
                         have s1 := Blk.cell hG11 1
                         have s2 := Blk.cell hG11 2
                         simp only [List.getElem?_toArray, List.getElem?_cons_zero, List.getElem?_cons_succ] at s0 s1 s2))
                    have hb11 := (Hb10'.out.alloc hs10 (.cells #[.int .u8 x.op] 5)).grown hg11 (by simp; omega) (fun g e => (HO10.out.lt g e).1)
                    have hs11 := hb11.size
                    have Hb11 := Lib.hid hb11
                    have Hown11 := Lib.hid hown11
                    clear hown11 hb11
                    clear hG11 hg11 hat11 t0
                    rcases width_cases x.op with hw | hw | hw | hw | hw
                    · have hen : encI x = x.op :: bytesLE 8 x.imm := by simp [encI, hw]
                      have Hw := Lib.hid hw
                      have Hen := Lib.hid hen
                      clear hen hw
                      go_wp2_with fail
                      refine (refwidth_as x.op 8 _ Hw.out).mono ?_
                      rintro e w' ⟨rfl, rfl⟩
                      go_wp2_with fail
                      refine (low_any x.imm 8 w11 (by first | exact Hxw.out.imm | (unfold u64Of U64; rw [IntKind.wrap_u64]; omega)) (by omega)).mono ?_
                      rintro e w12 ⟨lv12, rfl, hown12, hb12⟩
                      obtain ⟨LA12, lc12, rfl, hlc12, hlm12, hR12⟩ := own_any hown12
                      have hO12 := own_kept' Hown11.out (below_grown hb12) (fun g h => by cases h)
                      have hb12' := Hb11.out.trans (hb12.mono hs11)
                      have hs12 := hb12'.size
                      unfold maxLen at hlm12
                      have HO12 := Lib.hid hO12
                      have HR12 := Lib.hid hR12
                      have Hb12' := Lib.hid hb12'
                      clear hb12' hR12 hO12
                      clear hown12 hb12 s0 s1 s2
                      go_wp2_with (first
                        | (at_builtin
                           refine wpList_append_any _ rfl (.tmp 137) (.tmp 140) _ rfl w.heap.size 5 i0 _ 1 1 Try.underlying22 hi0 hz0 hz1 hz2 rfl (by omega) v11 _ _ rfl HO12.out w12.heap.size LA12 8 lc12 (byteVals (bytesLE 8 x.imm)) rfl HR12.out ?c1 ?c2 ?c3 ?c4 ?_
                           case c1 => exact byteVals_one _
                           case c2 => simp only [maxLen]; omega
                           case c3 => omega
                           case c4 => omega
                           intro v13 w13 hown13 hg13 hat13))
                      have hb13 := Hb12'.out.grown hg13 (by omega) (fun g e => (HO12.out.lt g e).1)
                      refine ⟨⟨q + 1, by omega, by go_num, ?_, hb13, ?_⟩, by simp [intOf]; omega⟩
                      · rw [encIs_snoc code q x Hxk.out, Hen.out]
                        have e1 : M + 6 + ln + ((code.take q).flatMap encI).length + 1 + 8 = M + 6 + ln + ((code.take q).flatMap encI ++ x.op :: bytesLE 8 x.imm).length := by
                          rw [List.length_append, List.length_cons, bytesLE_length]; omega
                        have e2 : byteVals (XS ++ encHead ⟨params, locals, false, (-1), code⟩ ++ (code.take q).flatMap encI) ++ [.int .u8 x.op] ++ byteVals (bytesLE 8 x.imm) = byteVals (XS ++ encHead ⟨params, locals, false, (-1), code⟩ ++ ((code.take q).flatMap encI ++ x.op :: bytesLE 8 x.imm)) := by
                          simp [byteVals]
                        rw [e1, e2] at hown13
                        exact hown13
                      · show ∀ y ∈ _, okI y = true
                        rw [List.take_add_one, Hxk.out]
                        intro y hy
                        rcases List.mem_append.1 hy with h | h
                        · exact HOKS9.out y h
                        · simp at h; rw [h]; exact Hxok.out
                    · have hen : encI x = x.op :: bytesLE 2 (u64Of x.arg) := by simp [encI, hw]
                      have Hw := Lib.hid hw
                      have Hen := Lib.hid hen
                      clear hen hw
                      go_wp2_with fail
                      refine (refwidth_as x.op 2 _ Hw.out).mono ?_
                      rintro e w' ⟨rfl, rfl⟩
                      go_wp2_with fail
                      refine (low_any (u64Of x.arg) 2 w11 (by first | exact Hxw.out.imm | (unfold u64Of U64; rw [IntKind.wrap_u64]; omega)) (by omega)).mono ?_
                      rintro e w12 ⟨lv12, rfl, hown12, hb12⟩
                      obtain ⟨LA12, lc12, rfl, hlc12, hlm12, hR12⟩ := own_any hown12
                      have hO12 := own_kept' Hown11.out (below_grown hb12) (fun g h => by cases h)
                      have hb12' := Hb11.out.trans (hb12.mono hs11)
                      have hs12 := hb12'.size
                      unfold maxLen at hlm12
                      have HO12 := Lib.hid hO12
                      have HR12 := Lib.hid hR12
                      have Hb12' := Lib.hid hb12'
                      clear hb12' hR12 hO12
                      clear hown12 hb12 s0 s1 s2
                      go_wp2_with (first
                        | (at_builtin
                           refine wpList_append_any _ rfl (.tmp 142) (.tmp 147) _ rfl w.heap.size 5 i0 _ 1 1 Try.underlying22 hi0 hz0 hz1 hz2 rfl (by omega) v11 _ _ rfl HO12.out w12.heap.size LA12 2 lc12 (byteVals (bytesLE 2 (u64Of x.arg))) rfl HR12.out ?c1 ?c2 ?c3 ?c4 ?_
                           case c1 => exact byteVals_one _
                           case c2 => simp only [maxLen]; omega
                           case c3 => omega
                           case c4 => omega
                           intro v13 w13 hown13 hg13 hat13))
                      have hb13 := Hb12'.out.grown hg13 (by omega) (fun g e => (HO12.out.lt g e).1)
                      refine ⟨⟨q + 1, by omega, by go_num, ?_, hb13, ?_⟩, by simp [intOf]; omega⟩
                      · rw [encIs_snoc code q x Hxk.out, Hen.out]
                        have e1 : M + 6 + ln + ((code.take q).flatMap encI).length + 1 + 2 = M + 6 + ln + ((code.take q).flatMap encI ++ x.op :: bytesLE 2 (u64Of x.arg)).length := by
                          rw [List.length_append, List.length_cons, bytesLE_length]; omega
                        have e2 : byteVals (XS ++ encHead ⟨params, locals, false, (-1), code⟩ ++ (code.take q).flatMap encI) ++ [.int .u8 x.op] ++ byteVals (bytesLE 2 (u64Of x.arg)) = byteVals (XS ++ encHead ⟨params, locals, false, (-1), code⟩ ++ ((code.take q).flatMap encI ++ x.op :: bytesLE 2 (u64Of x.arg))) := by
                          simp [byteVals]
                        rw [e1, e2] at hown13
                        exact hown13
                      · show ∀ y ∈ _, okI y = true
                        rw [List.take_add_one, Hxk.out]
                        intro y hy
                        rcases List.mem_append.1 hy with h | h
                        · exact HOKS9.out y h
                        · simp at h; rw [h]; exact Hxok.out
                    · have hen : encI x = x.op :: bytesLE 1 (u64Of x.arg) := by simp [encI, hw]
                      have Hw := Lib.hid hw
                      have Hen := Lib.hid hen
                      clear hen hw
                      go_wp2_with fail
                      refine (refwidth_as x.op 1 _ Hw.out).mono ?_
                      rintro e w' ⟨rfl, rfl⟩
                      go_wp2_with fail
                      refine (low_any (u64Of x.arg) 1 w11 (by first | exact Hxw.out.imm | (unfold u64Of U64; rw [IntKind.wrap_u64]; omega)) (by omega)).mono ?_
                      rintro e w12 ⟨lv12, rfl, hown12, hb12⟩
                      obtain ⟨LA12, lc12, rfl, hlc12, hlm12, hR12⟩ := own_any hown12
                      have hO12 := own_kept' Hown11.out (below_grown hb12) (fun g h => by cases h)
                      have hb12' := Hb11.out.trans (hb12.mono hs11)
                      have hs12 := hb12'.size
                      unfold maxLen at hlm12
                      have HO12 := Lib.hid hO12
                      have HR12 := Lib.hid hR12
                      have Hb12' := Lib.hid hb12'
                      clear hb12' hR12 hO12
                      clear hown12 hb12 s0 s1 s2
                      go_wp2_with (first
                        | (at_builtin
                           refine wpList_append_any _ rfl (.tmp 142) (.tmp 147) _ rfl w.heap.size 5 i0 _ 1 1 Try.underlying22 hi0 hz0 hz1 hz2 rfl (by omega) v11 _ _ rfl HO12.out w12.heap.size LA12 1 lc12 (byteVals (bytesLE 1 (u64Of x.arg))) rfl HR12.out ?c1 ?c2 ?c3 ?c4 ?_
                           case c1 => exact byteVals_one _
                           case c2 => simp only [maxLen]; omega
                           case c3 => omega
                           case c4 => omega
                           intro v13 w13 hown13 hg13 hat13))
                      have hb13 := Hb12'.out.grown hg13 (by omega) (fun g e => (HO12.out.lt g e).1)
                      refine ⟨⟨q + 1, by omega, by go_num, ?_, hb13, ?_⟩, by simp [intOf]; omega⟩
                      · rw [encIs_snoc code q x Hxk.out, Hen.out]
                        have e1 : M + 6 + ln + ((code.take q).flatMap encI).length + 1 + 1 = M + 6 + ln + ((code.take q).flatMap encI ++ x.op :: bytesLE 1 (u64Of x.arg)).length := by
                          rw [List.length_append, List.length_cons, bytesLE_length]; omega
                        have e2 : byteVals (XS ++ encHead ⟨params, locals, false, (-1), code⟩ ++ (code.take q).flatMap encI) ++ [.int .u8 x.op] ++ byteVals (bytesLE 1 (u64Of x.arg)) = byteVals (XS ++ encHead ⟨params, locals, false, (-1), code⟩ ++ ((code.take q).flatMap encI ++ x.op :: bytesLE 1 (u64Of x.arg))) := by
                          simp [byteVals]
                        rw [e1, e2] at hown13
                        exact hown13
                      · show ∀ y ∈ _, okI y = true
                        rw [List.take_add_one, Hxk.out]
                        intro y hy
                        rcases List.mem_append.1 hy with h | h
                        · exact HOKS9.out y h
                        · simp at h; rw [h]; exact Hxok.out
                    · have hen : encI x = x.op :: bytesLE 0 (u64Of x.arg) := by simp [encI, hw]
                      have Hw := Lib.hid hw
                      have Hen := Lib.hid hen
                      clear hen hw
                      go_wp2_with fail
                      refine (refwidth_as x.op 0 _ Hw.out).mono ?_
                      rintro e w' ⟨rfl, rfl⟩
                      go_wp2_with fail
                      refine (low_any (u64Of x.arg) 0 w11 (by first | exact Hxw.out.imm | (unfold u64Of U64; rw [IntKind.wrap_u64]; omega)) (by omega)).mono ?_
                      rintro e w12 ⟨lv12, rfl, hown12, hb12⟩
                      obtain ⟨LA12, lc12, rfl, hlc12, hlm12, hR12⟩ := own_any hown12
                      have hO12 := own_kept' Hown11.out (below_grown hb12) (fun g h => by cases h)
                      have hb12' := Hb11.out.trans (hb12.mono hs11)
                      have hs12 := hb12'.size
                      unfold maxLen at hlm12
                      have HO12 := Lib.hid hO12
                      have HR12 := Lib.hid hR12
                      have Hb12' := Lib.hid hb12'
                      clear hb12' hR12 hO12
                      clear hown12 hb12 s0 s1 s2
                      go_wp2_with (first
                        | (at_builtin
                           refine wpList_append_any _ rfl (.tmp 142) (.tmp 147) _ rfl w.heap.size 5 i0 _ 1 1 Try.underlying22 hi0 hz0 hz1 hz2 rfl (by omega) v11 _ _ rfl HO12.out w12.heap.size LA12 0 lc12 (byteVals (bytesLE 0 (u64Of x.arg))) rfl HR12.out ?c1 ?c2 ?c3 ?c4 ?_
                           case c1 => exact byteVals_one _
                           case c2 => simp only [maxLen]; omega
                           case c3 => omega
                           case c4 => omega
                           intro v13 w13 hown13 hg13 hat13))
                      have hb13 := Hb12'.out.grown hg13 (by omega) (fun g e => (HO12.out.lt g e).1)
                      refine ⟨⟨q + 1, by omega, by go_num, ?_, hb13, ?_⟩, by simp [intOf]; omega⟩
                      · rw [encIs_snoc code q x Hxk.out, Hen.out]
                        have e1 : M + 6 + ln + ((code.take q).flatMap encI).length + 1 + 0 = M + 6 + ln + ((code.take q).flatMap encI ++ x.op :: bytesLE 0 (u64Of x.arg)).length := by
                          rw [List.length_append, List.length_cons, bytesLE_length]; omega
                        have e2 : byteVals (XS ++ encHead ⟨params, locals, false, (-1), code⟩ ++ (code.take q).flatMap encI) ++ [.int .u8 x.op] ++ byteVals (bytesLE 0 (u64Of x.arg)) = byteVals (XS ++ encHead ⟨params, locals, false, (-1), code⟩ ++ ((code.take q).flatMap encI ++ x.op :: bytesLE 0 (u64Of x.arg))) := by
                          simp [byteVals]
                        rw [e1, e2] at hown13
                        exact hown13
                      · show ∀ y ∈ _, okI y = true
                        rw [List.take_add_one, Hxk.out]
                        intro y hy
                        rcases List.mem_append.1 hy with h | h
                        · exact HOKS9.out y h
                        · simp at h; rw [h]; exact Hxok.out
                    · exfalso
                      have h := Hxok.out
                      simp [okI, hw] at h
                  · have hxno : okI x = false := by simpa using hxok
                    have hNO : okP fs = false := HnoF.out (by
                      unfold okF
                      have : code.all okI = false := by
                        rw [List.all_eq_false]
                        exact ⟨x, List.mem_of_getElem? Hxk.out, by simpa using hxok⟩
                      simp [this])
                    have HNO := Lib.hid hNO
                    clear hNO
                    rw [hxno]
                    clear hxok hxno
                    go_wp2_with fail
                    go_ret2
                    exact ⟨.inr ⟨HNO.out, rfl⟩, Hb10'.out⟩
                · have hqc : cn ≤ q := by omega
                  have hOKF : okF ⟨params, locals, false, (-1), code⟩ = true := by
                    unfold okF
                    have h2 : code.all okI = true := by
                      rw [List.all_eq_true]
                      intro y hy
                      exact hoks9.out y (by rw [List.take_of_length_le (by have := Hm3.out; omega)]; exact hy)
                    simp only
                    rw [Hok.out, Hall.out, h2]; rfl
                  have hfin : wr.ownsRow w.heap.size 5 1 u4 (3 + ((fs.take (j + 1)).flatMap encF).length) (byteVals ([87, 76, (n : Int)] ++ (fs.take (j + 1)).flatMap encF)) := by
                    rw [List.take_of_length_le (by have := Hm3.out; omega)] at hown9
                    have e1 : (encHead ⟨params, locals, false, (-1), code⟩).length = 6 + ln := by
                      simp only [encHead, List.length_append, bytesLE_length, List.length_cons, List.length_nil, Hl3.out]; omega
                    rw [Hsn.out, List.length_append, ← List.append_assoc, HPre.out, ← Nat.add_assoc, HLe.out, encF, List.length_append, ← List.append_assoc, e1, ← Nat.add_assoc, ← Nat.add_assoc]
                    exact hown9
                  have Hfin := Lib.hid hfin
                  have Hb9 := Lib.hid hb9
                  have HOKF := Lib.hid hOKF
                  clear hOKF hb9 hfin
                  clear hown9
                  go_wp2_with fail
                  exact ⟨⟨j + 1, by omega, by go_num, Hfin.out, Hb9.out, HyesF.out HOKF.out⟩, by simp [intOf]; omega⟩
            · have dk : decide ((0 : Int) ≤ keep) = true := by first | rfl | simpa using hk0
              have hby : byteOf keep = keep := by unfold byteOf; rw [IntKind.wrap_u8']; omega
              have Hby := Lib.hid hby
              clear hby
              go_wp2_with (first
                | (at_builtin
                   refine wpList_append_any _ rfl (.tmp 105) (.tmp 108) _ rfl w.heap.size 5 i0 _ 1 1 Try.underlying22 hi0 hz0 hz1 hz2 rfl (by omega) u4 (M + 2 + ln) (byteVals (XS ++ [params, (ln : Int)] ++ locals)) rfl (Hown5.out.alloc _) (wr.heap.size + 1) (some ⟨wr.heap.size, 0, none⟩) 2 2 (byteVals [1, keep]) rfl ?c0 ?c1 ?c2 ?c3 ?c4 ?_
                   case c0 => exact Reads.newN _ (by simp) _ _ 2 _ rfl rfl
                   case c1 => exact byteVals_one _
                   case c2 => simp only [maxLen]; omega
                   case c3 => omega
                   case c4 => simp; omega
                   intro v6 w6 hown6 hg6 hat6
                   have hF6 := (HF3.out.alloc (.cells #[.int .u8 1, .int .u8 keep] 5)).grown hg6 (Ne.symm (own_blk_ne Hown5.out HF3.out (by decide)))
                   have q4 := Blk.cell hF6 4
                   simp only [List.getElem?_toArray, List.getElem?_cons_zero, List.getElem?_cons_succ] at q4))
              have hb6 := (Hb3.out.alloc (by omega) (.cells #[.int .u8 1, .int .u8 keep] 5)).grown hg6 (by simp; omega) (fun g e => (Hown5.out.lt g e).1)
              have hs6 := hb6.size
              have HF6 := Lib.hid hF6
              have Hb6 := Lib.hid hb6
              have Hown6 := Lib.hid hown6
              clear hown6 hb6 hF6
              clear hg6 hat6 q2 q3 q4 dk
              refine (low_any (cn : Int) 2 w6 (by unfold U64; omega) (by omega)).mono ?_
              rintro e w7 ⟨lv7, rfl, hown7, hb7⟩
              obtain ⟨LA7, lc7, rfl, hlc7, hlm7, hR7⟩ := own_any hown7
              have hO7 := own_kept' Hown6.out (below_grown hb7) (fun g h => by cases h)
              have hF7 := HF6.out.below hb7 HF6.out.lt
              have hb7' := Hb6.out.trans (hb7.mono hs6)
              have hs7 := hb7'.size
              unfold maxLen at hlm7
              have HO7 := Lib.hid hO7
              have HF7 := Lib.hid hF7
              have HR7 := Lib.hid hR7
              have Hb7' := Lib.hid hb7'
              clear hb7' hR7 hF7 hO7
              clear hown7 hb7
              go_wp2_with (first
                | (at_builtin
                   refine wpList_append_any _ rfl (.tmp 110) (.tmp 115) _ rfl w.heap.size 5 i0 _ 1 1 Try.underlying22 hi0 hz0 hz1 hz2 rfl (by omega) v6 (M + 2 + ln + 2) _ rfl HO7.out w7.heap.size LA7 2 lc7 (byteVals (bytesLE 2 (cn : Int))) rfl HR7.out ?c1 ?c2 ?c3 ?c4 ?_
                   case c1 => exact byteVals_one _
                   case c2 => simp only [maxLen]; omega
                   case c3 => omega
                   case c4 => omega
                   intro v8 w8 hown8 hg8 hat8
                   have hF8 := HF7.out.grown hg8 (Ne.symm (own_blk_ne HO7.out HF7.out (by decide)))
                   have q4 := Blk.cell hF8 4
                   simp only [List.getElem?_toArray, List.getElem?_cons_zero, List.getElem?_cons_succ] at q4))
              have hb8 := Hb7'.out.grown hg8 (by omega) (fun g e => (HO7.out.lt g e).1)
              have hst8 : w8.ownsRow w.heap.size 5 1 v8 (M + 6 + ln + ((code.take 0).flatMap encI).length) (byteVals (XS ++ encHead ⟨params, locals, true, keep, code⟩ ++ (code.take 0).flatMap encI)) := by
                have e1 : M + 2 + ln + 2 + 2 = M + 6 + ln + ((code.take 0).flatMap encI).length := by simp; omega
                have e2 : byteVals (XS ++ [params, (ln : Int)] ++ locals) ++ byteVals [1, keep] ++ byteVals (bytesLE 2 (cn : Int)) = byteVals (XS ++ encHead ⟨params, locals, true, keep, code⟩ ++ (code.take 0).flatMap encI) := by
                  rw [← byteVals_append, ← byteVals_append]
                  simp only [encHead, Hl3.out, Hm3.out, Hby.out, List.append_assoc, List.take_zero, List.flatMap_nil, List.append_nil]
                  rfl
                rw [e1, e2] at hown8
                exact hown8
              have Hb8 := Lib.hid hb8
              clear hb8
              clear hown8 hg8 hat8 hF8 q4
              go_loopw [4, 120] (fun s i wq => ∃ q : Nat, q ≤ cn ∧ i = .int .i64 q ∧ wq.ownsRow w.heap.size 5 1 s (M + 6 + ln + ((code.take q).flatMap encI).length) (byteVals (XS ++ encHead ⟨params, locals, true, keep, code⟩ ++ (code.take q).flatMap encI)) ∧ Below w.heap.size w wq ∧ Hid (∀ x ∈ code.take q, okI x = true)) (fun _ i _ => cn - (intOf i).toNat)
              case atStart => exact ⟨0, by omega, rfl, hst8, Hb8.out, by intro x hx; simp at hx⟩
              case round =>
                obtain ⟨q, hq, rfl, hown9, hb9, hoks9⟩ := hrel
                clear hst8
                by_cases hlt3 : q < cn
                · obtain ⟨ad3, hA3, _, hcell⟩ := (Hm4.out.below hb9).2 (by omega)
                  subst hA3
                  obtain ⟨x, hxk⟩ : ∃ x, code[q]? = some x := ⟨_, List.getElem?_eq_getElem (by have := Hm3.out; omega)⟩
                  obtain ⟨f0, f1, f2⟩ := flatMap_three code q x hxk
                  have r0 := hcell _ _ f0
                  have r1 := hcell _ _ f1
                  have r2 := hcell _ _ f2
                  rw [← addr_sub ad3 _ 1 (by omega)] at r1
                  rw [← addr_sub ad3 _ 2 (by omega)] at r2
                  have hxw := Hfw.out.code x (List.mem_of_getElem? hxk)
                  have hlen9 : ((code.take q).flatMap encI).length ≤ 9 * q := by
                    have := encIs_le (code.take q); rw [List.length_take] at this; omega
                  have hs9 := hb9.size
                  have hbx := hb9.alloc hs9 (.cells #[.int .u8 x.op, .int .i64 x.arg, .int .u64 x.imm] 49)
                  have hG0 := Blk.new wr 49 #[.int .u8 x.op, .int .i64 x.arg, .int .u64 x.imm]
                  have hO9 := hown9.alloc (.cells #[.int .u8 x.op, .int .i64 x.arg, .int .u64 x.imm] 49)
                  have Hxk := Lib.hid hxk
                  have Hxw := Lib.hid hxw
                  have Hbx := Lib.hid hbx
                  have HG0 := Lib.hid hG0
                  have HO9 := Lib.hid hO9
                  have HOKS9 := Lib.hid hoks9
                  clear hoks9 hO9 hG0 hbx hxw hxk
                  clear hcell f0 f1 f2 hown9 hb9
                  go_wp2_with fail
                  refine (says_any x _).mono ?_
                  rintro e w10 ⟨rfl, hb10⟩
                  have hb10' := Hbx.out.trans (hb10.mono (by simp; omega))
                  have hs10 := hb10'.size
                  have hG10 := HG0.out.below hb10 (by simp)
                  have hO10 := own_kept' HO9.out (below_grown hb10) (fun g h => by cases h)
                  have t0 := Blk.cell hG10 0
                  simp only [List.getElem?_toArray, List.getElem?_cons_zero, List.getElem?_cons_succ] at t0
                  have Hb10' := Lib.hid hb10'
                  have HG10 := Lib.hid hG10
                  have HO10 := Lib.hid hO10
                  clear hO10 hG10 hb10'
                  clear hb10 r0 r1 r2
                  by_cases hxok : okI x = true
                  · rw [hxok]
                    have Hxok := Lib.hid hxok
                    clear hxok
                    go_wp2_with (first
                      | (at_builtin
                         refine wpList_append_any _ rfl (.tmp 127) (.tmp 130) _ rfl w.heap.size 5 i0 _ 1 1 Try.underlying22 hi0 hz0 hz1 hz2 rfl (by omega) u4 _ _ rfl (HO10.out.alloc _) (w10.heap.size + 1) (some ⟨w10.heap.size, 0, none⟩) 1 1 [.int .u8 x.op] rfl (Reads.newAt _ rfl _ _) ?c1 ?c2 ?c3 ?c4 ?_
                         case c1 => intro u hu; simp only [List.mem_singleton] at hu; subst hu; rfl
                         case c2 => simp only [maxLen]; omega
                         case c3 => omega
                         case c4 => simp; omega
                         intro v11 w11 hown11 hg11 hat11
                         have hG11 := (HG10.out.alloc (.cells #[.int .u8 x.op] 5)).grown hg11 (Ne.symm (own_blk_ne HO10.out HG10.out (by decide)))
                         have s0 := Blk.cell hG11 0
                         have s1 := Blk.cell hG11 1
                         have s2 := Blk.cell hG11 2
                         simp only [List.getElem?_toArray, List.getElem?_cons_zero, List.getElem?_cons_succ] at s0 s1 s2))
                    have hb11 := (Hb10'.out.alloc hs10 (.cells #[.int .u8 x.op] 5)).grown hg11 (by simp; omega) (fun g e => (HO10.out.lt g e).1)
                    have hs11 := hb11.size
                    have Hb11 := Lib.hid hb11
                    have Hown11 := Lib.hid hown11
                    clear hown11 hb11
                    clear hG11 hg11 hat11 t0
                    rcases width_cases x.op with hw | hw | hw | hw | hw
                    · have hen : encI x = x.op :: bytesLE 8 x.imm := by simp [encI, hw]
                      have Hw := Lib.hid hw
                      have Hen := Lib.hid hen
                      clear hen hw
                      go_wp2_with fail
                      refine (refwidth_as x.op 8 _ Hw.out).mono ?_
                      rintro e w' ⟨rfl, rfl⟩
                      go_wp2_with fail
                      refine (low_any x.imm 8 w11 (by first | exact Hxw.out.imm | (unfold u64Of U64; rw [IntKind.wrap_u64]; omega)) (by omega)).mono ?_
                      rintro e w12 ⟨lv12, rfl, hown12, hb12⟩
                      obtain ⟨LA12, lc12, rfl, hlc12, hlm12, hR12⟩ := own_any hown12
                      have hO12 := own_kept' Hown11.out (below_grown hb12) (fun g h => by cases h)
                      have hb12' := Hb11.out.trans (hb12.mono hs11)
                      have hs12 := hb12'.size
                      unfold maxLen at hlm12
                      have HO12 := Lib.hid hO12
                      have HR12 := Lib.hid hR12
                      have Hb12' := Lib.hid hb12'
                      clear hb12' hR12 hO12
                      clear hown12 hb12 s0 s1 s2
                      go_wp2_with (first
                        | (at_builtin
                           refine wpList_append_any _ rfl (.tmp 137) (.tmp 140) _ rfl w.heap.size 5 i0 _ 1 1 Try.underlying22 hi0 hz0 hz1 hz2 rfl (by omega) v11 _ _ rfl HO12.out w12.heap.size LA12 8 lc12 (byteVals (bytesLE 8 x.imm)) rfl HR12.out ?c1 ?c2 ?c3 ?c4 ?_
                           case c1 => exact byteVals_one _
                           case c2 => simp only [maxLen]; omega
                           case c3 => omega
                           case c4 => omega
                           intro v13 w13 hown13 hg13 hat13))
                      have hb13 := Hb12'.out.grown hg13 (by omega) (fun g e => (HO12.out.lt g e).1)
                      refine ⟨⟨q + 1, by omega, by go_num, ?_, hb13, ?_⟩, by simp [intOf]; omega⟩
                      · rw [encIs_snoc code q x Hxk.out, Hen.out]
                        have e1 : M + 6 + ln + ((code.take q).flatMap encI).length + 1 + 8 = M + 6 + ln + ((code.take q).flatMap encI ++ x.op :: bytesLE 8 x.imm).length := by
                          rw [List.length_append, List.length_cons, bytesLE_length]; omega
                        have e2 : byteVals (XS ++ encHead ⟨params, locals, true, keep, code⟩ ++ (code.take q).flatMap encI) ++ [.int .u8 x.op] ++ byteVals (bytesLE 8 x.imm) = byteVals (XS ++ encHead ⟨params, locals, true, keep, code⟩ ++ ((code.take q).flatMap encI ++ x.op :: bytesLE 8 x.imm)) := by
                          simp [byteVals]
                        rw [e1, e2] at hown13
                        exact hown13
                      · show ∀ y ∈ _, okI y = true
                        rw [List.take_add_one, Hxk.out]
                        intro y hy
                        rcases List.mem_append.1 hy with h | h
                        · exact HOKS9.out y h
                        · simp at h; rw [h]; exact Hxok.out
                    · have hen : encI x = x.op :: bytesLE 2 (u64Of x.arg) := by simp [encI, hw]
                      have Hw := Lib.hid hw
                      have Hen := Lib.hid hen
                      clear hen hw
                      go_wp2_with fail
                      refine (refwidth_as x.op 2 _ Hw.out).mono ?_
                      rintro e w' ⟨rfl, rfl⟩
                      go_wp2_with fail
                      refine (low_any (u64Of x.arg) 2 w11 (by first | exact Hxw.out.imm | (unfold u64Of U64; rw [IntKind.wrap_u64]; omega)) (by omega)).mono ?_
                      rintro e w12 ⟨lv12, rfl, hown12, hb12⟩
                      obtain ⟨LA12, lc12, rfl, hlc12, hlm12, hR12⟩ := own_any hown12
                      have hO12 := own_kept' Hown11.out (below_grown hb12) (fun g h => by cases h)
                      have hb12' := Hb11.out.trans (hb12.mono hs11)
                      have hs12 := hb12'.size
                      unfold maxLen at hlm12
                      have HO12 := Lib.hid hO12
                      have HR12 := Lib.hid hR12
                      have Hb12' := Lib.hid hb12'
                      clear hb12' hR12 hO12
                      clear hown12 hb12 s0 s1 s2
                      go_wp2_with (first
                        | (at_builtin
                           refine wpList_append_any _ rfl (.tmp 142) (.tmp 147) _ rfl w.heap.size 5 i0 _ 1 1 Try.underlying22 hi0 hz0 hz1 hz2 rfl (by omega) v11 _ _ rfl HO12.out w12.heap.size LA12 2 lc12 (byteVals (bytesLE 2 (u64Of x.arg))) rfl HR12.out ?c1 ?c2 ?c3 ?c4 ?_
                           case c1 => exact byteVals_one _
                           case c2 => simp only [maxLen]; omega
                           case c3 => omega
                           case c4 => omega
                           intro v13 w13 hown13 hg13 hat13))
                      have hb13 := Hb12'.out.grown hg13 (by omega) (fun g e => (HO12.out.lt g e).1)
                      refine ⟨⟨q + 1, by omega, by go_num, ?_, hb13, ?_⟩, by simp [intOf]; omega⟩
                      · rw [encIs_snoc code q x Hxk.out, Hen.out]
                        have e1 : M + 6 + ln + ((code.take q).flatMap encI).length + 1 + 2 = M + 6 + ln + ((code.take q).flatMap encI ++ x.op :: bytesLE 2 (u64Of x.arg)).length := by
                          rw [List.length_append, List.length_cons, bytesLE_length]; omega
                        have e2 : byteVals (XS ++ encHead ⟨params, locals, true, keep, code⟩ ++ (code.take q).flatMap encI) ++ [.int .u8 x.op] ++ byteVals (bytesLE 2 (u64Of x.arg)) = byteVals (XS ++ encHead ⟨params, locals, true, keep, code⟩ ++ ((code.take q).flatMap encI ++ x.op :: bytesLE 2 (u64Of x.arg))) := by
                          simp [byteVals]
                        rw [e1, e2] at hown13
                        exact hown13
                      · show ∀ y ∈ _, okI y = true
                        rw [List.take_add_one, Hxk.out]
                        intro y hy
                        rcases List.mem_append.1 hy with h | h
                        · exact HOKS9.out y h
                        · simp at h; rw [h]; exact Hxok.out
                    · have hen : encI x = x.op :: bytesLE 1 (u64Of x.arg) := by simp [encI, hw]
                      have Hw := Lib.hid hw
                      have Hen := Lib.hid hen
                      clear hen hw
                      go_wp2_with fail
                      refine (refwidth_as x.op 1 _ Hw.out).mono ?_
                      rintro e w' ⟨rfl, rfl⟩
                      go_wp2_with fail
                      refine (low_any (u64Of x.arg) 1 w11 (by first | exact Hxw.out.imm | (unfold u64Of U64; rw [IntKind.wrap_u64]; omega)) (by omega)).mono ?_
                      rintro e w12 ⟨lv12, rfl, hown12, hb12⟩
                      obtain ⟨LA12, lc12, rfl, hlc12, hlm12, hR12⟩ := own_any hown12
                      have hO12 := own_kept' Hown11.out (below_grown hb12) (fun g h => by cases h)
                      have hb12' := Hb11.out.trans (hb12.mono hs11)
                      have hs12 := hb12'.size
                      unfold maxLen at hlm12
                      have HO12 := Lib.hid hO12
                      have HR12 := Lib.hid hR12
                      have Hb12' := Lib.hid hb12'
                      clear hb12' hR12 hO12
                      clear hown12 hb12 s0 s1 s2
                      go_wp2_with (first
                        | (at_builtin
                           refine wpList_append_any _ rfl (.tmp 142) (.tmp 147) _ rfl w.heap.size 5 i0 _ 1 1 Try.underlying22 hi0 hz0 hz1 hz2 rfl (by omega) v11 _ _ rfl HO12.out w12.heap.size LA12 1 lc12 (byteVals (bytesLE 1 (u64Of x.arg))) rfl HR12.out ?c1 ?c2 ?c3 ?c4 ?_
                           case c1 => exact byteVals_one _
                           case c2 => simp only [maxLen]; omega
                           case c3 => omega
                           case c4 => omega
                           intro v13 w13 hown13 hg13 hat13))
                      have hb13 := Hb12'.out.grown hg13 (by omega) (fun g e => (HO12.out.lt g e).1)
                      refine ⟨⟨q + 1, by omega, by go_num, ?_, hb13, ?_⟩, by simp [intOf]; omega⟩
                      · rw [encIs_snoc code q x Hxk.out, Hen.out]
                        have e1 : M + 6 + ln + ((code.take q).flatMap encI).length + 1 + 1 = M + 6 + ln + ((code.take q).flatMap encI ++ x.op :: bytesLE 1 (u64Of x.arg)).length := by
                          rw [List.length_append, List.length_cons, bytesLE_length]; omega
                        have e2 : byteVals (XS ++ encHead ⟨params, locals, true, keep, code⟩ ++ (code.take q).flatMap encI) ++ [.int .u8 x.op] ++ byteVals (bytesLE 1 (u64Of x.arg)) = byteVals (XS ++ encHead ⟨params, locals, true, keep, code⟩ ++ ((code.take q).flatMap encI ++ x.op :: bytesLE 1 (u64Of x.arg))) := by
                          simp [byteVals]
                        rw [e1, e2] at hown13
                        exact hown13
                      · show ∀ y ∈ _, okI y = true
                        rw [List.take_add_one, Hxk.out]
                        intro y hy
                        rcases List.mem_append.1 hy with h | h
                        · exact HOKS9.out y h
                        · simp at h; rw [h]; exact Hxok.out
                    · have hen : encI x = x.op :: bytesLE 0 (u64Of x.arg) := by simp [encI, hw]
                      have Hw := Lib.hid hw
                      have Hen := Lib.hid hen
                      clear hen hw
                      go_wp2_with fail
                      refine (refwidth_as x.op 0 _ Hw.out).mono ?_
                      rintro e w' ⟨rfl, rfl⟩
                      go_wp2_with fail
                      refine (low_any (u64Of x.arg) 0 w11 (by first | exact Hxw.out.imm | (unfold u64Of U64; rw [IntKind.wrap_u64]; omega)) (by omega)).mono ?_
                      rintro e w12 ⟨lv12, rfl, hown12, hb12⟩
                      obtain ⟨LA12, lc12, rfl, hlc12, hlm12, hR12⟩ := own_any hown12
                      have hO12 := own_kept' Hown11.out (below_grown hb12) (fun g h => by cases h)
                      have hb12' := Hb11.out.trans (hb12.mono hs11)
                      have hs12 := hb12'.size
                      unfold maxLen at hlm12
                      have HO12 := Lib.hid hO12
                      have HR12 := Lib.hid hR12
                      have Hb12' := Lib.hid hb12'
                      clear hb12' hR12 hO12
                      clear hown12 hb12 s0 s1 s2
                      go_wp2_with (first
                        | (at_builtin
                           refine wpList_append_any _ rfl (.tmp 142) (.tmp 147) _ rfl w.heap.size 5 i0 _ 1 1 Try.underlying22 hi0 hz0 hz1 hz2 rfl (by omega) v11 _ _ rfl HO12.out w12.heap.size LA12 0 lc12 (byteVals (bytesLE 0 (u64Of x.arg))) rfl HR12.out ?c1 ?c2 ?c3 ?c4 ?_
                           case c1 => exact byteVals_one _
                           case c2 => simp only [maxLen]; omega
                           case c3 => omega
                           case c4 => omega
                           intro v13 w13 hown13 hg13 hat13))
                      have hb13 := Hb12'.out.grown hg13 (by omega) (fun g e => (HO12.out.lt g e).1)
                      refine ⟨⟨q + 1, by omega, by go_num, ?_, hb13, ?_⟩, by simp [intOf]; omega⟩
                      · rw [encIs_snoc code q x Hxk.out, Hen.out]
                        have e1 : M + 6 + ln + ((code.take q).flatMap encI).length + 1 + 0 = M + 6 + ln + ((code.take q).flatMap encI ++ x.op :: bytesLE 0 (u64Of x.arg)).length := by
                          rw [List.length_append, List.length_cons, bytesLE_length]; omega
                        have e2 : byteVals (XS ++ encHead ⟨params, locals, true, keep, code⟩ ++ (code.take q).flatMap encI) ++ [.int .u8 x.op] ++ byteVals (bytesLE 0 (u64Of x.arg)) = byteVals (XS ++ encHead ⟨params, locals, true, keep, code⟩ ++ ((code.take q).flatMap encI ++ x.op :: bytesLE 0 (u64Of x.arg))) := by
                          simp [byteVals]
                        rw [e1, e2] at hown13
                        exact hown13
                      · show ∀ y ∈ _, okI y = true
                        rw [List.take_add_one, Hxk.out]
                        intro y hy
                        rcases List.mem_append.1 hy with h | h
                        · exact HOKS9.out y h
                        · simp at h; rw [h]; exact Hxok.out
                    · exfalso
                      have h := Hxok.out
                      simp [okI, hw] at h
                  · have hxno : okI x = false := by simpa using hxok
                    have hNO : okP fs = false := HnoF.out (by
                      unfold okF
                      have : code.all okI = false := by
                        rw [List.all_eq_false]
                        exact ⟨x, List.mem_of_getElem? Hxk.out, by simpa using hxok⟩
                      simp [this])
                    have HNO := Lib.hid hNO
                    clear hNO
                    rw [hxno]
                    clear hxok hxno
                    go_wp2_with fail
                    go_ret2
                    exact ⟨.inr ⟨HNO.out, rfl⟩, Hb10'.out⟩
                · have hqc : cn ≤ q := by omega
                  have hOKF : okF ⟨params, locals, true, keep, code⟩ = true := by
                    unfold okF
                    have h2 : code.all okI = true := by
                      rw [List.all_eq_true]
                      intro y hy
                      exact hoks9.out y (by rw [List.take_of_length_le (by have := Hm3.out; omega)]; exact hy)
                    simp only
                    rw [Hok.out, Hall.out, h2]; rfl
                  have hfin : wr.ownsRow w.heap.size 5 1 u4 (3 + ((fs.take (j + 1)).flatMap encF).length) (byteVals ([87, 76, (n : Int)] ++ (fs.take (j + 1)).flatMap encF)) := by
                    rw [List.take_of_length_le (by have := Hm3.out; omega)] at hown9
                    have e1 : (encHead ⟨params, locals, true, keep, code⟩).length = 6 + ln := by
                      simp only [encHead, List.length_append, bytesLE_length, List.length_cons, List.length_nil, Hl3.out]; omega
                    rw [Hsn.out, List.length_append, ← List.append_assoc, HPre.out, ← Nat.add_assoc, HLe.out, encF, List.length_append, ← List.append_assoc, e1, ← Nat.add_assoc, ← Nat.add_assoc]
                    exact hown9
                  have Hfin := Lib.hid hfin
                  have Hb9 := Lib.hid hb9
                  have HOKF := Lib.hid hOKF
                  clear hOKF hb9 hfin
                  clear hown9
                  go_wp2_with fail
                  exact ⟨⟨j + 1, by omega, by go_num, Hfin.out, Hb9.out, HyesF.out HOKF.out⟩, by simp [intOf]; omega⟩
            · have dk : decide ((0 : Int) ≤ (-1)) = false := by first | rfl | simpa using hk0
              have hby : byteOf (-1) = 255 := by unfold byteOf; rw [IntKind.wrap_u8']; omega
              have Hby := Lib.hid hby
              clear hby
              go_wp2_with (first
                | (at_builtin
                   refine wpList_append_any _ rfl (.tmp 105) (.tmp 108) _ rfl w.heap.size 5 i0 _ 1 1 Try.underlying22 hi0 hz0 hz1 hz2 rfl (by omega) u4 (M + 2 + ln) (byteVals (XS ++ [params, (ln : Int)] ++ locals)) rfl (Hown5.out.alloc _) (wr.heap.size + 1) (some ⟨wr.heap.size, 0, none⟩) 2 2 (byteVals [1, 255]) rfl ?c0 ?c1 ?c2 ?c3 ?c4 ?_
                   case c0 => exact Reads.newN _ (by simp) _ _ 2 _ rfl rfl
                   case c1 => exact byteVals_one _
                   case c2 => simp only [maxLen]; omega
                   case c3 => omega
                   case c4 => simp; omega
                   intro v6 w6 hown6 hg6 hat6
                   have hF6 := (HF3.out.alloc (.cells #[.int .u8 1, .int .u8 255] 5)).grown hg6 (Ne.symm (own_blk_ne Hown5.out HF3.out (by decide)))
                   have q4 := Blk.cell hF6 4
                   simp only [List.getElem?_toArray, List.getElem?_cons_zero, List.getElem?_cons_succ] at q4))
              have hb6 := (Hb3.out.alloc (by omega) (.cells #[.int .u8 1, .int .u8 255] 5)).grown hg6 (by simp; omega) (fun g e => (Hown5.out.lt g e).1)
              have hs6 := hb6.size
              have HF6 := Lib.hid hF6
              have Hb6 := Lib.hid hb6
              have Hown6 := Lib.hid hown6
              clear hown6 hb6 hF6
              clear hg6 hat6 q2 q3 q4 dk
              refine (low_any (cn : Int) 2 w6 (by unfold U64; omega) (by omega)).mono ?_
              rintro e w7 ⟨lv7, rfl, hown7, hb7⟩
              obtain ⟨LA7, lc7, rfl, hlc7, hlm7, hR7⟩ := own_any hown7
              have hO7 := own_kept' Hown6.out (below_grown hb7) (fun g h => by cases h)
              have hF7 := HF6.out.below hb7 HF6.out.lt
              have hb7' := Hb6.out.trans (hb7.mono hs6)
              have hs7 := hb7'.size
              unfold maxLen at hlm7
              have HO7 := Lib.hid hO7
              have HF7 := Lib.hid hF7
              have HR7 := Lib.hid hR7
              have Hb7' := Lib.hid hb7'
              clear hb7' hR7 hF7 hO7
              clear hown7 hb7
              go_wp2_with (first
                | (at_builtin
                   refine wpList_append_any _ rfl (.tmp 110) (.tmp 115) _ rfl w.heap.size 5 i0 _ 1 1 Try.underlying22 hi0 hz0 hz1 hz2 rfl (by omega) v6 (M + 2 + ln + 2) _ rfl HO7.out w7.heap.size LA7 2 lc7 (byteVals (bytesLE 2 (cn : Int))) rfl HR7.out ?c1 ?c2 ?c3 ?c4 ?_
                   case c1 => exact byteVals_one _
                   case c2 => simp only [maxLen]; omega
                   case c3 => omega
                   case c4 => omega
                   intro v8 w8 hown8 hg8 hat8
                   have hF8 := HF7.out.grown hg8 (Ne.symm (own_blk_ne HO7.out HF7.out (by decide)))
                   have q4 := Blk.cell hF8 4
                   simp only [List.getElem?_toArray, List.getElem?_cons_zero, List.getElem?_cons_succ] at q4))
              have hb8 := Hb7'.out.grown hg8 (by omega) (fun g e => (HO7.out.lt g e).1)
              have hst8 : w8.ownsRow w.heap.size 5 1 v8 (M + 6 + ln + ((code.take 0).flatMap encI).length) (byteVals (XS ++ encHead ⟨params, locals, true, (-1), code⟩ ++ (code.take 0).flatMap encI)) := by
                have e1 : M + 2 + ln + 2 + 2 = M + 6 + ln + ((code.take 0).flatMap encI).length := by simp; omega
                have e2 : byteVals (XS ++ [params, (ln : Int)] ++ locals) ++ byteVals [1, 255] ++ byteVals (bytesLE 2 (cn : Int)) = byteVals (XS ++ encHead ⟨params, locals, true, (-1), code⟩ ++ (code.take 0).flatMap encI) := by
                  rw [← byteVals_append, ← byteVals_append]
                  simp only [encHead, Hl3.out, Hm3.out, Hby.out, List.append_assoc, List.take_zero, List.flatMap_nil, List.append_nil]
                  rfl
                rw [e1, e2] at hown8
                exact hown8
              have Hb8 := Lib.hid hb8
              clear hb8
              clear hown8 hg8 hat8 hF8 q4
              go_loopw [4, 120] (fun s i wq => ∃ q : Nat, q ≤ cn ∧ i = .int .i64 q ∧ wq.ownsRow w.heap.size 5 1 s (M + 6 + ln + ((code.take q).flatMap encI).length) (byteVals (XS ++ encHead ⟨params, locals, true, (-1), code⟩ ++ (code.take q).flatMap encI)) ∧ Below w.heap.size w wq ∧ Hid (∀ x ∈ code.take q, okI x = true)) (fun _ i _ => cn - (intOf i).toNat)
              case atStart => exact ⟨0, by omega, rfl, hst8, Hb8.out, by intro x hx; simp at hx⟩
              case round =>
                obtain ⟨q, hq, rfl, hown9, hb9, hoks9⟩ := hrel
                clear hst8
                by_cases hlt3 : q < cn
                · obtain ⟨ad3, hA3, _, hcell⟩ := (Hm4.out.below hb9).2 (by omega)
                  subst hA3
                  obtain ⟨x, hxk⟩ : ∃ x, code[q]? = some x := ⟨_, List.getElem?_eq_getElem (by have := Hm3.out; omega)⟩
                  obtain ⟨f0, f1, f2⟩ := flatMap_three code q x hxk
                  have r0 := hcell _ _ f0
                  have r1 := hcell _ _ f1
                  have r2 := hcell _ _ f2
                  rw [← addr_sub ad3 _ 1 (by omega)] at r1
                  rw [← addr_sub ad3 _ 2 (by omega)] at r2
                  have hxw := Hfw.out.code x (List.mem_of_getElem? hxk)
                  have hlen9 : ((code.take q).flatMap encI).length ≤ 9 * q := by
                    have := encIs_le (code.take q); rw [List.length_take] at this; omega
                  have hs9 := hb9.size
                  have hbx := hb9.alloc hs9 (.cells #[.int .u8 x.op, .int .i64 x.arg, .int .u64 x.imm] 49)
                  have hG0 := Blk.new wr 49 #[.int .u8 x.op, .int .i64 x.arg, .int .u64 x.imm]
                  have hO9 := hown9.alloc (.cells #[.int .u8 x.op, .int .i64 x.arg, .int .u64 x.imm] 49)
                  have Hxk := Lib.hid hxk
                  have Hxw := Lib.hid hxw
                  have Hbx := Lib.hid hbx
                  have HG0 := Lib.hid hG0
                  have HO9 := Lib.hid hO9
                  have HOKS9 := Lib.hid hoks9
                  clear hoks9 hO9 hG0 hbx hxw hxk
                  clear hcell f0 f1 f2 hown9 hb9
                  go_wp2_with fail
                  refine (says_any x _).mono ?_
                  rintro e w10 ⟨rfl, hb10⟩
                  have hb10' := Hbx.out.trans (hb10.mono (by simp; omega))
                  have hs10 := hb10'.size
                  have hG10 := HG0.out.below hb10 (by simp)
                  have hO10 := own_kept' HO9.out (below_grown hb10) (fun g h => by cases h)
                  have t0 := Blk.cell hG10 0
                  simp only [List.getElem?_toArray, List.getElem?_cons_zero, List.getElem?_cons_succ] at t0
                  have Hb10' := Lib.hid hb10'
                  have HG10 := Lib.hid hG10
                  have HO10 := Lib.hid hO10
                  clear hO10 hG10 hb10'
                  clear hb10 r0 r1 r2
                  by_cases hxok : okI x = true
                  · rw [hxok]
                    have Hxok := Lib.hid hxok
                    clear hxok
                    go_wp2_with (first
                      | (at_builtin
                         refine wpList_append_any _ rfl (.tmp 127) (.tmp 130) _ rfl w.heap.size 5 i0 _ 1 1 Try.underlying22 hi0 hz0 hz1 hz2 rfl (by omega) u4 _ _ rfl (HO10.out.alloc _) (w10.heap.size + 1) (some ⟨w10.heap.size, 0, none⟩) 1 1 [.int .u8 x.op] rfl (Reads.newAt _ rfl _ _) ?c1 ?c2 ?c3 ?c4 ?_
                         case c1 => intro u hu; simp only [List.mem_singleton] at hu; subst hu; rfl
                         case c2 => simp only [maxLen]; omega
                         case c3 => omega
                         case c4 => simp; omega
                         intro v11 w11 hown11 hg11 hat11
                         have hG11 := (HG10.out.alloc (.cells #[.int .u8 x.op] 5)).grown hg11 (Ne.symm (own_blk_ne HO10.out HG10.out (by decide)))
                         have s0 := Blk.cell hG11 0
                         have s1 := Blk.cell hG11 1
                         have s2 := Blk.cell hG11 2
                         simp only [List.getElem?_toArray, List.getElem?_cons_zero, List.getElem?_cons_succ] at s0 s1 s2))
                    have hb11 := (Hb10'.out.alloc hs10 (.cells #[.int .u8 x.op] 5)).grown hg11 (by simp; omega) (fun g e => (HO10.out.lt g e).1)
                    have hs11 := hb11.size
                    have Hb11 := Lib.hid hb11
                    have Hown11 := Lib.hid hown11
                    clear hown11 hb11
                    clear hG11 hg11 hat11 t0
                    rcases width_cases x.op with hw | hw | hw | hw | hw
                    · have hen : encI x = x.op :: bytesLE 8 x.imm := by simp [encI, hw]
                      have Hw := Lib.hid hw
                      have Hen := Lib.hid hen
                      clear hen hw
                      go_wp2_with fail
                      refine (refwidth_as x.op 8 _ Hw.out).mono ?_
                      rintro e w' ⟨rfl, rfl⟩
                      go_wp2_with fail
                      refine (low_any x.imm 8 w11 (by first | exact Hxw.out.imm | (unfold u64Of U64; rw [IntKind.wrap_u64]; omega)) (by omega)).mono ?_
                      rintro e w12 ⟨lv12, rfl, hown12, hb12⟩
                      obtain ⟨LA12, lc12, rfl, hlc12, hlm12, hR12⟩ := own_any hown12
                      have hO12 := own_kept' Hown11.out (below_grown hb12) (fun g h => by cases h)
                      have hb12' := Hb11.out.trans (hb12.mono hs11)
                      have hs12 := hb12'.size
                      unfold maxLen at hlm12
                      have HO12 := Lib.hid hO12
                      have HR12 := Lib.hid hR12
                      have Hb12' := Lib.hid hb12'
                      clear hb12' hR12 hO12
                      clear hown12 hb12 s0 s1 s2
                      go_wp2_with (first
                        | (at_builtin
                           refine wpList_append_any _ rfl (.tmp 137) (.tmp 140) _ rfl w.heap.size 5 i0 _ 1 1 Try.underlying22 hi0 hz0 hz1 hz2 rfl (by omega) v11 _ _ rfl HO12.out w12.heap.size LA12 8 lc12 (byteVals (bytesLE 8 x.imm)) rfl HR12.out ?c1 ?c2 ?c3 ?c4 ?_
                           case c1 => exact byteVals_one _
                           case c2 => simp only [maxLen]; omega
                           case c3 => omega
                           case c4 => omega
                           intro v13 w13 hown13 hg13 hat13))
                      have hb13 := Hb12'.out.grown hg13 (by omega) (fun g e => (HO12.out.lt g e).1)
                      refine ⟨⟨q + 1, by omega, by go_num, ?_, hb13, ?_⟩, by simp [intOf]; omega⟩
                      · rw [encIs_snoc code q x Hxk.out, Hen.out]
                        have e1 : M + 6 + ln + ((code.take q).flatMap encI).length + 1 + 8 = M + 6 + ln + ((code.take q).flatMap encI ++ x.op :: bytesLE 8 x.imm).length := by
                          rw [List.length_append, List.length_cons, bytesLE_length]; omega
                        have e2 : byteVals (XS ++ encHead ⟨params, locals, true, (-1), code⟩ ++ (code.take q).flatMap encI) ++ [.int .u8 x.op] ++ byteVals (bytesLE 8 x.imm) = byteVals (XS ++ encHead ⟨params, locals, true, (-1), code⟩ ++ ((code.take q).flatMap encI ++ x.op :: bytesLE 8 x.imm)) := by
                          simp [byteVals]
                        rw [e1, e2] at hown13
                        exact hown13
                      · show ∀ y ∈ _, okI y = true
                        rw [List.take_add_one, Hxk.out]
                        intro y hy
                        rcases List.mem_append.1 hy with h | h
                        · exact HOKS9.out y h
                        · simp at h; rw [h]; exact Hxok.out
                    · have hen : encI x = x.op :: bytesLE 2 (u64Of x.arg) := by simp [encI, hw]
                      have Hw := Lib.hid hw
                      have Hen := Lib.hid hen
                      clear hen hw
                      go_wp2_with fail
                      refine (refwidth_as x.op 2 _ Hw.out).mono ?_
                      rintro e w' ⟨rfl, rfl⟩
                      go_wp2_with fail
                      refine (low_any (u64Of x.arg) 2 w11 (by first | exact Hxw.out.imm | (unfold u64Of U64; rw [IntKind.wrap_u64]; omega)) (by omega)).mono ?_
                      rintro e w12 ⟨lv12, rfl, hown12, hb12⟩
                      obtain ⟨LA12, lc12, rfl, hlc12, hlm12, hR12⟩ := own_any hown12
                      have hO12 := own_kept' Hown11.out (below_grown hb12) (fun g h => by cases h)
                      have hb12' := Hb11.out.trans (hb12.mono hs11)
                      have hs12 := hb12'.size
                      unfold maxLen at hlm12
                      have HO12 := Lib.hid hO12
                      have HR12 := Lib.hid hR12
                      have Hb12' := Lib.hid hb12'
                      clear hb12' hR12 hO12
                      clear hown12 hb12 s0 s1 s2
                      go_wp2_with (first
                        | (at_builtin
                           refine wpList_append_any _ rfl (.tmp 142) (.tmp 147) _ rfl w.heap.size 5 i0 _ 1 1 Try.underlying22 hi0 hz0 hz1 hz2 rfl (by omega) v11 _ _ rfl HO12.out w12.heap.size LA12 2 lc12 (byteVals (bytesLE 2 (u64Of x.arg))) rfl HR12.out ?c1 ?c2 ?c3 ?c4 ?_
                           case c1 => exact byteVals_one _
                           case c2 => simp only [maxLen]; omega
                           case c3 => omega
                           case c4 => omega
                           intro v13 w13 hown13 hg13 hat13))
                      have hb13 := Hb12'.out.grown hg13 (by omega) (fun g e => (HO12.out.lt g e).1)
                      refine ⟨⟨q + 1, by omega, by go_num, ?_, hb13, ?_⟩, by simp [intOf]; omega⟩
                      · rw [encIs_snoc code q x Hxk.out, Hen.out]
                        have e1 : M + 6 + ln + ((code.take q).flatMap encI).length + 1 + 2 = M + 6 + ln + ((code.take q).flatMap encI ++ x.op :: bytesLE 2 (u64Of x.arg)).length := by
                          rw [List.length_append, List.length_cons, bytesLE_length]; omega
                        have e2 : byteVals (XS ++ encHead ⟨params, locals, true, (-1), code⟩ ++ (code.take q).flatMap encI) ++ [.int .u8 x.op] ++ byteVals (bytesLE 2 (u64Of x.arg)) = byteVals (XS ++ encHead ⟨params, locals, true, (-1), code⟩ ++ ((code.take q).flatMap encI ++ x.op :: bytesLE 2 (u64Of x.arg))) := by
                          simp [byteVals]
                        rw [e1, e2] at hown13
                        exact hown13
                      · show ∀ y ∈ _, okI y = true
                        rw [List.take_add_one, Hxk.out]
                        intro y hy
                        rcases List.mem_append.1 hy with h | h
                        · exact HOKS9.out y h
                        · simp at h; rw [h]; exact Hxok.out
                    · have hen : encI x = x.op :: bytesLE 1 (u64Of x.arg) := by simp [encI, hw]
                      have Hw := Lib.hid hw
                      have Hen := Lib.hid hen
                      clear hen hw
                      go_wp2_with fail
                      refine (refwidth_as x.op 1 _ Hw.out).mono ?_
                      rintro e w' ⟨rfl, rfl⟩
                      go_wp2_with fail
                      refine (low_any (u64Of x.arg) 1 w11 (by first | exact Hxw.out.imm | (unfold u64Of U64; rw [IntKind.wrap_u64]; omega)) (by omega)).mono ?_
                      rintro e w12 ⟨lv12, rfl, hown12, hb12⟩
                      obtain ⟨LA12, lc12, rfl, hlc12, hlm12, hR12⟩ := own_any hown12
                      have hO12 := own_kept' Hown11.out (below_grown hb12) (fun g h => by cases h)
                      have hb12' := Hb11.out.trans (hb12.mono hs11)
                      have hs12 := hb12'.size
                      unfold maxLen at hlm12
                      have HO12 := Lib.hid hO12
                      have HR12 := Lib.hid hR12
                      have Hb12' := Lib.hid hb12'
                      clear hb12' hR12 hO12
                      clear hown12 hb12 s0 s1 s2
                      go_wp2_with (first
                        | (at_builtin
                           refine wpList_append_any _ rfl (.tmp 142) (.tmp 147) _ rfl w.heap.size 5 i0 _ 1 1 Try.underlying22 hi0 hz0 hz1 hz2 rfl (by omega) v11 _ _ rfl HO12.out w12.heap.size LA12 1 lc12 (byteVals (bytesLE 1 (u64Of x.arg))) rfl HR12.out ?c1 ?c2 ?c3 ?c4 ?_
                           case c1 => exact byteVals_one _
                           case c2 => simp only [maxLen]; omega
                           case c3 => omega
                           case c4 => omega
                           intro v13 w13 hown13 hg13 hat13))
                      have hb13 := Hb12'.out.grown hg13 (by omega) (fun g e => (HO12.out.lt g e).1)
                      refine ⟨⟨q + 1, by omega, by go_num, ?_, hb13, ?_⟩, by simp [intOf]; omega⟩
                      · rw [encIs_snoc code q x Hxk.out, Hen.out]
                        have e1 : M + 6 + ln + ((code.take q).flatMap encI).length + 1 + 1 = M + 6 + ln + ((code.take q).flatMap encI ++ x.op :: bytesLE 1 (u64Of x.arg)).length := by
                          rw [List.length_append, List.length_cons, bytesLE_length]; omega
                        have e2 : byteVals (XS ++ encHead ⟨params, locals, true, (-1), code⟩ ++ (code.take q).flatMap encI) ++ [.int .u8 x.op] ++ byteVals (bytesLE 1 (u64Of x.arg)) = byteVals (XS ++ encHead ⟨params, locals, true, (-1), code⟩ ++ ((code.take q).flatMap encI ++ x.op :: bytesLE 1 (u64Of x.arg))) := by
                          simp [byteVals]
                        rw [e1, e2] at hown13
                        exact hown13
                      · show ∀ y ∈ _, okI y = true
                        rw [List.take_add_one, Hxk.out]
                        intro y hy
                        rcases List.mem_append.1 hy with h | h
                        · exact HOKS9.out y h
                        · simp at h; rw [h]; exact Hxok.out
                    · have hen : encI x = x.op :: bytesLE 0 (u64Of x.arg) := by simp [encI, hw]
                      have Hw := Lib.hid hw
                      have Hen := Lib.hid hen
                      clear hen hw
                      go_wp2_with fail
                      refine (refwidth_as x.op 0 _ Hw.out).mono ?_
                      rintro e w' ⟨rfl, rfl⟩
                      go_wp2_with fail
                      refine (low_any (u64Of x.arg) 0 w11 (by first | exact Hxw.out.imm | (unfold u64Of U64; rw [IntKind.wrap_u64]; omega)) (by omega)).mono ?_
                      rintro e w12 ⟨lv12, rfl, hown12, hb12⟩
                      obtain ⟨LA12, lc12, rfl, hlc12, hlm12, hR12⟩ := own_any hown12
                      have hO12 := own_kept' Hown11.out (below_grown hb12) (fun g h => by cases h)
                      have hb12' := Hb11.out.trans (hb12.mono hs11)
                      have hs12 := hb12'.size
                      unfold maxLen at hlm12
                      have HO12 := Lib.hid hO12
                      have HR12 := Lib.hid hR12
                      have Hb12' := Lib.hid hb12'
                      clear hb12' hR12 hO12
                      clear hown12 hb12 s0 s1 s2
                      go_wp2_with (first
                        | (at_builtin
                           refine wpList_append_any _ rfl (.tmp 142) (.tmp 147) _ rfl w.heap.size 5 i0 _ 1 1 Try.underlying22 hi0 hz0 hz1 hz2 rfl (by omega) v11 _ _ rfl HO12.out w12.heap.size LA12 0 lc12 (byteVals (bytesLE 0 (u64Of x.arg))) rfl HR12.out ?c1 ?c2 ?c3 ?c4 ?_
                           case c1 => exact byteVals_one _
                           case c2 => simp only [maxLen]; omega
                           case c3 => omega
                           case c4 => omega
                           intro v13 w13 hown13 hg13 hat13))
                      have hb13 := Hb12'.out.grown hg13 (by omega) (fun g e => (HO12.out.lt g e).1)
                      refine ⟨⟨q + 1, by omega, by go_num, ?_, hb13, ?_⟩, by simp [intOf]; omega⟩
                      · rw [encIs_snoc code q x Hxk.out, Hen.out]
                        have e1 : M + 6 + ln + ((code.take q).flatMap encI).length + 1 + 0 = M + 6 + ln + ((code.take q).flatMap encI ++ x.op :: bytesLE 0 (u64Of x.arg)).length := by
                          rw [List.length_append, List.length_cons, bytesLE_length]; omega
                        have e2 : byteVals (XS ++ encHead ⟨params, locals, true, (-1), code⟩ ++ (code.take q).flatMap encI) ++ [.int .u8 x.op] ++ byteVals (bytesLE 0 (u64Of x.arg)) = byteVals (XS ++ encHead ⟨params, locals, true, (-1), code⟩ ++ ((code.take q).flatMap encI ++ x.op :: bytesLE 0 (u64Of x.arg))) := by
                          simp [byteVals]
                        rw [e1, e2] at hown13
                        exact hown13
                      · show ∀ y ∈ _, okI y = true
                        rw [List.take_add_one, Hxk.out]
                        intro y hy
                        rcases List.mem_append.1 hy with h | h
                        · exact HOKS9.out y h
                        · simp at h; rw [h]; exact Hxok.out
                    · exfalso
                      have h := Hxok.out
                      simp [okI, hw] at h
                  · have hxno : okI x = false := by simpa using hxok
                    have hNO : okP fs = false := HnoF.out (by
                      unfold okF
                      have : code.all okI = false := by
                        rw [List.all_eq_false]
                        exact ⟨x, List.mem_of_getElem? Hxk.out, by simpa using hxok⟩
                      simp [this])
                    have HNO := Lib.hid hNO
                    clear hNO
                    rw [hxno]
                    clear hxok hxno
                    go_wp2_with fail
                    go_ret2
                    exact ⟨.inr ⟨HNO.out, rfl⟩, Hb10'.out⟩
                · have hqc : cn ≤ q := by omega
                  have hOKF : okF ⟨params, locals, true, (-1), code⟩ = true := by
                    unfold okF
                    have h2 : code.all okI = true := by
                      rw [List.all_eq_true]
                      intro y hy
                      exact hoks9.out y (by rw [List.take_of_length_le (by have := Hm3.out; omega)]; exact hy)
                    simp only
                    rw [Hok.out, Hall.out, h2]; rfl
                  have hfin : wr.ownsRow w.heap.size 5 1 u4 (3 + ((fs.take (j + 1)).flatMap encF).length) (byteVals ([87, 76, (n : Int)] ++ (fs.take (j + 1)).flatMap encF)) := by
                    rw [List.take_of_length_le (by have := Hm3.out; omega)] at hown9
                    have e1 : (encHead ⟨params, locals, true, (-1), code⟩).length = 6 + ln := by
                      simp only [encHead, List.length_append, bytesLE_length, List.length_cons, List.length_nil, Hl3.out]; omega
                    rw [Hsn.out, List.length_append, ← List.append_assoc, HPre.out, ← Nat.add_assoc, HLe.out, encF, List.length_append, ← List.append_assoc, e1, ← Nat.add_assoc, ← Nat.add_assoc]
                    exact hown9
                  have Hfin := Lib.hid hfin
                  have Hb9 := Lib.hid hb9
                  have HOKF := Lib.hid hOKF
                  clear hOKF hb9 hfin
                  clear hown9
                  go_wp2_with fail
                  exact ⟨⟨j + 1, by omega, by go_num, Hfin.out, Hb9.out, HyesF.out HOKF.out⟩, by simp [intOf]; omega⟩
      · have hok' : headOk ⟨params, locals, result, keep, code⟩ = false := by simpa using hok
        have hNO : okP fs = false := HnoF.out (by unfold okF; rw [hok']; rfl)
        have hcase : params < 0 ∨ 0 ≤ params ∧ (ln : Int) < params ∨ 0 ≤ params ∧ params ≤ ln ∧ (255 : Int) < ln ∨ 0 ≤ params ∧ params ≤ ln ∧ (ln : Int) ≤ 255 ∧ keep < -1 ∨ 0 ≤ params ∧ params ≤ ln ∧ (ln : Int) ≤ 255 ∧ -1 ≤ keep ∧ 254 < keep ∨ 0 ≤ params ∧ params ≤ ln ∧ (ln : Int) ≤ 255 ∧ -1 ≤ keep ∧ keep ≤ 254 ∧ (65535 : Int) < cn := by
          unfold headOk at hok'
          simp only [decide_eq_false_iff_not, Hl3.out, Hm3.out] at hok'
          omega
        have HNO := Lib.hid hNO
        clear hNO
        clear hok hok'
        rcases hcase with h1 | ⟨h1, h2⟩ | ⟨h1, h2, h3⟩ | ⟨h1, h2, h3, h4⟩ | ⟨h1, h2, h3, h4, h5⟩ | ⟨h1, h2, h3, h4, h5, h6⟩
        · have hd : decide (params < 0) = true := by simp only [decide_eq_true_eq, decide_eq_false_iff_not]; omega
          go_wp2_with fail
          go_ret2
          exact ⟨.inr ⟨HNO.out, rfl⟩, Hbox.out⟩
        · have hd : decide (params < 0) = false ∧ decide ((ln : Int) < params) = true := by simp only [decide_eq_true_eq, decide_eq_false_iff_not]; omega
          go_wp2_with fail
          go_ret2
          exact ⟨.inr ⟨HNO.out, rfl⟩, Hbox.out⟩
        · have hd : decide (params < 0) = false ∧ decide ((ln : Int) < params) = false ∧ decide ((255 : Int) < ln) = true := by simp only [decide_eq_true_eq, decide_eq_false_iff_not]; omega
          go_wp2_with fail
          go_ret2
          exact ⟨.inr ⟨HNO.out, rfl⟩, Hbox.out⟩
        · have hd : decide (params < 0) = false ∧ decide ((ln : Int) < params) = false ∧ decide ((255 : Int) < ln) = false ∧ decide (keep < -1) = true := by simp only [decide_eq_true_eq, decide_eq_false_iff_not]; omega
          go_wp2_with fail
          go_ret2
          exact ⟨.inr ⟨HNO.out, rfl⟩, Hbox.out⟩
        · have hd : decide (params < 0) = false ∧ decide ((ln : Int) < params) = false ∧ decide ((255 : Int) < ln) = false ∧ decide (keep < -1) = false ∧ decide (254 < keep) = true := by simp only [decide_eq_true_eq, decide_eq_false_iff_not]; omega
          go_wp2_with fail
          go_ret2
          exact ⟨.inr ⟨HNO.out, rfl⟩, Hbox.out⟩
        · have hd : decide (params < 0) = false ∧ decide ((ln : Int) < params) = false ∧ decide ((255 : Int) < ln) = false ∧ decide (keep < -1) = false ∧ decide (254 < keep) = false ∧ decide ((65535 : Int) < cn) = true := by simp only [decide_eq_true_eq, decide_eq_false_iff_not]; omega
          go_wp2_with fail
          go_ret2
          exact ⟨.inr ⟨HNO.out, rfl⟩, Hbox.out⟩
    · have hjn : n ≤ j := by omega
      have HYES : Hid (okP fs = true) := by
        show _ = _
        unfold okP
        have h2 : fs.all okF = true := by
          rw [List.all_eq_true]
          intro y hy
          exact hoks.out y (by rw [List.take_of_length_le (by have := HL.out; omega)]; exact hy)
        rw [h2, Bool.and_true, decide_eq_true_eq]
        have := HL.out
        omega
      have ho : wr.ownsRow w.heap.size 5 1 u4 (encP fs).length (byteVals (encP fs)) := by
        rw [List.take_of_length_le (by have := HL.out; omega)] at hown
        rw [encP, HL.out, List.length_append]
        exact hown
      have HO := Lib.hid ho
      clear hown ho
      go_wp2_with fail
      go_ret2
      exact ⟨.inl ⟨HYES.out, _, rfl, HO.out⟩, hbw⟩
/-- the document's bytes of a program, or false -/
theorem refenc_any (fsv : Value) (fs : List FuncD) (w : World) (hp : FuncsAt w w.heap.size fsv fs) (hwf : ∀ f ∈ fs, f.Wf) :
    Calls Try.prog 16 #[.agg #[fsv]] w fun e w' => (okP fs = true ∧ (∃ sv, e = .returned (.tuple #[sv, .bool true]) ∧ w'.ownsRow w.heap.size 5 1 sv (encP fs).length (byteVals (encP fs))) ∨ okP fs = false ∧ e = .returned (.tuple #[.slice none 0 0, .bool false])) ∧ Below w.heap.size w w' := by
  by_cases h : 1 ≤ fs.length ∧ fs.length ≤ 255
  · exact refenc_body fsv fs w hp hwf h.1 h.2
  · refine (refenc_size fsv fs w _ hp h).mono fun e w' k => ⟨.inr ⟨?_, k.1⟩, k.2⟩
    unfold okP
    rw [decide_eq_false h, Bool.false_and]
end Go.Proofs.Ytcaefdfdngecdaa
