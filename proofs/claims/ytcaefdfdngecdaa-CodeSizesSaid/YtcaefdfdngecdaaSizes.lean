/- The law CodeSizes: a program's bytes are as many as its functions, locals and instructions ask for. Condition: the program lies in memory, its numbers fit their kinds. -/
import Derived.Test.YtcaefdfdngecdaaFirstC
import Derived.Test.YtcaefdfdngecdaaOpenC
set_option linter.unusedVariables false
set_option linter.unusedSimpArgs false
namespace Go.Proofs.Ytcaefdfdngecdaa
open Go.RowKit

theorem encI_len (i : InstrD) (h : okI i = true) : 0 ≤ widthV i.op ∧ ((encI i).length : Int) = 1 + widthV i.op := by
  unfold okI at h
  simp only [decide_eq_true_eq] at h
  have h0 := h.1
  refine ⟨h0, ?_⟩
  unfold encI
  by_cases h8 : widthV i.op = 8
  · rw [if_pos h8]; simp [bytesLE_length, h8]
  · rw [if_neg h8]; simp only [List.length_cons, bytesLE_length]; omega
theorem width_shape (op : Int) (h : 0 ≤ widthV op) : ∃ d : Nat, widthV op = d ∧ (d = 8 ∧ op = 1 ∨ d = 2 ∧ (op = 21 ∨ op = 22) ∨ d = 1 ∧ (op = 2 ∨ op = 3 ∨ op = 4 ∨ op = 23 ∨ op = 25) ∨ d = 0 ∧ ¬ op = 1 ∧ ¬ op = 21 ∧ ¬ op = 22 ∧ ¬ op = 2 ∧ ¬ op = 3 ∧ ¬ op = 4 ∧ ¬ op = 23 ∧ ¬ op = 25) := by
  unfold widthV at h ⊢
  by_cases h1 : op = 1
  · exact ⟨8, by rw [if_pos h1]; rfl, by omega⟩
  · rw [if_neg h1] at h ⊢
    by_cases h2 : op = 2 ∨ op = 3 ∨ op = 4 ∨ op = 23 ∨ op = 25
    · exact ⟨1, by rw [if_pos h2]; rfl, by omega⟩
    · rw [if_neg h2] at h ⊢
      by_cases h3 : op = 21 ∨ op = 22
      · exact ⟨2, by rw [if_pos h3]; rfl, by omega⟩
      · rw [if_neg h3] at h ⊢
        by_cases h4 : op < 1 ∨ 32 < op
        · rw [if_pos h4] at h; omega
        · exact ⟨0, by rw [if_neg h4]; rfl, by omega⟩
theorem encF_len (f : FuncD) : (encF f).length = 6 + f.locals.length + (f.code.flatMap encI).length := by
  simp only [encF, encHead, List.length_append, bytesLE_length, List.length_cons, List.length_nil]; omega
set_option maxRecDepth 100000 in
set_option maxHeartbeats 2000000 in
theorem walk_CodeSizes (w : World) (fv0 : Value) (fs0 : List FuncD) (hf0 : FuncsIn w fv0 fs0) :
    Calls Try.prog 6 #[.agg #[fv0]] w fun e w' => e = .returned (.bool true) ∧ Below w.heap.size w w' := by
  obtain ⟨hfs, hwf, _⟩ := hf0
  obtain ⟨A, n, c, css, rfl, hc1, hc2, hl, hcl, hr, hcs⟩ := id hfs
  have h5 := css_five hl hcl hcs
  unfold maxLen at hc2
  have HFS := Lib.hid hfs
  have hP : Blk (w.alloc (.cells #[.slice A n c] 26)) w.heap.size 26 #[.slice A n c] := Blk.new w _ _
  have hb0 : Below w.heap.size w (w.alloc (.cells #[.slice A n c] 26)) := (Below.refl _ _).alloc (Nat.le_refl _) _
  have Hwf := Lib.hid hwf
  have HL := Lib.hid hl
  have HC := Lib.hid hcl
  have HCS := Lib.hid hcs
  have HR := Lib.hid hr
  have HP := Lib.hid hP
  have Hb0 := Lib.hid hb0
  clear hb0 hP hr hcs hcl hl hwf
  clear hfs
  go_enter Try.func6, Try.ntmps6
  go_wp2_with fail
  refine (first_any _).mono ?_
  rintro e w1 ⟨rfl, hb1⟩
  have hbw1 := Hb0.out.trans (hb1.mono (by simp))
  have hP1 := HP.out.below hb1 (by simp)
  have hs1 := hb1.size
  rw [World.size_alloc] at hs1
  have kp0 := Blk.cell hP1 0
  simp only [List.getElem?_toArray, List.getElem?_cons_zero, List.getElem?_cons_succ] at kp0
  have hfs1 := (HFS.out.below hbw1).more (B' := w1.heap.size) (by omega)
  have Hfs1 := Lib.hid hfs1
  have Hbw1 := Lib.hid hbw1
  have HP1 := Lib.hid hP1
  clear hP1 hbw1 hfs1
  clear hb1
  go_wp2_with fail
  refine (encode_any _ fs0 _ Hfs1.out (fun f hf => (Hwf.out f hf).1)).mono ?_
  rintro e w2 ⟨hcase, hb2⟩
  have hbw2 := Hbw1.out.trans (hb2.mono (by omega))
  have hP2 := HP1.out.below hb2 (by omega)
  have hs2 := hb2.size
  rcases hcase with ⟨hok, sv, rfl, hown⟩ | ⟨hok, rfl⟩
  · obtain ⟨hN1, hN2, hoks⟩ := okP_parts hok
    have hlen0 : (encP fs0).length = 3 + (fs0.flatMap encF).length := by simp [encP]; omega
    have hle0 := encFs_le fs0 hoks
    obtain ⟨SA, sc, rfl, hsc, hsm, _⟩ := own_any hown
    generalize hLL : (encP fs0).length = LL at *
    have hn255 : n ≤ 255 := by rw [← HL.out]; exact hN2
    have HLL := Lib.hid hlen0
    have kq0 := Blk.cell hP2 0
    simp only [List.getElem?_toArray, List.getElem?_cons_zero, List.getElem?_cons_succ] at kq0
    have Hbw2 := Lib.hid hbw2
    have HP2 := Lib.hid hP2
    have Hoks := Lib.hid hoks
    clear hoks hP2 hbw2
    clear hN1 hN2 hok hle0 hown hlen0 hb2 hLL kp0
    go_wp2_with fail
    go_loopw [5, 25] (fun s i wr => ∃ j : Nat, j ≤ n ∧ i = .int .i64 j ∧ s = .int .i64 (3 + ((fs0.take j).flatMap encF).length : Int) ∧ Below w.heap.size w wr) (fun _ i _ => n - (intOf i).toNat)
    case atStart => exact ⟨0, by omega, rfl, by simp, Hbw2.out⟩
    case round =>
      obtain ⟨j, hj, rfl, rfl, hbw⟩ := hrel
      have hbj : ((fs0.take j).flatMap encF).length ≤ 600000 * 255 := by
        have := encFs_le (fs0.take j) fun f hf => Hoks.out f (List.mem_of_mem_take hf)
        rw [List.length_take] at this; omega
      generalize hLJ : ((fs0.take j).flatMap encF).length = LJ at *
      have HLJ := Lib.hid hLJ
      clear hLJ
      by_cases hlt : j < n
      · have hrw := HR.out.below hbw
        obtain ⟨ad, hA, _, _⟩ := HR.out.2 (by omega)
        subst hA
        obtain ⟨f, hfk⟩ : ∃ f, fs0[j]? = some f := ⟨_, List.getElem?_eq_getElem (by have := HL.out; omega)⟩
        obtain ⟨cs, hck, lv, cv, rfl, hlv, hcv⟩ := HCS.out j f hfk
        obtain ⟨LA, ln, lc, rfl, hl1, hl2, hl3, _⟩ := hlv
        obtain ⟨CA, cn, cc, rfl, hm1, hm2, hm3, hm4⟩ := hcv
        obtain ⟨g0, g1, g2, g3, g4⟩ := func_cells hrw HC.out h5 j f _ _ hck
        have hfok := Hoks.out f (List.mem_of_getElem? hfk)
        obtain ⟨⟨_, _, hln, _, _, hcn⟩, _, hcok⟩ := okF_parts hfok
        rw [hl3] at hln
        rw [hm3] at hcn
        have hflen := encF_len f
        rw [hl3] at hflen
        have HX := Lib.hid hfk
        unfold maxLen at hl2 hm2
        have hbx := hbw.alloc (by have := hbw.size; omega) (.cells #[.int .i64 f.params, .slice LA ln lc, .bool f.result, .int .i64 f.keep, .slice CA cn cc] 45)
        have Hbx := Lib.hid hbx
        have Hm3 := Lib.hid hm3
        have Hm4 := Lib.hid hm4
        have Hcok := Lib.hid hcok
        have Hflen := Lib.hid hflen
        clear hflen hcok hm4 hm3 hbx
        clear hrw hck hfk hl3 hfok hbw
        go_wp2_with fail
        clear g0 g1 g2 g3 g4
        go_loopw [5, 42] (fun s i wq => ∃ k X : Nat, k ≤ cn ∧ X ≤ 600000 ∧ i = .int .i64 k ∧ s = .int .i64 (3 + LJ + (6 + ln + cn) + X : Int) ∧ Below w.heap.size w wq ∧ Hid (((f.code.take k).flatMap encI).length = k + X)) (fun _ i _ => cn - (intOf i).toNat)
        case atStart => exact ⟨0, 0, by omega, by omega, rfl, by go_num, Hbx.out, by show _ = _; simp⟩
        case round =>
          obtain ⟨k, X, hk, hX, rfl, rfl, hbq, hX2⟩ := hrel
          by_cases hlt2 : k < cn
          · obtain ⟨ad2, hA2, _, hcell⟩ := (Hm4.out.below hbq).2 (by omega)
            subst hA2
            obtain ⟨x, hxk⟩ : ∃ x, f.code[k]? = some x := ⟨_, List.getElem?_eq_getElem (by have := Hm3.out; omega)⟩
            obtain ⟨e0, e1, e2⟩ := flatMap_three f.code k x hxk
            have q0 := hcell _ _ e0
            have q1 := hcell _ _ e1
            have q2 := hcell _ _ e2
            rw [← addr_sub ad2 _ 1 (by omega)] at q1
            rw [← addr_sub ad2 _ 2 (by omega)] at q2
            obtain ⟨hw0, hw1⟩ := encI_len x (Hcok.out x (List.mem_of_getElem? hxk))
            have hsn := congrArg List.length (encIs_snoc f.code k x hxk)
            rw [List.length_append, hX2.out] at hsn
            have hle9 := encIs_le (f.code.take (k + 1))
            rw [List.length_take] at hle9
            have hbr := hbq.alloc (by have := hbq.size; omega) (.cells #[.int .u8 x.op, .int .i64 x.arg, .int .u64 x.imm] 49)
            have Hbr := Lib.hid hbr
            have Hsn := Lib.hid hsn
            have Hw1 := Lib.hid hw1
            have Hle9 := Lib.hid hle9
            have Hw0 := Lib.hid hw0
            clear hw0 hle9 hw1 hsn hbr
            clear hcell hxk e0 e1 e2
            go_wp2_with fail
            all_goals
              simp only [beq_iff_eq, beq_eq_false_iff_ne, ne_eq] at *
            all_goals
              obtain ⟨d, hd1, hd2⟩ := width_shape x.op Hw0.out
              have hsn := Hsn.out
              have hw1 := Hw1.out
              have hle9 := Hle9.out
              refine ⟨⟨k + 1, X + d, by omega, by omega, by go_num, ?_, Hbr.out, ?_⟩, by simp [intOf]; omega⟩
              · rcases hd2 with ⟨rfl, h⟩ | ⟨rfl, h⟩ | ⟨rfl, h⟩ | ⟨rfl, h⟩ <;> first | go_num | (exfalso; omega)
              · show _ = _
                omega
          · obtain rfl : cn = k := by omega
            go_wp2_with fail
            refine ⟨⟨j + 1, by omega, by go_num, ?_, hbq⟩, by simp [intOf]; omega⟩
            have hfin : (f.code.flatMap encI).length = cn + X := by
              have := hX2.out
              rwa [List.take_of_length_le (by have := Hm3.out; omega)] at this
            rw [encFs_snoc fs0 j f HX.out, List.length_append, HLJ.out, Hflen.out, hfin]
            exact congrArg (Value.int IntKind.i64) (by omega)
      · obtain rfl : n = j := by omega
        have hfin : (LL : Int) = 3 + LJ := by
          have h1 := HLL.out
          have h2 := HLJ.out
          rw [List.take_of_length_le (by have := HL.out; omega)] at h2
          omega
        have hb : ((LL : Int) == 3 + (LJ : Int)) = true := by rw [hfin]; simp
        have Hbw := Lib.hid hbw
        clear hbw
        clear hfin
        go_wp2_with fail
        go_ret
        exact ⟨rfl, Hbw.out⟩
  · have Hbw2 := Lib.hid hbw2
    clear hbw2
    clear hok hb2 hP2 kp0
    go_wp2_with fail
    go_ret
    exact ⟨rfl, Hbw2.out⟩
end Go.Proofs.Ytcaefdfdngecdaa
