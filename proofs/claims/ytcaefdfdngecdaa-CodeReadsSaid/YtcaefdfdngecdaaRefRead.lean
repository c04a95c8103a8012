/- Walk of the document's reader: a program of bytes, or none. Conditions: the bytes lie in memory. -/
import Derived.Test.YtcaefdfdngecdaaRefFrame
import Derived.Test.YtcaefdfdngecdaaRefEnc1
import Derived.Test.YtcaefdfdngecdaaLate
import Derived.Deep.CutBlock
set_option linter.unusedVariables false
set_option linter.unusedSimpArgs false
namespace Go.Proofs.Ytcaefdfdngecdaa
open Go.RowKit

def RdPost (xs : List Int) (w : World) (e : Ending) (w' : World) : Prop :=
  Below w.heap.size w w' ∧ ((decP xs = none ∧ e = .returned (.tuple #[.agg #[.slice none 0 0], .bool false])) ∨ ∃ fs pv, decP xs = some fs ∧ e = .returned (.tuple #[.agg #[pv], .bool true]) ∧ FuncsAt w' w'.heap.size pv fs)
theorem RdB.fin {w W : World} {R T P lim : Nat} {pv : Value} {css : List (List Value)} {fs : List FuncD} (h : RdB w R T P lim pv css fs W) (u : Value) : FuncsAt (W.setCell ⟨R, 0, none⟩ u) (W.setCell ⟨R, 0, none⟩ u).heap.size pv fs := by
  have hk := keeps_set W R 0 u
  have hrow : ∀ {base size m : Nat} {ty : TypeId} {v : Value} {ys : List Value}, W.ownsRow base ty size v m ys → ty ≠ 26 → (W.setCell ⟨R, 0, none⟩ u).ownsRow base ty size v m ys := by
    intro base size m ty v ys hu h1
    exact hk.own hu fun k e hs => by subst hs; exact own_blk_ne hu h.res h1 e
  have hr : FsRows (W.setCell ⟨R, 0, none⟩ u) R css fs := ⟨h.rows.1, fun i f hf => by
    obtain ⟨lv, cv, h1, h2, h3, _⟩ := h.rows.2 i f hf
    exact ⟨lv, cv, h1, hrow h2 (by decide), hrow h3 (by decide)⟩⟩
  exact hr.at_ (hrow h.own (by decide))
theorem num_zero (r : List Int) : num 0 r = some (0, r) := by simp [num, leV]
theorem chk_none {α : Type} {D X : Option α} {b c : Bool} (hD : D = if b then none else if c then none else X) (hc : c = true) : D = none := by
  rw [hD, hc]; cases b <;> rfl
/-- behind the functions: the tape must have ended -/
theorem end_some {D : Option (List FuncD)} {xs : List Int} {fs : List FuncD} {n : Nat} (hD : D = endP (fs, xs.drop n)) (hl : xs.length = n) : D = some fs := by
  rw [hD, endP]; simp [hl]
theorem end_none {D : Option (List FuncD)} {xs : List Int} {fs : List FuncD} {n p : Nat} (hD : D = endP (fs, xs.drop p)) (hl : xs.length = n) (hp : p < n) : D = none := by
  rw [hD, endP]; simp [hl]; omega
set_option maxRecDepth 100000 in
set_option maxHeartbeats 4000000 in
theorem read_any (A : Option Addr) (n c : Nat) (xs : List Int) (w : World) (B : Nat) (hr : Reads w B 1 A n (kindVals xs)) (hl : xs.length = n) (hnc : n ≤ c) (hc : n ≤ 140737488355000) (hby : ∀ x ∈ xs, Byte x) (hB : B ≤ w.heap.size) :
    Calls Try.prog 11 #[.slice A n c] w fun e w' => RdPost xs w e w' := by
  obtain ⟨i0, hi0, hz0, hz1, hz2⟩ := info_parts infoFunc
  obtain ⟨i1, hi1, hy0, hy1, hy2⟩ := info_parts infoInstr
  obtain ⟨ik, hik, hkz0, hkz1, hkz2⟩ := info_parts infoKind
  obtain ⟨T, hTe⟩ : ∃ T, T = w.heap.size + 1 := ⟨_, rfl⟩
  obtain ⟨W0, hW0⟩ : ∃ W0, W0 = (w.alloc (.cells #[.slice none 0 0] 26)).alloc (.cells #[.slice A n c, .int .i64 0] 59) := ⟨_, rfl⟩
  have hs0 : W0.heap.size = w.heap.size + 2 := by rw [hW0]; simp
  have hR0 : Blk W0 w.heap.size 26 #[.slice none 0 0] := by rw [hW0]; exact (Blk.new w _ _).alloc _
  have hb0 : Below w.heap.size w W0 := by rw [hW0]; exact ((Below.refl _ _).alloc (Nat.le_refl _) _).alloc (by simp) _
  have hT0 : TIn W0 T B A n c xs 0 := by
    refine ⟨?_, ?_, hl, ⟨hnc, hc⟩, hby, .inr (by omega)⟩
    · have := Blk.new (w.alloc (.cells #[.slice none 0 0] 26)) 59 #[.slice A n c, .int .i64 0]
      rw [World.size_alloc, ← hTe, ← hW0] at this
      exact this
    · rw [hW0]; exact (hr.alloc hB _).alloc (by simp; omega) _
  have hD0 : decP xs = if decide ((0 : Int) < 0) then none else (num 1 (xs.drop (0 : Int).toNat)).bind fun a => (num 1 a.2).bind fun b => if decide (a.1 ≠ 87) || decide (b.1 ≠ 76) then none else (num 1 b.2).bind fun n => if decide (n.1 = 0) then none else (decFs n.1.toNat n.2).bind endP := by
    rw [decP_ref xs hby]; rfl
  have hRT : w.heap.size < T := by omega
  have hBT : B ≤ T := by omega
  have hTs : T < W0.heap.size := by omega
  have Hr := Lib.hid hr
  have Hby := Lib.hid hby
  have HT0 := Lib.hid hT0
  have HR0 := Lib.hid hR0
  have Hb0 := Lib.hid hb0
  have HD0 := Lib.hid hD0
  have HL := Lib.hid hl
  have HW0 := Lib.hid hW0
  have HTe := Lib.hid hTe
  clear hTe hW0 hl hD0 hb0 hR0 hT0 hby hr
  go_enter Try.func11, Try.ntmps11
  go_wp2_with fail
  rw [← HTe.out, ← HW0.out]
  refine (next_any T B 1 A n c xs 0 W0 HT0.out hBT (by omega) _ rfl).mono ?_
  rintro e w1 ⟨v1, p1, rfl, hv10, hv11, hT1, hg1, hs1⟩
  replace hv11 : v1 < 256 := by omega
  have hD1 := st_step HD0.out hs1
  have hR1 := HR0.out.grown hg1 (by intro e; injection e with e; omega)
  have hb1 := Hb0.out.grown hg1 (by omega) (fun k e => by injection e with e; omega)
  have hz1' := hg1.size
  have HT1 := Lib.hid hT1
  have HD1 := Lib.hid hD1
  have HR1 := Lib.hid hR1
  have Hb1 := Lib.hid hb1
  clear hb1 hR1 hD1 hT1
  clear hs1 hg1
  by_cases hv1 : v1 = 87
  · have e1 : (v1 != 87) = false := by simp [hv1]
    go_wp2_with fail
    refine (next_any T B 1 A n c xs p1 w1 HT1.out hBT (by omega) _ rfl).mono ?_
    rintro e w2 ⟨v2, p2, rfl, hv20, hv21, hT2, hg2, hs2⟩
    replace hv21 : v2 < 256 := by omega
    have hD2a := st_step HD1.out hs2
    have hD2 := st_or hD2a
    have hR2 := HR1.out.grown hg2 (by intro e; injection e with e; omega)
    have hb2 := Hb1.out.grown hg2 (by omega) (fun k e => by injection e with e; omega)
    have hz2' := hg2.size
    have HT2 := Lib.hid hT2
    have HR2 := Lib.hid hR2
    have Hb2 := Lib.hid hb2
    clear hb2 hR2 hT2
    clear hs2 hg2 hD2a
    by_cases hv2 : v2 = 76
    · have e2 : (v2 != 76) = false := by simp [hv2]
      have hD2' : decP xs = if decide (p2 < 0) then none else (num 1 (xs.drop p2.toNat)).bind fun n => if decide (n.1 = 0) then none else (decFs n.1.toNat n.2).bind endP := by
        rw [hD2]; simp [hv1, hv2]
      have HD2' := Lib.hid hD2'
      clear hD2'
      clear hD2
      go_wp2_with fail
      refine (next_any T B 1 A n c xs p2 w2 HT2.out hBT (by omega) _ rfl).mono ?_
      rintro e w3 ⟨v3, p3, rfl, hv30, hv31, hT3, hg3, hs3⟩
      replace hv31 : v3 < 256 := by omega
      obtain ⟨N, rfl⟩ := Int.eq_ofNat_of_zero_le hv30
      have hD3a := st_step HD2'.out hs3
      have hD3 : decP xs = if decide (p3 < 0) then none else if decide ((N : Int) = 0) then none else (decFs N (xs.drop p3.toNat)).bind endP := hD3a
      have hR3 := HR2.out.grown hg3 (by intro e; injection e with e; omega)
      have hb3 := Hb2.out.grown hg3 (by omega) (fun k e => by injection e with e; omega)
      have hz3' := hg3.size
      obtain ⟨P, hPe⟩ : ∃ P, P = w3.heap.size := ⟨_, rfl⟩
      have hrb : RdB w w.heap.size T P (P + 1) (.slice none 0 0) [] [] (w3.alloc (.cells #[.slice none 0 0] 26)) := by
        refine ⟨hR3.alloc _, by rw [hPe]; exact Blk.new w3 _ _, World.ownsRow_nil _ _ _ _, ⟨rfl, by intro i f hf; simp at hf⟩, hb3.alloc (by omega) _, ⟨Nat.le_refl _, hRT, by omega, by omega, by simp; omega⟩, by intro k e; cases e⟩
      have htin := hT3.kept (World.grownBy_alloc w3 (.cells #[.slice none 0 0] 26) none) (by omega) nofun
      have Hrb := Lib.hid hrb
      have Htin := Lib.hid htin
      have HD3 := Lib.hid hD3
      have HPe := Lib.hid hPe
      clear hPe hD3 htin hrb
      clear hs3 hg3 hT3 hR3 hb3 hD3a
      go_wp2_with fail
      rw [← HPe.out]
      go_loopw [7] (fun i wr => ∃ j : Nat, j ≤ N ∧ i = .int .u64 j ∧ ∃ p pv css, ∃ fs : List FuncD, ∃ lim, TIn wr T B A n c xs p ∧ RdB w w.heap.size T P lim pv css fs wr ∧ fs.length = j ∧ Hid (decP xs = if decide (p < 0) then none else if decide ((N : Int) = 0) then none else (decFs (N - j) (xs.drop p.toNat)).bind fun q => endP (fs ++ q.1, q.2))) (fun i _ => N - (intOf i).toNat)
      case atStart => exact ⟨0, by omega, rfl, p3, _, _, [], _, Htin.out, Hrb.out, rfl, HD3.out⟩
      case round =>
        obtain ⟨j, hj, rfl, p4, pv4, css4, fs4, lim, hT4, hB4, hfl4, hD4⟩ := hrel
        obtain ⟨l1, l2, l3, l4, l5⟩ := hB4.low
        have hTc := hT4.cells
        have kt1 := Blk.cell hTc 1
        simp only [List.getElem?_toArray, List.getElem?_cons_zero, List.getElem?_cons_succ] at kt1
        by_cases hgo : j < N ∧ 0 ≤ p4
        · obtain ⟨hjN, hp40⟩ := hgo
          have d1 : decide ((j : Int) < N) = true := by simpa using hjN
          have d2 : decide ((0 : Int) ≤ p4) = true := by simpa using hp40
          obtain ⟨F, hFe⟩ : ∃ F, F = wr.heap.size := ⟨_, rfl⟩
          have hA0 := (hB4.more (by omega : lim ≤ F) (by omega)).box hT4 hFe hB
          obtain ⟨KK, hKe⟩ : ∃ KK : FuncD × List Int → Option (List FuncD), KK = fun p => (decFs (N - (j + 1)) p.2).bind fun q => endP (fs4 ++ [p.1] ++ q.1, q.2) := ⟨_, rfl⟩
          have hE0 : decP xs = if decide (p4 < 0) then none else (decF (xs.drop p4.toNat)).bind KK := by
            rw [hKe]
            refine decFs_step ?_
            rw [show N - (j + 1) + 1 = N - j by omega, hD4.out, decide_eq_false (show ¬ (N : Int) = 0 by omega)]
            rfl
          rw [rdF_bind] at hE0
          have HA0 := Lib.hid hA0
          have HE0 := Lib.hid hE0
          have HKe := Lib.hid hKe
          have HFe := Lib.hid hFe
          clear hFe hKe hE0 hA0
          clear hT4 hB4 hD4 hTc
          go_wp2_with fail
          rw [← HFe.out]
          refine (next_any T B 1 A n c xs p4 _ HA0.out.tin hBT (by omega) _ rfl).mono ?_
          rintro e w6 ⟨a, p6, rfl, ha0, ha1, hT6, hg6, hs6⟩
          replace ha1 : a < 256 := by omega
          have hE6 := st_step HE0.out hs6
          have hA6 := HA0.out.next hT6 hg6
          have hA7 := hA6.set0 a
          have kf0 := Blk.cell hA6.fb 0
          simp only [List.getElem?_toArray, List.getElem?_cons_zero, List.getElem?_cons_succ] at kf0
          have ff0 := Blk.frozen hA6.fb 0
          have HE6 := Lib.hid hE6
          have HA7 := Lib.hid hA7
          clear hA7 hE6
          clear hs6 hg6 hT6 hA6 d1 d2
          go_wp2_with fail
          refine (next_any T B 1 A n c xs p6 _ HA7.out.tin hBT (by omega) _ rfl).mono ?_
          rintro e w8 ⟨b, p8, rfl, hb0, hb1, hT8, hg8, hs8⟩
          replace hb1 : b < 256 := by omega
          obtain ⟨L, rfl⟩ := Int.eq_ofNat_of_zero_le hb0
          have hE8 := st_step HE6.out hs8
          have hA8 := HA7.out.next hT8 hg8
          obtain ⟨G, hGe⟩ : ∃ G : List Int × List Int → Option (List FuncD), G = fun c => (num 1 c.2).bind fun d => (num 1 d.2).bind fun e => (num 2 e.2).bind fun g => (decIs g.1.toNat g.2).bind fun h =>
            if chkF a L d.1 c.1 then none else KK (⟨a, c.1, d.1 == 1, keepOf e.1, h.1⟩, h.2) := ⟨_, rfl⟩
          have hE9 : decP xs = if decide (p8 < 0) then none else (rawL (L - 0) (xs.drop p8.toNat)).bind fun q => G ([] ++ q.1, q.2) := by rw [hGe]; exact hE8
          have HA8 := Lib.hid hA8
          have HE9 := Lib.hid hE9
          have HGe := Lib.hid hGe
          clear hGe hE9 hA8
          clear hs8 hg8 hT8 hE8 kf0 ff0
          go_wp2_with fail
          go_loopw [10] (fun i wq => ∃ k : Nat, k ≤ L ∧ i = .int .i64 k ∧ ∃ p lv ks, RdA w w.heap.size T P F B A n c xs p pv4 css4 fs4 a lv ks false 0 (.slice none 0 0) [] wq ∧ ks.length = k ∧ Hid (decP xs = if decide (p < 0) then none else (rawL (L - k) (xs.drop p.toNat)).bind fun q => G (ks ++ q.1, q.2))) (fun i _ => L - (intOf i).toNat)
          case atStart => exact ⟨0, by omega, rfl, _, _, [], HA8.out, rfl, HE9.out⟩
          case round =>
            obtain ⟨k, hk, rfl, p10, lv, ks, hA10, hkl, hE10⟩ := hrel
            have hlow := hA10.rb.low
            obtain ⟨m1, m2, m3, m4, m5⟩ := hlow
            by_cases hkL : k < L
            · have kf1 := Blk.cell hA10.fb 1
              simp only [List.getElem?_toArray, List.getElem?_cons_zero, List.getElem?_cons_succ] at kf1
              have hE11 : decP xs = if decide (p10 < 0) then none else (num 1 (xs.drop p10.toNat)).bind fun p => (rawL (L - (k + 1)) p.2).bind fun q => G (ks ++ [p.1] ++ q.1, q.2) := by
                refine rawL_step ?_
                rw [show L - (k + 1) + 1 = L - k by omega]
                exact hE10.out
              have HA10 := Lib.hid hA10
              have HE11 := Lib.hid hE11
              clear hE11 hA10
              clear hE10
              go_upto_region 15 with fail
              refine wp_region_late (S := fun W => W.cell? ⟨F, 1, none⟩ = some lv) #[false, false, false, false, false, false, false, false, true] (by kernel_rfl) kf1 (fun hHeld => ?_)
              refine wpAnyL_take (i := 0) (v := ?_) rfl (by kernel_rfl) (by kernel_rfl) (by kernel_rfl) (by kernel_rfl) (fun _ _ _ h => h) (Or.inl ⟨by rfl, ?_⟩) (by assumption) ?_
              rotate_left
              · intro w hSw; (try dsimp only at hSw); go_simp; try with_reducible rfl
              simp only [Act.put, List.getElem_toArray, List.getElem_cons_zero, List.getElem_cons_succ, List.setIfInBounds_toArray, List.set_cons_zero, List.set_cons_succ]
              refine wpAnyL_take (i := 1) (v := ?_) rfl (by kernel_rfl) (by kernel_rfl) (by kernel_rfl) (by kernel_rfl) (fun _ _ _ h => h) (Or.inl ⟨by rfl, ?_⟩) (by assumption) ?_
              rotate_left
              · intro w hSw; (try dsimp only at hSw); go_simp; try with_reducible rfl
              simp only [Act.put, List.getElem_toArray, List.getElem_cons_zero, List.getElem_cons_succ, List.setIfInBounds_toArray, List.set_cons_zero, List.set_cons_succ]
              refine wpAnyL_take (i := 2) (v := ?_) rfl (by kernel_rfl) (by kernel_rfl) (by kernel_rfl) (by kernel_rfl) (fun _ _ _ h => h) (Or.inl ⟨by rfl, ?_⟩) (by assumption) ?_
              rotate_left
              · intro w hSw; (try dsimp only at hSw); go_simp; try with_reducible rfl
              simp only [Act.put, List.getElem_toArray, List.getElem_cons_zero, List.getElem_cons_succ, List.setIfInBounds_toArray, List.set_cons_zero, List.set_cons_succ]
              refine wpAnyL_ready (rs := [3]) (by kernel_rfl) (by simp) ?_
              refine AllReadyL.cons rfl (fun K hK => ?_) AllReadyL.nil
              go_simp
              refine (next_any T B 1 A n c xs p10 _ HA10.out.drew.tin hBT (by omega) _ rfl).mono ?_
              rintro e w12 ⟨x, p12, rfl, hx0, hx1, hT12, hg12, hs12⟩
              replace hx1 : x < 256 := by omega
              have hE12 := st_step HE11.out hs12
              have hA12 := HA10.out.drew.next hT12 hg12
              have hwx : IntKind.wrap .u8 x = x := by rw [IntKind.wrap_u8']; omega
              refine hK.out _ _ (hA12.fb.cell 1) (fun hHeld2 => ?_)
              have hA13 := hA12.alloc (.cells #[.int .u8 x] 51)
              have hsz12 := hA12.rb.low.2.2.2.2
              have HE12 := Lib.hid hE12
              have HA13 := Lib.hid hA13
              clear hA13 hE12
              clear hK K hHeld hs12 hg12 hT12
              try simp only [Act.put, List.getElem_toArray, List.getElem_cons_zero, List.getElem_cons_succ, List.setIfInBounds_toArray, List.set_cons_zero, List.set_cons_succ]
              refine wpAnyL_take (i := 4) (v := ?_) rfl (by kernel_rfl) (by kernel_rfl) (by kernel_rfl) (by kernel_rfl) (fun _ _ _ h => h) (Or.inl ⟨by rfl, ?_⟩) (by assumption) ?_
              rotate_left
              · intro w hSw; (try dsimp only at hSw); go_simp; try with_reducible rfl
              simp only [Act.put, List.getElem_toArray, List.getElem_cons_zero, List.getElem_cons_succ, List.setIfInBounds_toArray, List.set_cons_zero, List.set_cons_succ]
              refine wpAnyL_ready (rs := [5]) (by kernel_rfl) (by simp) ?_
              refine AllReadyL.cons rfl (fun K hK => ?_) AllReadyL.nil
              go_simp
              try rw [hwx]
              refine hK.out _ _ (HA13.out.fb.cell 1) (fun hHeld3 => ?_)
              clear hK K hHeld2
              try simp only [Act.put, List.getElem_toArray, List.getElem_cons_zero, List.getElem_cons_succ, List.setIfInBounds_toArray, List.set_cons_zero, List.set_cons_succ]
              refine wpAnyL_ready (rs := [6]) (by kernel_rfl) (by simp) ?_
              refine AllReadyL.cons rfl (fun K hK => ?_) AllReadyL.nil
              refine step_append_any _ rfl (.tmp 57) (.tmp 61) _ rfl F 51 ik _ 1 1 Try.underlying42 hik hkz0 hkz1 hkz2 rfl (by omega) lv k (kindVals ks) rfl (by have h := HA13.out.lo; rw [hkl] at h; exact h) (w12.heap.size + 1) (some ⟨w12.heap.size, 0, none⟩) 1 1 [.int .u8 x] rfl (Reads.newAt _ rfl _ _) ?c1 ?c2 ?c3 ?c4 ?_
              case c1 => intro u hu; simp only [List.mem_singleton] at hu; subst hu; rfl
              case c2 => simp only [maxLen]; omega
              case c3 => omega
              case c4 => simp; omega
              intro v14 w14 hown14 hg14 hat14
              obtain ⟨g14, c14, rfl, _⟩ := own_form hown14 (by omega)
              have hA14 := HA13.out.addK (x := x) hg14 (by rw [hkl]; exact hown14)
              have hF14 : Blk w14 F 45 #[.int .i64 a, lv, .bool false, .int .i64 0, .slice none 0 0] := HA13.out.fb.grown hg14 (Ne.symm (own_blk_ne HA13.out.lo HA13.out.fb (by decide)))
              have kg1 := Blk.cell hF14 1
              simp only [List.getElem?_toArray, List.getElem?_cons_zero, List.getElem?_cons_succ] at kg1
              have fg1 := Blk.frozen hF14 1
              refine hK.out _ _ kg1 (fun hHeld4 => ?_)
              have HA14 := Lib.hid hA14
              clear hA14
              clear hK K hHeld3 hat14 hg14 hown14 hF14
              try simp only [Act.put, List.getElem_toArray, List.getElem_cons_zero, List.getElem_cons_succ, List.setIfInBounds_toArray, List.set_cons_zero, List.set_cons_succ]
              refine wpAnyL_take (i := 7) (v := ?_) rfl (by kernel_rfl) (by kernel_rfl) (by kernel_rfl) (by kernel_rfl) (fun _ _ _ h => h) (Or.inl ⟨by rfl, ?_⟩) (by assumption) ?_
              rotate_left
              · intro w hSw; (try dsimp only at hSw); go_simp; try with_reducible rfl
              simp only [Act.put, List.getElem_toArray, List.getElem_cons_zero, List.getElem_cons_succ, List.setIfInBounds_toArray, List.set_cons_zero, List.set_cons_succ]
              refine wpAnyL_ready (rs := [8]) (by kernel_rfl) (by simp) ?_
              refine AllReadyL.last rfl (by kernel_rfl) (fun K hK => ?_) AllReadyL.nil
              go_simp
              refine hK.out _ _ ?_
              clear hK K hHeld4
              refine wpAnyL_done (by kernel_rfl) ?_ _
              go_wp2_with fail
              exact ⟨⟨k + 1, by omega, by go_num, p12, _, _, HA14.out, by simp; omega, HE12.out⟩, by simp [intOf]; omega⟩
            · have hE20 : decP xs = if decide (p10 < 0) then none else G (ks, xs.drop p10.toNat) := by
                rw [hE10.out, show L - k = 0 by omega, rawL]; simp
              obtain rfl : k = L := by omega
              rw [HGe.out] at hE20
              have HA10 := Lib.hid hA10
              have HE20 := Lib.hid hE20
              clear hE20 hA10
              clear hE10
              go_wp2_with fail
              refine (next_any T B 1 A n c xs p10 _ HA10.out.tin hBT (by omega) _ rfl).mono ?_
              rintro e w21 ⟨d, p21, rfl, hd0, hd1, hT21, hg21, hs21⟩
              replace hd1 : d < 256 := by omega
              have hE21 := st_step HE20.out hs21
              have hA21 := HA10.out.next hT21 hg21
              have hA22 := hA21.set2 (d == 1)
              have kf2 := Blk.cell hA21.fb 2
              simp only [List.getElem?_toArray, List.getElem?_cons_zero, List.getElem?_cons_succ] at kf2
              have ff2 := Blk.frozen hA21.fb 2
              have HE21 := Lib.hid hE21
              have HA22 := Lib.hid hA22
              clear hA22 hE21
              clear hs21 hg21 hT21 hA21
              go_wp2_with fail
              refine (next_any T B 1 A n c xs p21 _ HA22.out.tin hBT (by omega) _ rfl).mono ?_
              rintro e w23 ⟨kp, p23, rfl, he0, he1, hT23, hg23, hs23⟩
              replace he1 : kp < 256 := by omega
              have hE23 := st_step HE21.out hs23
              have hA23 := HA22.out.next hT23 hg23
              have hA24 := hA23.set3 kp
              have hA25 := hA24.set3 (-1)
              have kk3 := Blk.cell hA23.fb 3
              simp only [List.getElem?_toArray, List.getElem?_cons_zero, List.getElem?_cons_succ] at kk3
              have fk3 := Blk.frozen hA23.fb 3
              have HE23 := Lib.hid hE23
              have HA24 := Lib.hid hA24
              have HA25 := Lib.hid hA25
              clear hA25 hA24 hE23
              clear hs23 hg23 hT23 hA23 kf2 ff2
              go_upto_if 75 with (fail)
              go_cut [] (fun wx => RdA w w.heap.size T P F B A n c xs p23 pv4 css4 fs4 a lv ks (d == 1) (keepOf kp) (.slice none 0 0) [] wx)
              case first =>
                by_cases hkp : kp = 255
                · have b1 : (kp == 255) = true := by simp [hkp]
                  go_wp2_with fail
                  go_meet
                  subst hkp
                  rw [show keepOf 255 = -1 by simp [keepOf]]; exact HA25.out
                · have b1 : (kp == 255) = false := by simp [hkp]
                  go_wp2_with fail
                  go_meet
                  rw [show keepOf kp = kp by rw [keepOf, if_neg hkp]]; exact HA24.out
              case rest =>
                have hA26 := hcut
                have HA26 := Lib.hid hA26
                clear hA26
                clear hcut kk3 fk3
                go_wp2_with fail
                refine (next_any T B 2 A n c xs p23 _ HA26.out.tin hBT (by omega) _ rfl).mono ?_
                rintro e w27 ⟨z, p27, rfl, hz0', hz1'', hT27, hg27, hs27⟩
                replace hz1'' : z < 65536 := by omega
                obtain ⟨Z, rfl⟩ := Int.eq_ofNat_of_zero_le hz0'
                have hE27 := st_step HE23.out hs27
                have hA27 := HA26.out.next hT27 hg27
                obtain ⟨H, hHe⟩ : ∃ H : List InstrD × List Int → Option (List FuncD), H = fun h => if chkF a k d ks then none else KK (⟨a, ks, d == 1, keepOf kp, h.1⟩, h.2) := ⟨_, rfl⟩
                have hE28 : decP xs = if decide (p27 < 0) then none else (decIs (Z - 0) (xs.drop p27.toNat)).bind fun q => H ([] ++ q.1, q.2) := by rw [hHe]; exact hE27
                have HA27 := Lib.hid hA27
                have HE28 := Lib.hid hE28
                have HHe := Lib.hid hHe
                clear hHe hE28 hA27
                clear hs27 hg27 hT27 hE27
                go_wp2_with fail
                go_loopw [13] (fun i wq => ∃ m : Nat, m ≤ Z ∧ i = .int .i64 m ∧ ∃ p cv is, RdA w w.heap.size T P F B A n c xs p pv4 css4 fs4 a lv ks (d == 1) (keepOf kp) cv is wq ∧ is.length = m ∧ Hid (decP xs = if decide (p < 0) then none else (decIs (Z - m) (xs.drop p.toNat)).bind fun q => H (is ++ q.1, q.2))) (fun i _ => Z - (intOf i).toNat)
                case atStart => exact ⟨0, by omega, rfl, _, _, [], HA27.out, rfl, HE28.out⟩
                case round =>
                  obtain ⟨m, hm, rfl, p30, cv, is, hA30, hil, hE30⟩ := hrel
                  obtain ⟨n1, n2, n3, n4, n5⟩ := hA30.rb.low
                  have kt1 := Blk.cell hA30.tin.cells 1
                  simp only [List.getElem?_toArray, List.getElem?_cons_zero, List.getElem?_cons_succ] at kt1
                  have hpos30 := hA30.tin.pos
                  by_cases hgo3 : m < Z ∧ 0 ≤ p30
                  · obtain ⟨hmZ, hp30⟩ := hgo3
                    have d3 : decide ((m : Int) < Z) = true := by simpa using hmZ
                    have d4 : decide ((0 : Int) ≤ p30) = true := by simpa using hp30
                    have hE31 : decP xs = if false then none else (decI (xs.drop p30.toNat)).bind fun p => (decIs (Z - (m + 1)) p.2).bind fun q => H (is ++ [p.1] ++ q.1, q.2) := by
                      have h := decIs_step (n := Z - (m + 1)) (D := decP xs) (bad := decide (p30 < 0)) (ks := is) (r := xs.drop p30.toNat) (G := H) (by rw [show Z - (m + 1) + 1 = Z - m by omega]; exact hE30.out)
                      rw [decide_eq_false (show ¬ p30 < 0 by omega)] at h
                      exact h
                    have hncF := own_blk_ne hA30.co hA30.fb (by decide)
                    have HA30 := Lib.hid hA30
                    have HE31 := Lib.hid hE31
                    have Hil := Lib.hid hil
                    have HncF := Lib.hid hncF
                    clear hncF hil hE31 hA30
                    clear hE30
                    go_wp2_with fail
                    refine (next_any T B 1 A n c xs p30 _ HA30.out.tin hBT (by omega) _ rfl).mono ?_
                    rintro e w32 ⟨o, p32, rfl, ho0, ho1, hT32, hg32, hs32⟩
                    rw [decide_eq_false (show ¬ p30 < 0 by omega)] at hs32
                    replace ho1 : o < 256 := by omega
                    have hA32 := HA30.out.next hT32 hg32
                    obtain ⟨X, hXe⟩ : ∃ X, X = w32.heap.size := ⟨_, rfl⟩
                    obtain ⟨W33, hW33⟩ : ∃ W33, W33 = w32.alloc (.cells #[.int .u8 o, .int .i64 0, .int .u64 0] 49) := ⟨_, rfl⟩
                    have hA33 : RdA w w.heap.size T P F B A n c xs p32 pv4 css4 fs4 a lv ks (d == 1) (keepOf kp) cv is W33 := by rw [hW33]; exact hA32.alloc _
                    have hX33 : Blk W33 X 49 #[.int .u8 o, .int .i64 0, .int .u64 0] := by rw [hXe, hW33]; exact Blk.new _ _ _
                    have hFX : F < X := by have := hA32.fb.lt; omega
                    have hlX : lv.ownBlock ≠ some X := fun e => by have := (hA32.lo.lt X e).2; omega
                    have hcX : cv.ownBlock ≠ some X := fun e => by have := (hA32.co.lt X e).2; omega
                    have kx0 := Blk.cell hX33 0
                    simp only [List.getElem?_toArray, List.getElem?_cons_zero, List.getElem?_cons_succ] at kx0
                    have HA33 := Lib.hid hA33
                    have HX33 := Lib.hid hX33
                    have HlX := Lib.hid hlX
                    have HcX := Lib.hid hcX
                    have Hs32 := Lib.hid hs32
                    have HXe := Lib.hid hXe
                    have HW33 := Lib.hid hW33
                    clear hW33 hXe hs32 hcX hlX hX33 hA33
                    clear hg32 hT32 hA32 d3 d4 kt1
                    go_upto_region 26 with fail
                    rw [← HXe.out, ← HW33.out]
                    rcases width_cases o with hw | hw | hw | hw | hw
                    · have Hw := Lib.hid hw
                      clear hw
                      go_wp2_with fail
                      refine (refwidth_as o 8 _ Hw.out).mono ?_
                      rintro e w' ⟨rfl, rfl⟩
                      go_wp2_with fail
                      refine (next_any T B 8 A n c xs p32 _ HA33.out.tin hBT (by omega) _ rfl).mono ?_
                      rintro e w34 ⟨v, p34, rfl, hq0, hq1, hT34, hg34, hs34⟩
                      replace hq1 : v < 18446744073709551616 := by omega
                      have hE35 := decI_8 HE31.out Hs32.out Hw.out hs34
                      have hA34 := HA33.out.next hT34 hg34
                      have hX34 := HX33.out.grown hg34 (by intro e; injection e with e; omega)
                      have hA35 := hA34.setX hFX HlX.out HcX.out 2 (.int .u64 v)
                      have hX35 : Blk _ X 49 #[.int .u8 o, .int .i64 0, .int .u64 v] := Blk.set_ hX34 2 (.int .u64 v)
                      have ky2 := Blk.cell hX34 2
                      simp only [List.getElem?_toArray, List.getElem?_cons_zero, List.getElem?_cons_succ] at ky2
                      have fy2 := Blk.frozen hX34 2
                      have HE35 := Lib.hid hE35
                      have HA35 := Lib.hid hA35
                      have HX35 := Lib.hid hX35
                      clear hX35 hA35 hE35
                      clear hg34 hT34 hs34 hA34 hX34
                      go_upto_region 33 with fail
                      obtain ⟨W35, hW35⟩ : ∃ W35, W35 = w34.setCell ⟨X, 2, none⟩ (.int .u64 v) := ⟨_, rfl⟩
                      rw [← hW35]
                      rw [← hW35] at HA35 HX35
                      clear hW35 ky2 fy2
                      have HC35 : Hid (W35.ownsRow F 49 3 cv m (is.flatMap icells)) := by have h := HA35.out.co; rw [Hil.out] at h; exact h
                      have hX35c := HX35.out
                      have kx0 := Blk.cell hX35c 0
                      have kx1 := Blk.cell hX35c 1
                      have kx2 := Blk.cell hX35c 2
                      simp only [List.getElem?_toArray, List.getElem?_cons_zero, List.getElem?_cons_succ] at kx0 kx1 kx2
                      have kf4 := Blk.cell HA35.out.fb 4
                      simp only [List.getElem?_toArray, List.getElem?_cons_zero, List.getElem?_cons_succ] at kf4
                      have hsz35 := HA35.out.rb.low.2.2.2.2
                      clear hX35c
                      go_wp2_with (first
                        | (at_builtin
                           refine wpList_append_any _ rfl (.tmp 115) (.tmp 117) _ rfl F 49 i1 _ 3 24 Try.underlying43 hi1 hy0 hy1 hy2 rfl (by omega) cv m (is.flatMap icells) rfl (HC35.out.alloc _) (W35.heap.size + 1) (some ⟨W35.heap.size, 0, none⟩) 1 1 [.int .u8 o, .int .i64 0, .int .u64 v] rfl (Reads.newS _ rfl _ _ _ _ _ rfl rfl) ?c1 ?c2 ?c3 ?c4 ?_
                           case c1 => intro u hu; simp only [List.mem_cons, List.not_mem_nil, or_false] at hu; rcases hu with rfl | rfl | rfl <;> rfl
                           case c2 => simp only [maxLen]; omega
                           case c3 => omega
                           case c4 => simp; omega
                           intro v36 w36 hown36 hg36 hat36
                           obtain ⟨g36, c36, rfl, _⟩ := own_form hown36 (by omega)
                           have hF36 := (HA35.out.alloc (.cells #[.int .u8 o, .int .i64 0, .int .u64 v] 49)).fb.grown hg36 (Ne.symm HncF.out)
                           have k364 := Blk.cell hF36 4
                           have f364 := Blk.frozen hF36 4
                           simp only [List.getElem?_toArray, List.getElem?_cons_zero, List.getElem?_cons_succ] at k364))
                      have hA37 := (HA35.out.alloc (.cells #[.int .u8 o, .int .i64 0, .int .u64 v] 49)).addI (x := ⟨o, 0, v⟩) hg36 (by rw [Hil.out]; exact hown36)
                      exact ⟨⟨m + 1, by omega, by go_num, _, _, _, hA37, by have := Hil.out; simp; omega, HE35.out⟩, by simp [intOf]; omega⟩
                    · have Hw := Lib.hid hw
                      clear hw
                      go_wp2_with fail
                      refine (refwidth_as o 2 _ Hw.out).mono ?_
                      rintro e w' ⟨rfl, rfl⟩
                      go_wp2_with fail
                      refine (next_any T B 2 A n c xs p32 _ HA33.out.tin hBT (by omega) _ rfl).mono ?_
                      rintro e w34 ⟨v, p34, rfl, hq0, hq1, hT34, hg34, hs34⟩
                      replace hq1 : v < 65536 := by omega
                      have hE35 := decI_k (k := 2) HE31.out Hs32.out Hw.out (by omega) hs34
                      have hA34 := HA33.out.next hT34 hg34
                      have hX34 := HX33.out.grown hg34 (by intro e; injection e with e; omega)
                      have hA35 := hA34.setX hFX HlX.out HcX.out 1 (.int .i64 v)
                      have hX35 : Blk _ X 49 #[.int .u8 o, .int .i64 v, .int .u64 0] := Blk.set_ hX34 1 (.int .i64 v)
                      have ky1 := Blk.cell hX34 1
                      simp only [List.getElem?_toArray, List.getElem?_cons_zero, List.getElem?_cons_succ] at ky1
                      have fy1 := Blk.frozen hX34 1
                      have HE35 := Lib.hid hE35
                      have HA35 := Lib.hid hA35
                      have HX35 := Lib.hid hX35
                      clear hX35 hA35 hE35
                      clear hg34 hT34 hs34 hA34 hX34
                      go_upto_region 33 with fail
                      obtain ⟨W35, hW35⟩ : ∃ W35, W35 = w34.setCell ⟨X, 1, none⟩ (.int .i64 v) := ⟨_, rfl⟩
                      rw [← hW35]
                      rw [← hW35] at HA35 HX35
                      clear hW35 ky1 fy1
                      have HC35 : Hid (W35.ownsRow F 49 3 cv m (is.flatMap icells)) := by have h := HA35.out.co; rw [Hil.out] at h; exact h
                      have hX35c := HX35.out
                      have kx0 := Blk.cell hX35c 0
                      have kx1 := Blk.cell hX35c 1
                      have kx2 := Blk.cell hX35c 2
                      simp only [List.getElem?_toArray, List.getElem?_cons_zero, List.getElem?_cons_succ] at kx0 kx1 kx2
                      have kf4 := Blk.cell HA35.out.fb 4
                      simp only [List.getElem?_toArray, List.getElem?_cons_zero, List.getElem?_cons_succ] at kf4
                      have hsz35 := HA35.out.rb.low.2.2.2.2
                      clear hX35c
                      go_wp2_with (first
                        | (at_builtin
                           refine wpList_append_any _ rfl (.tmp 115) (.tmp 117) _ rfl F 49 i1 _ 3 24 Try.underlying43 hi1 hy0 hy1 hy2 rfl (by omega) cv m (is.flatMap icells) rfl (HC35.out.alloc _) (W35.heap.size + 1) (some ⟨W35.heap.size, 0, none⟩) 1 1 [.int .u8 o, .int .i64 v, .int .u64 0] rfl (Reads.newS _ rfl _ _ _ _ _ rfl rfl) ?c1 ?c2 ?c3 ?c4 ?_
                           case c1 => intro u hu; simp only [List.mem_cons, List.not_mem_nil, or_false] at hu; rcases hu with rfl | rfl | rfl <;> rfl
                           case c2 => simp only [maxLen]; omega
                           case c3 => omega
                           case c4 => simp; omega
                           intro v36 w36 hown36 hg36 hat36
                           obtain ⟨g36, c36, rfl, _⟩ := own_form hown36 (by omega)
                           have hF36 := (HA35.out.alloc (.cells #[.int .u8 o, .int .i64 v, .int .u64 0] 49)).fb.grown hg36 (Ne.symm HncF.out)
                           have k364 := Blk.cell hF36 4
                           have f364 := Blk.frozen hF36 4
                           simp only [List.getElem?_toArray, List.getElem?_cons_zero, List.getElem?_cons_succ] at k364))
                      have hA37 := (HA35.out.alloc (.cells #[.int .u8 o, .int .i64 v, .int .u64 0] 49)).addI (x := ⟨o, v, 0⟩) hg36 (by rw [Hil.out]; exact hown36)
                      exact ⟨⟨m + 1, by omega, by go_num, _, _, _, hA37, by have := Hil.out; simp; omega, HE35.out⟩, by simp [intOf]; omega⟩
                    · have Hw := Lib.hid hw
                      clear hw
                      go_wp2_with fail
                      refine (refwidth_as o 1 _ Hw.out).mono ?_
                      rintro e w' ⟨rfl, rfl⟩
                      go_wp2_with fail
                      refine (next_any T B 1 A n c xs p32 _ HA33.out.tin hBT (by omega) _ rfl).mono ?_
                      rintro e w34 ⟨v, p34, rfl, hq0, hq1, hT34, hg34, hs34⟩
                      replace hq1 : v < 256 := by omega
                      have hE35 := decI_k (k := 1) HE31.out Hs32.out Hw.out (by omega) hs34
                      have hA34 := HA33.out.next hT34 hg34
                      have hX34 := HX33.out.grown hg34 (by intro e; injection e with e; omega)
                      have hA35 := hA34.setX hFX HlX.out HcX.out 1 (.int .i64 v)
                      have hX35 : Blk _ X 49 #[.int .u8 o, .int .i64 v, .int .u64 0] := Blk.set_ hX34 1 (.int .i64 v)
                      have ky1 := Blk.cell hX34 1
                      simp only [List.getElem?_toArray, List.getElem?_cons_zero, List.getElem?_cons_succ] at ky1
                      have fy1 := Blk.frozen hX34 1
                      have HE35 := Lib.hid hE35
                      have HA35 := Lib.hid hA35
                      have HX35 := Lib.hid hX35
                      clear hX35 hA35 hE35
                      clear hg34 hT34 hs34 hA34 hX34
                      go_upto_region 33 with fail
                      obtain ⟨W35, hW35⟩ : ∃ W35, W35 = w34.setCell ⟨X, 1, none⟩ (.int .i64 v) := ⟨_, rfl⟩
                      rw [← hW35]
                      rw [← hW35] at HA35 HX35
                      clear hW35 ky1 fy1
                      have HC35 : Hid (W35.ownsRow F 49 3 cv m (is.flatMap icells)) := by have h := HA35.out.co; rw [Hil.out] at h; exact h
                      have hX35c := HX35.out
                      have kx0 := Blk.cell hX35c 0
                      have kx1 := Blk.cell hX35c 1
                      have kx2 := Blk.cell hX35c 2
                      simp only [List.getElem?_toArray, List.getElem?_cons_zero, List.getElem?_cons_succ] at kx0 kx1 kx2
                      have kf4 := Blk.cell HA35.out.fb 4
                      simp only [List.getElem?_toArray, List.getElem?_cons_zero, List.getElem?_cons_succ] at kf4
                      have hsz35 := HA35.out.rb.low.2.2.2.2
                      clear hX35c
                      go_wp2_with (first
                        | (at_builtin
                           refine wpList_append_any _ rfl (.tmp 115) (.tmp 117) _ rfl F 49 i1 _ 3 24 Try.underlying43 hi1 hy0 hy1 hy2 rfl (by omega) cv m (is.flatMap icells) rfl (HC35.out.alloc _) (W35.heap.size + 1) (some ⟨W35.heap.size, 0, none⟩) 1 1 [.int .u8 o, .int .i64 v, .int .u64 0] rfl (Reads.newS _ rfl _ _ _ _ _ rfl rfl) ?c1 ?c2 ?c3 ?c4 ?_
                           case c1 => intro u hu; simp only [List.mem_cons, List.not_mem_nil, or_false] at hu; rcases hu with rfl | rfl | rfl <;> rfl
                           case c2 => simp only [maxLen]; omega
                           case c3 => omega
                           case c4 => simp; omega
                           intro v36 w36 hown36 hg36 hat36
                           obtain ⟨g36, c36, rfl, _⟩ := own_form hown36 (by omega)
                           have hF36 := (HA35.out.alloc (.cells #[.int .u8 o, .int .i64 v, .int .u64 0] 49)).fb.grown hg36 (Ne.symm HncF.out)
                           have k364 := Blk.cell hF36 4
                           have f364 := Blk.frozen hF36 4
                           simp only [List.getElem?_toArray, List.getElem?_cons_zero, List.getElem?_cons_succ] at k364))
                      have hA37 := (HA35.out.alloc (.cells #[.int .u8 o, .int .i64 v, .int .u64 0] 49)).addI (x := ⟨o, v, 0⟩) hg36 (by rw [Hil.out]; exact hown36)
                      exact ⟨⟨m + 1, by omega, by go_num, _, _, _, hA37, by have := Hil.out; simp; omega, HE35.out⟩, by simp [intOf]; omega⟩
                    · have Hw := Lib.hid hw
                      clear hw
                      go_wp2_with fail
                      refine (refwidth_as o 0 _ Hw.out).mono ?_
                      rintro e w' ⟨rfl, rfl⟩
                      have hE35 := decI_k (k := 0) HE31.out Hs32.out Hw.out (by omega) (show (if decide (p32 < 0) then none else num 0 (xs.drop p32.toNat)) = if decide (p32 < 0) then none else some (0, xs.drop p32.toNat) by rw [num_zero])
                      have HE35 := Lib.hid hE35
                      clear hE35
                      go_upto_region 33 with fail
                      obtain ⟨W35, hW35⟩ : ∃ W35, W35 = W33 := ⟨_, rfl⟩
                      subst hW35
                      have HA35 := HA33
                      have HX35 := HX33
                      have HC35 : Hid (W35.ownsRow F 49 3 cv m (is.flatMap icells)) := by have h := HA35.out.co; rw [Hil.out] at h; exact h
                      have hX35c := HX35.out
                      have kx0 := Blk.cell hX35c 0
                      have kx1 := Blk.cell hX35c 1
                      have kx2 := Blk.cell hX35c 2
                      simp only [List.getElem?_toArray, List.getElem?_cons_zero, List.getElem?_cons_succ] at kx0 kx1 kx2
                      have kf4 := Blk.cell HA35.out.fb 4
                      simp only [List.getElem?_toArray, List.getElem?_cons_zero, List.getElem?_cons_succ] at kf4
                      have hsz35 := HA35.out.rb.low.2.2.2.2
                      clear hX35c
                      go_wp2_with (first
                        | (at_builtin
                           refine wpList_append_any _ rfl (.tmp 115) (.tmp 117) _ rfl F 49 i1 _ 3 24 Try.underlying43 hi1 hy0 hy1 hy2 rfl (by omega) cv m (is.flatMap icells) rfl (HC35.out.alloc _) (W35.heap.size + 1) (some ⟨W35.heap.size, 0, none⟩) 1 1 [.int .u8 o, .int .i64 0, .int .u64 0] rfl (Reads.newS _ rfl _ _ _ _ _ rfl rfl) ?c1 ?c2 ?c3 ?c4 ?_
                           case c1 => intro u hu; simp only [List.mem_cons, List.not_mem_nil, or_false] at hu; rcases hu with rfl | rfl | rfl <;> rfl
                           case c2 => simp only [maxLen]; omega
                           case c3 => omega
                           case c4 => simp; omega
                           intro v36 w36 hown36 hg36 hat36
                           obtain ⟨g36, c36, rfl, _⟩ := own_form hown36 (by omega)
                           have hF36 := (HA35.out.alloc (.cells #[.int .u8 o, .int .i64 0, .int .u64 0] 49)).fb.grown hg36 (Ne.symm HncF.out)
                           have k364 := Blk.cell hF36 4
                           have f364 := Blk.frozen hF36 4
                           simp only [List.getElem?_toArray, List.getElem?_cons_zero, List.getElem?_cons_succ] at k364))
                      have hA37 := (HA35.out.alloc (.cells #[.int .u8 o, .int .i64 0, .int .u64 0] 49)).addI (x := ⟨o, 0, 0⟩) hg36 (by rw [Hil.out]; exact hown36)
                      exact ⟨⟨m + 1, by omega, by go_num, _, _, _, hA37, by have := Hil.out; simp; omega, HE35.out⟩, by simp [intOf]; omega⟩
                    · have hE := decI_none HE31.out Hs32.out hw
                      have hR35 := HA33.out.rb.res
                      have hb35 := HA33.out.rb.bel
                      have kr0 := Blk.cell hR35 0
                      simp only [List.getElem?_toArray, List.getElem?_cons_zero, List.getElem?_cons_succ] at kr0
                      have fr0 := Blk.frozen hR35 0
                      have Hw := Lib.hid hw
                      have HE := Lib.hid hE
                      have HR35 := Lib.hid hR35
                      have Hb35 := Lib.hid hb35
                      clear hb35 hR35 hE hw
                      go_wp2_with fail
                      refine (refwidth_as o (-1) _ Hw.out).mono ?_
                      rintro e w' ⟨rfl, rfl⟩
                      go_wp2_with fail
                      refine bodyPost_ret (results_row_tmp rfl _ _ w.heap.size 26 _ (0, 0) _ rfl (Blk.set_ HR35.out 0 _) Try.underlying26 (by kernel_rfl)) rfl ?_
                      exact ⟨(Hb35.out).setCell (by simp) _, .inl ⟨HE.out, rfl⟩⟩
                  · have hE40 : decP xs = if decide (p30 < 0) then none else H (is, xs.drop p30.toNat) := by
                      rw [hE30.out]
                      by_cases hp : p30 < 0
                      · rw [decide_eq_true hp]; rfl
                      · rw [show Z - m = 0 by omega, decIs]; simp
                    rw [HHe.out] at hE40
                    have hE41 : decP xs = if decide (p30 < 0) then none else if chkF a k d ks then none else KK (⟨a, ks, d == 1, keepOf kp, is⟩, xs.drop p30.toNat) := hE40
                    have hmz : (decide ((m : Int) < Z) = true ∧ decide ((0 : Int) ≤ p30) = false) ∨ decide ((m : Int) < Z) = false := by
                      simp only [decide_eq_true_eq, decide_eq_false_iff_not]; omega
                    have hmZ65 : m < 65536 := by omega
                    obtain ⟨LA, lc, rfl, hl1, hl2, hl3⟩ := own_any hA30.lo
                    obtain ⟨CA, cc, rfl, hm1, hm2, hm3⟩ := own_any hA30.co
                    rw [hkl] at hA30 hl1 hl3
                    rw [hil] at hA30 hm1 hm3
                    obtain ⟨W40, hW40⟩ : ∃ W40, W40 = wr := ⟨_, rfl⟩
                    subst hW40
                    have hR40 := hA30.rb.res
                    have hb40 := hA30.rb.bel
                    have hO40 := hA30.rb.own
                    have hP40 := hA30.rb.prog
                    have kf0 := Blk.cell hA30.fb 0
                    have kf1 := Blk.cell hA30.fb 1
                    have kf2 := Blk.cell hA30.fb 2
                    have kf3 := Blk.cell hA30.fb 3
                    have kf4 := Blk.cell hA30.fb 4
                    simp only [List.getElem?_toArray, List.getElem?_cons_zero, List.getElem?_cons_succ] at kf0 kf1 kf2 kf3 kf4
                    have kr0 := Blk.cell hR40 0
                    simp only [List.getElem?_toArray, List.getElem?_cons_zero, List.getElem?_cons_succ] at kr0
                    have fr0 := Blk.frozen hR40 0
                    have kp0 := Blk.cell hP40 0
                    simp only [List.getElem?_toArray, List.getElem?_cons_zero, List.getElem?_cons_succ] at kp0
                    unfold maxLen at hl2 hm2
                    have HE41 := Lib.hid hE41
                    have HA30 := Lib.hid hA30
                    have HR40 := Lib.hid hR40
                    have Hb40 := Lib.hid hb40
                    have HO40 := Lib.hid hO40
                    have HP40 := Lib.hid hP40
                    have Hl3 := Lib.hid hl3
                    have Hm3 := Lib.hid hm3
                    have Hil := Lib.hid hil
                    clear hil hm3 hl3 hP40 hO40 hb40 hR40 hA30 hE41
                    clear hE40 hE30
                    have hmz2 : ((m : Int) < Z ∧ p30 = -1) ∨ ¬ (m : Int) < Z := by
                      rcases hmz with ⟨d3, d4⟩ | d3
                      · simp only [decide_eq_false_iff_not, decide_eq_true_eq] at d3 d4
                        exact .inl ⟨d3, by omega⟩
                      · simp only [decide_eq_false_iff_not] at d3
                        exact .inr d3
                    clear hmz hpos30 hgo3
                    have hmz3 : ((m : Int) < Z ∧ W40.cell? ⟨T, 1, none⟩ = some (.int .i64 (-1))) ∨ ¬ (m : Int) < Z := by
                      rcases hmz2 with ⟨d3, hp1⟩ | d3
                      · rw [hp1] at kt1; exact .inl ⟨d3, kt1⟩
                      · exact .inr d3
                    clear hmz2 kt1
                    rcases hmz3 with ⟨d3, kt1⟩ | d3
                    all_goals
                      go_upto_region 34 with fail
                      clear d3
                      try clear kt1
                      go_wp2_with fail
                      go_loopw [123] (fun i wq => ∃ q : Nat, q ≤ k ∧ i = .int .i64 q ∧ wq = W40 ∧ Hid (∀ l ∈ ks.take q, l ≤ 1)) (fun i _ => k - (intOf i).toNat)
                      case atStart => exact ⟨0, by omega, rfl, rfl, by intro x hx; simp at hx⟩
                      case round =>
                        obtain ⟨q, hq, rfl, rfl, hle⟩ := hrel
                        by_cases hqk : q < k
                        · obtain ⟨ad, u, rfl, _, hu, hcell⟩ := Hl3.out.at_ hqk
                          obtain ⟨x, hxk, rfl⟩ : ∃ x, ks[q]? = some x ∧ u = .int .u8 x := by
                            rw [kindVals, List.getElem?_map, Option.map_eq_some_iff] at hu
                            obtain ⟨x, h1, h2⟩ := hu
                            exact ⟨x, h1, h2.symm⟩
                          have Hxk := Lib.hid hxk
                          have Hle := Lib.hid hle
                          clear hle hxk
                          clear hu
                          by_cases hx1 : 1 < x
                          · have dx : decide (1 < x) = true := by simpa using hx1
                            have hE : decP xs = none := chk_none HE41.out (by
                              unfold chkF
                              have : (ks.any fun l => decide (1 < l)) = true := List.any_eq_true.2 ⟨x, List.mem_of_getElem? Hxk.out, dx⟩
                              rw [this]; rfl)
                            have HE := Lib.hid hE
                            clear hE
                            go_wp2_with fail
                            refine bodyPost_ret (results_row_tmp rfl _ _ w.heap.size 26 _ (0, 0) _ rfl (Blk.set_ HR40.out 0 _) Try.underlying26 (by kernel_rfl)) rfl ?_
                            exact ⟨(Hb40.out).setCell (by simp) _, .inl ⟨HE.out, rfl⟩⟩
                          · have dx : decide (1 < x) = false := by simpa using hx1
                            go_wp2_with fail
                            refine ⟨⟨q + 1, by omega, by go_num, by first | rfl | trivial, ?_⟩, by simp [intOf]; omega⟩
                            show ∀ y ∈ _, y ≤ 1
                            rw [List.take_add_one, Hxk.out]
                            intro y hy
                            rcases List.mem_append.1 hy with h | h
                            · exact Hle.out y h
                            · simp at h; omega
                        · have hany : (ks.any fun l => decide (1 < l)) = false := by
                            rw [List.any_eq_false]
                            intro y hy
                            have := hle.out y (by rw [List.take_of_length_le (by omega)]; exact hy)
                            simp only [decide_eq_true_eq]; omega
                          obtain rfl : q = k := by omega
                          by_cases hd2 : 1 < d
                          · have dd : decide (1 < d) = true := by simpa using hd2
                            have hE : decP xs = none := chk_none HE41.out (by unfold chkF; rw [dd]; simp)
                            have HE := Lib.hid hE
                            have Hany := Lib.hid hany
                            clear hany hE
                            go_wp2_with fail
                            refine bodyPost_ret (results_row_tmp rfl _ _ w.heap.size 26 _ (0, 0) _ rfl (Blk.set_ HR40.out 0 _) Try.underlying26 (by kernel_rfl)) rfl ?_
                            exact ⟨(Hb40.out).setCell (by simp) _, .inl ⟨HE.out, rfl⟩⟩
                          · have dd : decide (1 < d) = false := by simpa using hd2
                            by_cases ha2 : (q : Int) < a
                            · have da : decide ((q : Int) < a) = true := by simpa using ha2
                              have hE : decP xs = none := chk_none HE41.out (by unfold chkF; rw [da]; simp)
                              have HE := Lib.hid hE
                              have Hany := Lib.hid hany
                              clear hany hE
                              go_wp2_with fail
                              refine bodyPost_ret (results_row_tmp rfl _ _ w.heap.size 26 _ (0, 0) _ rfl (Blk.set_ HR40.out 0 _) Try.underlying26 (by kernel_rfl)) rfl ?_
                              exact ⟨(Hb40.out).setCell (by simp) _, .inl ⟨HE.out, rfl⟩⟩
                            · have da : decide ((q : Int) < a) = false := by simpa using ha2
                              have hE42 : decP xs = if decide (p30 < 0) then none else KK (⟨a, ks, d == 1, keepOf kp, is⟩, xs.drop p30.toNat) := by
                                rw [HE41.out, show chkF a q d ks = false by unfold chkF; rw [hany, dd, da]; rfl]; simp
                              have hE43 : decP xs = if decide (p30 < 0) then none else if decide ((N : Int) = 0) then none else (decFs (N - (j + 1)) (xs.drop p30.toNat)).bind fun q2 => endP (fs4 ++ [⟨a, ks, d == 1, keepOf kp, is⟩] ++ q2.1, q2.2) := by
                                rw [hE42, HKe.out, decide_eq_false (show ¬ (N : Int) = 0 by omega)]; simp
                              have hnP := own_blk_ne HO40.out HP40.out (by decide)
                              have hsz40 := HA30.out.rb.low
                              have HE43 := Lib.hid hE43
                              have HnP := Lib.hid hnP
                              clear hnP hE43
                              clear hE42 hany hle
                              go_wp2_with (first
                                | (at_builtin
                                   refine wpList_append_any _ rfl (.tmp 141) (.tmp 143) _ rfl w.heap.size 45 i0 _ 5 72 Try.underlying24 hi0 hz0 hz1 hz2 rfl (by omega) pv4 fs4.length css4.flatten rfl (HO40.out.alloc _) (wr.heap.size + 1) (some ⟨wr.heap.size, 0, none⟩) 1 1 [.int .i64 a, .slice LA q lc, .bool (d == 1), .int .i64 (keepOf kp), .slice CA m cc] rfl (Reads.newS _ rfl _ _ _ _ _ rfl rfl) ?c1 ?c2 ?c3 ?c4 ?_
                                   case c1 => intro u hu; simp only [List.mem_cons, List.not_mem_nil, or_false] at hu; rcases hu with rfl | rfl | rfl | rfl | rfl <;> rfl
                                   case c2 => simp only [maxLen]; omega
                                   case c3 => omega
                                   case c4 => simp; omega
                                   intro v44 w44 hown44 hg44 hat44
                                   obtain ⟨g44, c44, rfl, _⟩ := own_form hown44 (by omega)
                                   have hP44 := (HP40.out.alloc (.cells #[.int .i64 a, .slice LA q lc, .bool (d == 1), .int .i64 (keepOf kp), .slice CA m cc] 45)).grown hg44 (Ne.symm HnP.out)
                                   have kp44 := Blk.cell hP44 0
                                   have fp44 := Blk.frozen hP44 0
                                   simp only [List.getElem?_toArray, List.getElem?_cons_zero, List.getElem?_cons_succ] at kp44))
                              have hJ := (HA30.out.alloc (.cells #[.int .i64 a, .slice LA q lc, .bool (d == 1), .int .i64 (keepOf kp), .slice CA m cc] 45)).join hg44 hown44
                              rw [hfl4] at hJ
                              exact ⟨⟨j + 1, by omega, by go_num, p30, _, _, _, _, hJ.1, hJ.2, by simp; omega, HE43.out⟩, by simp [intOf]; omega⟩
        · have hR4 := hB4.res
          have hPc := hB4.prog
          have hb4 := hB4.bel
          have hfin := hB4.fin pv4
          have hpos := hT4.pos
          have kr0 := Blk.cell hR4 0
          simp only [List.getElem?_toArray, List.getElem?_cons_zero, List.getElem?_cons_succ] at kr0
          have fr0 := Blk.frozen hR4 0
          have kp0 := Blk.cell hPc 0
          simp only [List.getElem?_toArray, List.getElem?_cons_zero, List.getElem?_cons_succ] at kp0
          have hlen := HL.out
          obtain ⟨QA, qc, hpv, _⟩ := own_any hB4.own
          rw [hfl4] at hpv
          replace hD4 := hD4.out
          by_cases hp : p4 < 0
          · have hE : decP xs = none := st_end hD4 hp
            have hpn : p4 = -1 := by omega
            subst hpn
            have hne : ((-1 : Int) != n) = true := by simp only [bne_iff_ne]; omega
            have HE := Lib.hid hE
            have HR4 := Lib.hid hR4
            have Hb4 := Lib.hid hb4
            clear hb4 hR4 hE
            clear hD4 hT4 hB4 hTc hPc hfin
            by_cases hjN : (j : Int) < N <;> by_cases hN0 : (N : Int) = 0
            all_goals first | (exfalso; omega) | skip
            all_goals
              have b1 : ((N : Int) == 0) = decide ((N : Int) = 0) := by rw [Bool.eq_iff_iff]; simp
              simp only [hN0, decide_true, decide_false] at b1
              go_wp2_with fail
              refine bodyPost_ret (results_row_tmp rfl _ _ w.heap.size 26 _ (0, 0) _ rfl (Blk.set_ HR4.out 0 _) Try.underlying26 (by kernel_rfl)) rfl ?_
              exact ⟨Hb4.out.setCell (by simp) _, .inl ⟨HE.out, rfl⟩⟩
          · obtain rfl : j = N := by omega
            obtain ⟨p, rfl⟩ : ∃ p : Nat, p4 = p := ⟨p4.toNat, by omega⟩
            by_cases hN0 : (j : Int) = 0
            · have hE : decP xs = none := by rw [st_go hD4 hp, decide_eq_true hN0]; rfl
              have b1 : ((j : Int) == 0) = true := by simpa using hN0
              have HE := Lib.hid hE
              have HR4 := Lib.hid hR4
              have Hb4 := Lib.hid hb4
              clear hb4 hR4 hE
              clear hD4 hT4 hB4 hTc hPc hfin
              go_wp2_with fail
              refine bodyPost_ret (results_row_tmp rfl _ _ w.heap.size 26 _ (0, 0) _ rfl (Blk.set_ HR4.out 0 _) Try.underlying26 (by kernel_rfl)) rfl ?_
              exact ⟨Hb4.out.setCell (by simp) _, .inl ⟨HE.out, rfl⟩⟩
            · have b1 : ((j : Int) == 0) = false := by simpa using hN0
              have hD5 : decP xs = endP (fs4, xs.drop p) := by
                rw [st_go hD4 hp, decide_eq_false hN0, Nat.sub_self, decFs]; simp
              by_cases hpn : p < n
              · have hE : decP xs = none := end_none hD5 hlen hpn
                have hne : ((p : Int) != n) = true := by simp only [bne_iff_ne]; omega
                have HE := Lib.hid hE
                have HR4 := Lib.hid hR4
                have Hb4 := Lib.hid hb4
                clear hb4 hR4 hE
                clear hD4 hD5 hT4 hB4 hTc hPc hfin
                go_wp2_with fail
                refine bodyPost_ret (results_row_tmp rfl _ _ w.heap.size 26 _ (0, 0) _ rfl (Blk.set_ HR4.out 0 _) Try.underlying26 (by kernel_rfl)) rfl ?_
                exact ⟨Hb4.out.setCell (by simp) _, .inl ⟨HE.out, rfl⟩⟩
              · obtain rfl : p = n := by omega
                have hE : decP xs = some fs4 := end_some hD5 hlen
                have hne : ((p : Int) != p) = false := by simp
                have HE := Lib.hid hE
                have HR4 := Lib.hid hR4
                have Hb4 := Lib.hid hb4
                have Hfin := Lib.hid hfin
                clear hfin hb4 hR4 hE
                clear hD4 hD5 hT4 hB4 hTc hPc
                subst hpv
                go_wp2_with fail
                refine bodyPost_ret (results_row_tmp rfl _ _ w.heap.size 26 _ (0, 0) _ rfl (Blk.set_ HR4.out 0 _) Try.underlying26 (by kernel_rfl)) rfl ?_
                exact ⟨Hb4.out.setCell (by simp) _, .inr ⟨_, _, HE.out, rfl, Hfin.out⟩⟩
    · have e2 : (v2 != 76) = true := by simp [hv2]
      have hE : decP xs = none := by rw [hD2]; simp [hv2]
      have kr0 := Blk.cell HR2.out 0
      simp only [List.getElem?_toArray, List.getElem?_cons_zero, List.getElem?_cons_succ] at kr0
      have fr0 := Blk.frozen HR2.out 0
      have HE := Lib.hid hE
      clear hE
      clear hD2
      go_wp2_with fail
      refine bodyPost_ret (results_row_tmp rfl _ _ w.heap.size 26 _ (0, 0) _ rfl (Blk.set_ HR2.out 0 _) Try.underlying26 (by kernel_rfl)) rfl ?_
      exact ⟨Hb2.out.setCell (by simp) _, .inl ⟨HE.out, rfl⟩⟩
  · have e1 : (v1 != 87) = true := by simp [hv1]
    have hE : decP xs = none := st_none HD1.out fun b => by simp [hv1]
    have kr0 := Blk.cell HR1.out 0
    simp only [List.getElem?_toArray, List.getElem?_cons_zero, List.getElem?_cons_succ] at kr0
    have fr0 := Blk.frozen HR1.out 0
    have HE := Lib.hid hE
    clear hE
    go_wp2_with fail
    refine bodyPost_ret (results_row_tmp rfl _ _ w.heap.size 26 _ (0, 0) _ rfl (Blk.set_ HR1.out 0 _) Try.underlying26 (by kernel_rfl)) rfl ?_
    exact ⟨Hb1.out.setCell (by simp) _, .inl ⟨HE.out, rfl⟩⟩
end Go.Proofs.Ytcaefdfdngecdaa
