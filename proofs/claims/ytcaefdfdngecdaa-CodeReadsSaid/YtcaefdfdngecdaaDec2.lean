/- Walk of the reader of one function. Conditions: the bytes lie in memory below the reader's own box. -/
import Derived.Test.YtcaefdfdngecdaaPlainDec
import Derived.Test.YtcaefdfdngecdaaEnc3
import Derived.Deep.DeepCutAuto
set_option linter.unusedVariables false
set_option linter.unusedSimpArgs false
namespace Go.Proofs.Ytcaefdfdngecdaa
open Go.RowKit

theorem infoKind : (Try.prog.info? 51).map (fun i => (i.zero, i.size, i.bytes)) = some (some (.int .u8 0), 1, 1) := by kernel_rfl
theorem infoInstr : (Try.prog.info? 49).map (fun i => (i.zero, i.size, i.bytes)) = some (some (.agg #[.int .u8 0, .int .i64 0, .int .u64 0]), 3, 24) := by kernel_rfl
/-- a function that a call made -/
def Mine (w : World) (lo : Nat) (f : FuncD) (lv cv : Value) : Prop :=
  KindsAt w w.heap.size lv f.locals ∧ CodeAt w w.heap.size cv f.code ∧ (∀ k, lv.ownBlock = some k → lo ≤ k ∧ k < w.heap.size) ∧ (∀ k, cv.ownBlock = some k → lo ≤ k ∧ k < w.heap.size)
theorem grown_chain {a b c : World} {R : Nat} {row : Option Nat} (h : a.grownBy b (some R)) (k : b.grownBy c row) (hr : ∀ g, row = some g → a.heap.size ≤ g ∨ g = R) : a.grownBy c (some R) :=
  ⟨k.os.trans h.os, k.tape.trans h.tape, k.output.trans h.output, Nat.le_trans h.size k.size, fun i hi hne => by
    refine (k.block i (Nat.lt_of_lt_of_le hi h.size) ?_).trans (h.block i hi hne)
    intro e
    rcases hr i e.symm with h1 | h1
    · omega
    · exact hne (by rw [h1])⟩
/-- what reading a function leaves -/
def ReadPost (w : World) (R B : Nat) (rest : List Int) (e : Ending) (w' : World) : Prop :=
  ∃ f lv cv sv' bad' rest', e = .returned (.agg (fcells f lv cv).toArray) ∧ RIn w' R B sv' bad' rest' ∧ f.Wf ∧ f.locals.length ≤ 255 ∧ f.code.length ≤ 65535 ∧
    Mine w' w.heap.size f lv cv ∧ w.grownBy w' (some R) ∧ decF rest = if bad' then none else some (f, rest')
def five (w : World) (H : Nat) (a b c d e : Value) : World := ((((w.setCell ⟨H, 0, none⟩ a).setCell ⟨H, 1, none⟩ b).setCell ⟨H, 2, none⟩ c).setCell ⟨H, 3, none⟩ d).setCell ⟨H, 4, none⟩ e
theorem five_size (w : World) (H : Nat) (a b c d e : Value) : (five w H a b c d e).heap.size = w.heap.size := by simp [five, World.setCell]
theorem five_own {w : World} {H base : Nat} {t : TypeId} {size n : Nat} {v : Value} {xs : List Value} (h : w.ownsRow base t size v n xs) (hne : v.ownBlock ≠ some H) (a b c d e : Value) : (five w H a b c d e).ownsRow base t size v n xs :=
  ownsRow_setCell_other (ownsRow_setCell_other (ownsRow_setCell_other (ownsRow_setCell_other (ownsRow_setCell_other h (a := ⟨H, 0, none⟩) hne _) (a := ⟨H, 1, none⟩) hne _) (a := ⟨H, 2, none⟩) hne _) (a := ⟨H, 3, none⟩) hne _) (a := ⟨H, 4, none⟩) hne _
theorem five_rin {w : World} {R B H : Nat} {sv : Value} {bad : Bool} {rest : List Int} (h : RIn w R B sv bad rest) (hB : B ≤ H) (hR : R ≠ H) (a b c d e : Value) : RIn (five w H a b c d e) R B sv bad rest :=
  ((((h.far (p := ⟨H, 0, none⟩) hB hR a).far (p := ⟨H, 1, none⟩) hB hR b).far (p := ⟨H, 2, none⟩) hB hR c).far (p := ⟨H, 3, none⟩) hB hR d).far (p := ⟨H, 4, none⟩) hB hR e
theorem five_grown {w0 w : World} {R H : Nat} (h : w0.grownBy w (some R)) (hH : w0.heap.size ≤ H) (a b c d e : Value) : w0.grownBy (five w H a b c d e) (some R) :=
  only_setCell (g := R) (only_setCell (g := R) (only_setCell (g := R) (only_setCell (g := R) (only_setCell (g := R) h (p := ⟨H, 0, none⟩) (.inr hH) _) (p := ⟨H, 1, none⟩) (.inr hH) _) (p := ⟨H, 2, none⟩) (.inr hH) _) (p := ⟨H, 3, none⟩) (.inr hH) _) (p := ⟨H, 4, none⟩) (.inr hH) _
theorem five_blk {w : World} {H : Nat} {t : TypeId} {z0 z1 z2 z3 z4 : Value} (h : Blk w H t #[z0, z1, z2, z3, z4]) (a b c d e : Value) : Blk (five w H a b c d e) H t #[a, b, c, d, e] :=
  ((((h.set_ 0 a).set_ 1 b).set_ 2 c).set_ 3 d).set_ 4 e
theorem own_own_ne {w : World} {base base' : Nat} {e e' : TypeId} {size size' n n' : Nat} {v v' : Value} {xs xs' : List Value} (h : w.ownsRow base e size v n xs) (h' : w.ownsRow base' e' size' v' n' xs') (hne : e ≠ e') : v.ownBlock = none ∨ v.ownBlock ≠ v'.ownBlock := by
  rcases h.2 with ⟨rfl, _⟩ | ⟨g, cap, cur, rfl, _, hh, _⟩
  · exact .inl rfl
  · exact .inr fun e1 => own_blk_ne (t := e) (cs := cur) (g := g) h' hh (Ne.symm hne) e1.symm
theorem Reads.newS {w : World} (H : Nat) (hH : w.heap.size = H) (cs : Array Value) (t : TypeId) (size n : Nat) (xs : List Value) (hx : cs.toList = xs) (hn : xs.length = n * size) : Reads (w.alloc (.cells cs t)) (H + 1) size (some ⟨H, 0, none⟩) n xs := by
  subst hH hx
  exact ⟨hn, fun _ => ⟨_, rfl, Nat.lt_succ_self _, World.news_of_block (cs := cs) (t := t) (fr := (0, 0)) (heap_alloc_new w _)⟩⟩
theorem fin_read (w wr : World) (R B : Nat) (rest : List Int) (f : FuncD) (lv cv sv : Value) (bad : Bool) (rest' : List Int) (h : RIn wr R B sv bad rest') (hBR : B ≤ R) (hRw : R < w.heap.size)
    (hH : Blk wr w.heap.size 45 #[.int .i64 0, .slice none 0 0, .bool false, .int .i64 0, .slice none 0 0])
    (hO : wr.ownsRow w.heap.size 51 1 lv f.locals.length (kindVals f.locals)) (hC : wr.ownsRow w.heap.size 49 3 cv f.code.length (f.code.flatMap icells))
    (hG : w.grownBy wr (some R)) (hf : f.Wf) (hl : f.locals.length ≤ 255) (hc : f.code.length ≤ 65535) (hD : decF rest = if bad then none else some (f, rest')) :
    ReadPost w R B rest (.returned (.agg #[.int .i64 f.params, lv, .bool f.result, .int .i64 f.keep, cv])) (five wr w.heap.size (.int .i64 f.params) lv (.bool f.result) (.int .i64 f.keep) cv) := by
  refine ⟨f, lv, cv, sv, bad, rest', rfl, five_rin h (by omega) (by omega) _ _ _ _ _, hf, hl, hc, ⟨?_, ?_, fun g e => by rw [five_size]; exact hO.lt g e, fun g e => by rw [five_size]; exact hC.lt g e⟩, five_grown hG (Nat.le_refl _) _ _ _ _ _, hD⟩
  · obtain ⟨A, c, h1, h2, h3, h4⟩ := own_any (five_own hO (own_blk_ne hO hH (by decide)) (.int .i64 f.params) lv (.bool f.result) (.int .i64 f.keep) cv)
    exact ⟨A, _, c, h1, h2, h3, rfl, h4⟩
  · obtain ⟨A, c, h1, h2, h3, h4⟩ := own_any (five_own hC (own_blk_ne hC hH (by decide)) (.int .i64 f.params) lv (.bool f.result) (.int .i64 f.keep) cv)
    exact ⟨A, _, c, h1, h2, h3, rfl, h4⟩
set_option maxRecDepth 100000 in
set_option maxHeartbeats 2000000 in
theorem readf_any (R B : Nat) (sv : Value) (rest : List Int) (w : World) (h : RIn w R B sv false rest) (hBR : B ≤ R) :
    Calls Try.prog 21 #[.pointer (some ⟨R, 0, none⟩)] w fun e w' => ReadPost w R B rest e w' := by
  obtain ⟨i0, hi0, hz0, hz1, hz2⟩ := info_parts infoKind
  obtain ⟨i1, hi1, hv0, hv1, hv2⟩ := info_parts infoInstr
  have hRw : R < w.heap.size := Blk.lt h.cells
  have hD : decF rest = if false then none else (num 1 rest).bind fun a => (num 1 a.2).bind fun b => if decide (b.1 < a.1) then none else (decL b.1.toNat b.2).bind fun c => tail2 a.1 c := rfl
  have HD := Lib.hid hD
  have HI := Lib.hid h
  clear hD h
  go_enter Try.func21, Try.ntmps21
  go_wp2_with fail
  refine (number_any R B 1 sv false rest _ (HI.out.alloc (by omega) _) hBR (by omega) _ rfl).mono ?_
  rintro e w1 ⟨p, sv1, bad1, rest1, rfl, hp0, hp1, hI1, hg1, hs1⟩
  have HD1 := Lib.hid (st_step HD.out hs1)
  replace hp1 : p < 256 := by omega
  generalize hW : w.alloc (.cells #[.int .i64 0, .slice none 0 0, .bool false, .int .i64 0, .slice none 0 0] 45) = W0 at hg1
  have hWs : W0.heap.size = w.heap.size + 1 := by rw [← hW]; simp
  have hWb : Blk W0 w.heap.size 45 #[.int .i64 0, .slice none 0 0, .bool false, .int .i64 0, .slice none 0 0] := by rw [← hW]; exact Blk.new w _ _
  have hWg : w.grownBy W0 (some R) := by rw [← hW]; exact World.grownBy_alloc w _ _
  have HWB := Lib.hid hWb
  have HWG := Lib.hid hWg
  clear hW hWb hWg
  have hsz1 : w.heap.size + 1 ≤ w1.heap.size := by have := hg1.size; omega
  have HI1 := Lib.hid hI1
  have HG1 := Lib.hid hg1
  clear hI1 hs1 hg1
  go_wp2_with fail
  refine (number_any R B 1 sv1 bad1 rest1 _ (HI1.out.alloc (by omega) _) hBR (by omega) _ rfl).mono ?_
  rintro e w2 ⟨q, sv2, bad2, rest2, rfl, hq0, hq1, hI2, hg2, hs2⟩
  replace hq1 : q < 256 := by omega
  have HD2 := Lib.hid (st_step HD1.out hs2)
  have hsz2 := hg2.size
  simp only [World.size_alloc] at hsz2
  obtain ⟨F, hF⟩ : ∃ F, F = w1.heap.size := ⟨_, rfl⟩
  have hBF : Blk w2 F 45 #[.int .i64 p, .slice none 0 0, .bool false, .int .i64 0, .slice none 0 0] := by
    rw [hF]
    exact (Blk.new w1 45 #[.int .i64 p, .slice none 0 0, .bool false, .int .i64 0, .slice none 0 0]).grown hg2 (by intro e; injection e with e; omega)
  have hgw2 : W0.grownBy w2 (some R) := grown_chain (only_alloc HG1.out _) hg2 (fun g e => .inr (by injection e with e; exact e.symm))
  rw [← hF] at hsz1 hsz2 ⊢
  clear hF
  have HF := Lib.hid hBF
  have HI2 := Lib.hid hI2
  have HGW2 := Lib.hid hgw2
  have kb := Blk.cell hI2.cells 1
  have fb := Blk.frozen hI2.cells 1
  have kp := Blk.cell hBF 0
  simp only [List.getElem?_toArray, List.getElem?_cons_zero, List.getElem?_cons_succ] at kb kp
  clear hI2 hBF hgw2 hs2 hg2
  go_upto_region 3 with fail
  go_cut [] (fun wx => RIn wx R B sv2 (bad2 || decide (q < p)) rest2 ∧ Blk wx F 45 #[.int .i64 p, .slice none 0 0, .bool false, .int .i64 0, .slice none 0 0] ∧ W0.grownBy wx (some R))
  case first =>
    cases bad2
    · by_cases hqp : q < p
      · go_wp2_with fail
        go_meet
        exact ⟨by simpa [hqp] using HI2.out.bad_ hBR true, HF.out.far (by simp; omega) _, only_setCell (g := R) HGW2.out (p := ⟨R, 1, none⟩) (.inl rfl) _⟩
      · go_wp2_with fail
        go_meet
        exact ⟨by rw [decide_eq_false (by omega : ¬ q < p)]; exact HI2.out.bad_ hBR false, HF.out.far (by simp; omega) _, only_setCell (g := R) HGW2.out (p := ⟨R, 1, none⟩) (.inl rfl) _⟩
    · go_wp2_with fail
      go_meet
      exact ⟨by simpa using HI2.out.bad_ hBR true, HF.out.far (by simp; omega) _, only_setCell (g := R) HGW2.out (p := ⟨R, 1, none⟩) (.inl rfl) _⟩
  case rest =>
    obtain ⟨hI3, hF3, hG3⟩ := hcut
    obtain ⟨N, rfl⟩ := Int.eq_ofNat_of_zero_le hq0
    have hN : N < 256 := by omega
    have HD3 := Lib.hid (st_or HD2.out)
    have hgsz := hG3.size
    have hFlt := hF3.lt
    have HI3 := Lib.hid hI3
    have HF3 := Lib.hid hF3
    have HG3 := Lib.hid hG3
    generalize hb3 : (bad2 || decide ((N : Int) < p)) = bad3 at *
    clear hI3 hF3 hG3 kb fb kp hb3
    go_wp2_with fail
    go_loopw [30] (fun i wr => ∃ k : Nat, k ≤ N ∧ i = .int .i64 k ∧ ∃ bad sv' rest' ks lv, RIn wr R B sv' bad rest' ∧ Blk wr F 45 #[.int .i64 p, lv, .bool false, .int .i64 0, .slice none 0 0] ∧ wr.ownsRow w.heap.size 51 1 lv k (kindVals ks) ∧
      W0.grownBy wr (some R) ∧ Hid (ks.length = k) ∧ Hid (∀ x ∈ ks, 0 ≤ x ∧ x ≤ 255) ∧ Hid (decF rest = if bad then none else (decL (N - k) rest').bind fun c => tail2 p (ks ++ c.1, c.2))) (fun i _ => N - (intOf i).toNat)
    case atStart =>
      refine ⟨0, by omega, rfl, bad3, sv2, rest2, [], .slice none 0 0, HI3.out, HF3.out, World.ownsRow_nil _ _ _ _, HG3.out, rfl, (by intro x hx; cases hx), ?_⟩
      have := HD3.out
      simp only [Int.toNat_natCast] at this
      exact this
    case round =>
      obtain ⟨k, hk, rfl, bad4, sv4, rest4, ks, lv, hI4, hF4, hown4, hG4, hks, hkb, hD4⟩ := hrel
      have hsz4 := hG4.size
      have hFl4 := hF4.lt
      by_cases hlt : k < N
      · have HI4 := Lib.hid hI4
        have HF4 := Lib.hid hF4
        have HG4 := Lib.hid hG4
        have HO4 := Lib.hid hown4
        have hD4' : Hid (decF rest = if bad4 then none else (decL (N - (k + 1) + 1) rest4).bind fun c => tail2 p (ks ++ c.1, c.2)) := by
          rw [show N - (k + 1) + 1 = N - k by omega]; exact hD4
        clear hI4 hF4 hG4 hown4 hD4
        go_wp2_with fail
        refine (number_any R B 1 sv4 bad4 rest4 _ HI4.out hBR (by omega) _ rfl).mono ?_
        rintro e w5 ⟨x, sv5, bad5, rest5, rfl, hx0, hx1, hI5, hg5, hs5⟩
        replace hx1 : x < 256 := by omega
        have HD5 := Lib.hid (st_step (decL_step (ks := ks) (G := tail2 p) hD4'.out) hs5)
        have HD5' := Lib.hid (st_or HD5.out)
        have hne4 : lv.ownBlock ≠ some R := own_blk_ne HO4.out HI4.out.cells (by decide)
        have hO5 := HO4.out.kept hg5 (.inr hne4)
        have hF5 := HF4.out.grown hg5 (by intro e; injection e with e; omega)
        have hG5 : W0.grownBy w5 (some R) := grown_chain HG4.out hg5 (fun g e => .inr (by injection e with e; exact e.symm))
        have HI5 := Lib.hid hI5
        have HO5 := Lib.hid hO5
        have HF5 := Lib.hid hF5
        have HG5 := Lib.hid hG5
        have kb5 := Blk.cell hI5.cells 1
        have fb5 := Blk.frozen hI5.cells 1
        have hsz5 := hg5.size
        simp only [List.getElem?_toArray, List.getElem?_cons_zero, List.getElem?_cons_succ] at kb5
        clear hI5 hg5 hs5 hF5 hO5 hG5
        go_upto_region 7 with fail
        go_cut [] (fun wx => RIn wx R B sv5 (bad5 || decide (1 < x)) rest5 ∧ Blk wx F 45 #[.int .i64 p, lv, .bool false, .int .i64 0, .slice none 0 0] ∧ wx.ownsRow w.heap.size 51 1 lv k (kindVals ks) ∧ W0.grownBy wx (some R))
        case first =>
          cases bad5
          · by_cases hx : 1 < x
            · go_wp2_with fail
              go_meet
              exact ⟨by rw [decide_eq_true (by omega : 1 < x)]; exact HI5.out.bad_ hBR true, HF5.out.far (by simp; omega) _, ownsRow_setCell_other HO5.out hne4 _, only_setCell (g := R) HG5.out (p := ⟨R, 1, none⟩) (.inl rfl) _⟩
            · go_wp2_with fail
              go_meet
              exact ⟨by rw [decide_eq_false (by omega : ¬ 1 < x)]; exact HI5.out.bad_ hBR false, HF5.out.far (by simp; omega) _, ownsRow_setCell_other HO5.out hne4 _, only_setCell (g := R) HG5.out (p := ⟨R, 1, none⟩) (.inl rfl) _⟩
          · go_wp2_with fail
            go_meet
            exact ⟨by simpa using HI5.out.bad_ hBR true, HF5.out.far (by simp; omega) _, ownsRow_setCell_other HO5.out hne4 _, only_setCell (g := R) HG5.out (p := ⟨R, 1, none⟩) (.inl rfl) _⟩
        case rest =>
          obtain ⟨hI6, hF6, hO6, hG6⟩ := hcut
          have kl6 := Blk.cell hF6 1
          have fl6 := Blk.frozen hF6 1
          simp only [List.getElem?_toArray, List.getElem?_cons_zero, List.getElem?_cons_succ] at kl6
          have HI6 := Lib.hid hI6
          have HF6 := Lib.hid hF6
          have HG6 := Lib.hid hG6
          have HO6 := Lib.hid hO6
          have hsz6 := hG6.size
          have hFl6 := hF6.lt
          generalize hb6 : (bad5 || decide (1 < x)) = bad6 at *
          clear hI6 hF6 hG6 hO6 kb5 fb5 hb6
          go_wp2_with (first
            | (at_builtin
               refine wpList_append_any _ rfl (.tmp 47) (.tmp 49) _ rfl w.heap.size 51 i0 _ 1 1 Try.underlying42 hi0 hz0 hz1 hz2 rfl (by omega) _ k (kindVals ks) rfl (HO6.out.alloc _) (wc.heap.size + 1) (some ⟨wc.heap.size, 0, none⟩) 1 1 [.int .u8 x] rfl (Reads.newAt _ rfl _ _) ?c1 ?c2 ?c3 ?c4 ?_
               case c1 => intro u hu; simp only [List.mem_singleton] at hu; subst hu; rfl
               case c2 => simp only [maxLen]; omega
               case c3 => omega
               case c4 => simp; omega
               intro v7 w7 hown7 hg7 hat7
               obtain ⟨g7, c7, rfl, _⟩ := own_form hown7 (by omega)
               have hneF : lv.ownBlock ≠ some F := own_blk_ne HO6.out HF6.out (by decide)
               have hF7 := (HF6.out.alloc _).grown hg7 (Ne.symm hneF)
               have kl7 := Blk.cell hF7 1
               have fl7 := Blk.frozen hF7 1
               simp only [List.getElem?_toArray, List.getElem?_cons_zero, List.getElem?_cons_succ] at kl7))
          have hneR : lv.ownBlock ≠ some R := hne4
          have hneH : lv.ownBlock ≠ some w.heap.size := own_blk_ne HO6.out (HWB.out.grown HG6.out (by intro e; injection e with e; omega)) (by decide)
          have hI7 := (HI6.out.alloc (by omega) _).grown hg7 (by simp; omega) (fun g e => ⟨by have := (HO6.out.lt g e).1; omega, fun e' => hneR (e'.symm ▸ e)⟩)
          refine ⟨⟨k + 1, by omega, by go_num, bad6, sv5, rest5, ks ++ [x], _, hI7.far (p := ⟨F, 1, none⟩) (by simp; omega) (by simp; omega) _, Blk.set_ hF7 1 _, ownsRow_setCell_other ?_ (own_blk_ne hown7 hF7 (by decide)) _, only_setCell (g := R) (grown_chain (only_alloc HG6.out _) hg7 (fun g e => .inl (by have h1 := (HO6.out.lt g e).1; have h2 : g ≠ w.heap.size := fun h => hneH (h ▸ e); omega))) (p := ⟨F, 1, none⟩) (.inr (by simp; omega)) _, ?_, ?_, ?_⟩, by simp [intOf]; omega⟩
          · rw [show kindVals (ks ++ [x]) = kindVals ks ++ [.int .u8 x] by simp [kindVals]]; exact hown7
          · show _ = _
            rw [List.length_append, hks.out]; rfl
          · show ∀ y ∈ _, _
            intro y hy
            rcases List.mem_append.1 hy with h | h
            · exact hkb.out y h
            · simp at h; omega
          · exact HD5'.out
      · obtain rfl : k = N := by omega
        have HD6 : Hid (decF rest = if bad4 then none else tail2 p (ks, rest4)) := by
          show _ = _
          rw [hD4.out, Nat.sub_self, decL]
          simp
        have hD6 := HD6.out
        rw [tail2] at hD6
        have HD7 := Lib.hid hD6
        have HI4 := Lib.hid hI4
        have HF4 := Lib.hid hF4
        have HG4 := Lib.hid hG4
        have HO4 := Lib.hid hown4
        have hneR : lv.ownBlock ≠ some R := own_blk_ne hown4 hI4.cells (by decide)
        have hneF : lv.ownBlock ≠ some F := own_blk_ne hown4 hF4 (by decide)
        clear hI4 hF4 hG4 hown4 hD4 hD6 HD6
        go_wp2_with fail
        refine (number_any R B 1 sv4 bad4 rest4 _ HI4.out hBR (by omega) _ rfl).mono ?_
        rintro e w5 ⟨x, sv5, bad5, rest5, rfl, hx0, hx1, hI5, hg5, hs5⟩
        replace hx1 : x < 256 := by omega
        have HD8 := Lib.hid (st_step HD7.out hs5)
        have HD9 := Lib.hid (st_or HD8.out)
        have hO5 := HO4.out.kept hg5 (.inr hneR)
        have hF5 := HF4.out.grown hg5 (by intro e; injection e with e; omega)
        have hG5 : W0.grownBy w5 (some R) := grown_chain HG4.out hg5 (fun g e => .inr (by injection e with e; exact e.symm))
        have HI5 := Lib.hid hI5
        have HO5 := Lib.hid hO5
        have HF5 := Lib.hid hF5
        have HG5 := Lib.hid hG5
        have kb5 := Blk.cell hI5.cells 1
        have fb5 := Blk.frozen hI5.cells 1
        have hsz5 := hg5.size
        simp only [List.getElem?_toArray, List.getElem?_cons_zero, List.getElem?_cons_succ] at kb5
        clear hI5 hg5 hs5 hF5 hO5 hG5
        go_upto_region 11 with fail
        go_cut [] (fun wx => RIn wx R B sv5 (bad5 || decide (1 < x)) rest5 ∧ Blk wx F 45 #[.int .i64 p, lv, .bool false, .int .i64 0, .slice none 0 0] ∧ wx.ownsRow w.heap.size 51 1 lv k (kindVals ks) ∧ W0.grownBy wx (some R))
        case first =>
          cases bad5
          · by_cases hx : 1 < x
            · go_wp2_with fail
              go_meet
              exact ⟨by rw [decide_eq_true (by omega : 1 < x)]; exact HI5.out.bad_ hBR true, HF5.out.far (by simp; omega) _, ownsRow_setCell_other HO5.out hneR _, only_setCell (g := R) HG5.out (p := ⟨R, 1, none⟩) (.inl rfl) _⟩
            · go_wp2_with fail
              go_meet
              exact ⟨by rw [decide_eq_false (by omega : ¬ 1 < x)]; exact HI5.out.bad_ hBR false, HF5.out.far (by simp; omega) _, ownsRow_setCell_other HO5.out hneR _, only_setCell (g := R) HG5.out (p := ⟨R, 1, none⟩) (.inl rfl) _⟩
          · go_wp2_with fail
            go_meet
            exact ⟨by simpa using HI5.out.bad_ hBR true, HF5.out.far (by simp; omega) _, ownsRow_setCell_other HO5.out hneR _, only_setCell (g := R) HG5.out (p := ⟨R, 1, none⟩) (.inl rfl) _⟩
        case rest =>
          obtain ⟨hI6, hF6, hO6, hG6⟩ := hcut
          have k26 := Blk.cell hF6 2
          have f26 := Blk.frozen hF6 2
          simp only [List.getElem?_toArray, List.getElem?_cons_zero, List.getElem?_cons_succ] at k26
          have HI6 := Lib.hid hI6
          have HF6 := Lib.hid hF6
          have HG6 := Lib.hid hG6
          have HO6 := Lib.hid hO6
          have hsz6 := hG6.size
          have hFl6 := hF6.lt
          generalize hb6 : (bad5 || decide (1 < x)) = bad6 at *
          clear hI6 hF6 hG6 hO6 kb5 fb5 hb6
          go_wp2_with fail
          refine (number_any R B 1 sv5 bad6 rest5 _ (HI6.out.far (p := ⟨F, 2, none⟩) (by simp; omega) (by simp; omega) _) hBR (by omega) _ rfl).mono ?_
          rintro e w7 ⟨y, sv7, bad7, rest7, rfl, hy0, hy1, hI7, hg7, hs7⟩
          replace hy1 : y < 256 := by omega
          have HD10 := Lib.hid (st_step HD9.out hs7)
          have hO7 := (ownsRow_setCell_other HO6.out (a := ⟨F, 2, none⟩) hneF (.bool (x == 1))).kept hg7 (.inr hneR)
          have hF7 : Blk w7 F 45 #[.int .i64 p, lv, .bool (x == 1), .int .i64 0, .slice none 0 0] := (Blk.set_ HF6.out 2 (.bool (x == 1))).grown hg7 (by intro e; injection e with e; omega)
          have hG7 : W0.grownBy w7 (some R) := grown_chain (only_setCell (g := R) HG6.out (p := ⟨F, 2, none⟩) (.inr (by simp; omega)) _) hg7 (fun g e => .inr (by injection e with e; exact e.symm))
          have k37 := Blk.cell hF7 3
          have f37 := Blk.frozen hF7 3
          have hsz7 := hG7.size
          have hFl7 := hF7.lt
          simp only [List.getElem?_toArray, List.getElem?_cons_zero, List.getElem?_cons_succ] at k37
          have HI7 := Lib.hid hI7
          have HO7 := Lib.hid hO7
          have HF7 := Lib.hid hF7
          have HG7 := Lib.hid hG7
          clear hI7 hO7 hF7 hG7 hg7 hs7 k26 f26
          go_upto_if 75 with (fail)
          go_cut [] (fun wx => RIn wx R B sv7 bad7 rest7 ∧ Blk wx F 45 #[.int .i64 p, lv, .bool (x == 1), .int .i64 (keepOf y), .slice none 0 0] ∧ wx.ownsRow w.heap.size 51 1 lv k (kindVals ks) ∧ W0.grownBy wx (some R))
          case first =>
            by_cases hy : y = 255
            · have hyb : (y == 255) = true := by simpa using hy
              go_wp2_with fail
              go_meet
              subst hy
              exact ⟨(HI7.out.far (p := ⟨F, 3, none⟩) (by simp; omega) (by simp; omega) _).far (p := ⟨F, 3, none⟩) (by simp; omega) (by simp; omega) _, (Blk.set_ HF7.out 3 (.int .i64 255)).set_ 3 (.int .i64 (-1)), ownsRow_setCell_other (ownsRow_setCell_other HO7.out (a := ⟨F, 3, none⟩) hneF _) (a := ⟨F, 3, none⟩) hneF _,
                only_setCell (g := R) (only_setCell (g := R) HG7.out (p := ⟨F, 3, none⟩) (.inr (by simp; omega)) _) (p := ⟨F, 3, none⟩) (.inr (by simp; omega)) _⟩
            · have hyb : (y == 255) = false := by simpa using hy
              go_wp2_with fail
              go_meet
              refine ⟨HI7.out.far (p := ⟨F, 3, none⟩) (by simp; omega) (by simp; omega) _, ?_, ownsRow_setCell_other HO7.out (a := ⟨F, 3, none⟩) hneF _, only_setCell (g := R) HG7.out (p := ⟨F, 3, none⟩) (.inr (by simp; omega)) _⟩
              rw [keepOf, if_neg hy]
              exact Blk.set_ HF7.out 3 (.int .i64 y)
          case rest =>
            obtain ⟨hI8, hF8, hO8, hG8⟩ := hcut
            have hsz8 := hG8.size
            have hFl8 := hF8.lt
            have HI8 := Lib.hid hI8
            have HO8 := Lib.hid hO8
            have HF8 := Lib.hid hF8
            have HG8 := Lib.hid hG8
            clear hI8 hO8 hF8 hG8 k37 f37
            go_wp2_with fail
            refine (number_any R B 2 sv7 bad7 rest7 _ HI8.out hBR (by omega) _ rfl).mono ?_
            rintro e w9 ⟨m, sv9, bad9, rest9, rfl, hm0, hm1, hI9, hg9, hs9⟩
            replace hm1 : m < 65536 := by omega
            obtain ⟨M, rfl⟩ := Int.eq_ofNat_of_zero_le hm0
            have hM : M < 65536 := by omega
            have HD11 := Lib.hid (st_step HD10.out hs9)
            have hO9 := HO8.out.kept hg9 (.inr hneR)
            have hF9 := HF8.out.grown hg9 (by intro e; injection e with e; omega)
            have hG9 : W0.grownBy w9 (some R) := grown_chain HG8.out hg9 (fun g e => .inr (by injection e with e; exact e.symm))
            have HI9 := Lib.hid hI9
            have HO9 := Lib.hid hO9
            have HF9 := Lib.hid hF9
            have HG9 := Lib.hid hG9
            clear hI9 hO9 hF9 hG9 hg9 hs9
            go_wp2_with fail
            go_loopw [80] (fun i wr => ∃ j : Nat, j ≤ M ∧ i = .int .i64 j ∧ ∃ bad sv' rest' is cv, RIn wr R B sv' bad rest' ∧ Blk wr F 45 #[.int .i64 p, lv, .bool (x == 1), .int .i64 (keepOf y), cv] ∧ wr.ownsRow w.heap.size 51 1 lv k (kindVals ks) ∧
              wr.ownsRow w.heap.size 49 3 cv j (is.flatMap icells) ∧ W0.grownBy wr (some R) ∧ Hid (is.length = j) ∧ Hid (∀ z ∈ is, z.Wf) ∧ Hid (decF rest = if bad then none else (decIs (M - j) rest').bind fun h => some (⟨p, ks, x == 1, keepOf y, is ++ h.1⟩, h.2))) (fun i _ => M - (intOf i).toNat)
            case atStart =>
              refine ⟨0, by omega, rfl, bad9, sv9, rest9, [], .slice none 0 0, HI9.out, HF9.out, HO9.out, World.ownsRow_nil _ _ _ _, HG9.out, rfl, (by intro z hz; cases hz), ?_⟩
              have := HD11.out
              rw [tail3, Int.toNat_natCast] at this
              exact this
            case round =>
              obtain ⟨j, hj, rfl, badA, svA, restA, is, cv, hIA, hFA, hOA, hCA, hGA, hil, hiw, hDA⟩ := hrel
              have hszA := hGA.size
              have hFlA := hFA.lt
              have kbA := Blk.cell hIA.cells 1
              simp only [List.getElem?_toArray, List.getElem?_cons_zero, List.getElem?_cons_succ] at kbA
              have HIA := Lib.hid hIA
              have HFA := Lib.hid hFA
              have HOA := Lib.hid hOA
              have HCA := Lib.hid hCA
              have HGA := Lib.hid hGA
              clear hIA hFA hOA hCA hGA
              by_cases hlt : j < M
              · cases badA
                · have HDA := Lib.hid (decIs_step (D := decF rest) (bad := false) (ks := is) (r := restA) (G := fun h => some (FuncD.mk p ks (x == 1) (keepOf y) h.1, h.2)) (n := M - (j + 1)) (by rw [show M - (j + 1) + 1 = M - j by omega]; exact hDA.out))
                  have hneH : lv.ownBlock ≠ some w.heap.size := own_blk_ne HOA.out (HWB.out.grown HGA.out (by intro e; injection e with e; omega)) (by decide)
                  have hncH : cv.ownBlock ≠ some w.heap.size := own_blk_ne HCA.out (HWB.out.grown HGA.out (by intro e; injection e with e; omega)) (by decide)
                  have hncR : cv.ownBlock ≠ some R := own_blk_ne HCA.out HIA.out.cells (by decide)
                  have hncF : cv.ownBlock ≠ some F := own_blk_ne HCA.out HFA.out (by decide)
                  clear hDA
                  go_wp2_with fail
                  refine (number_any R B 1 svA false restA _ HIA.out hBR (by omega) _ rfl).mono ?_
                  rintro e wB ⟨o, svB, badB, restB, rfl, ho0, ho1, hIB, hgB, hsB⟩
                  replace ho1 : o < 256 := by omega
                  have hOB := HOA.out.kept hgB (.inr hneR)
                  have hCB := HCA.out.kept hgB (.inr hncR)
                  have hFB := HFA.out.grown hgB (by intro e; injection e with e; omega)
                  have hGB : W0.grownBy wB (some R) := grown_chain HGA.out hgB (fun g e => .inr (by injection e with e; exact e.symm))
                  have HIB := Lib.hid hIB
                  have HOB := Lib.hid hOB
                  have HCB := Lib.hid hCB
                  have HFB := Lib.hid hFB
                  have HGB := Lib.hid hGB
                  have HSB := Lib.hid hsB
                  have hszB := hGB.size
                  have hFlB := hFB.lt
                  clear hIB hOB hCB hFB hGB hsB hgB
                  have HBI := Lib.hid (Blk.new wB 49 #[.int .u8 o, .int .i64 0, .int .u64 0])
                  have hIs : wB.heap.size < (wB.alloc (.cells #[.int .u8 o, .int .i64 0, .int .u64 0] 49)).heap.size := by simp
                  obtain hw | hw | ⟨hw0, hw2⟩ : widthV o = -1 ∨ widthV o = 8 ∨ 0 ≤ widthV o ∧ widthV o ≤ 2 := by rcases width_cases o with h | h | h | h | h <;> omega
                  · have kR := Blk.cell (HIB.out.alloc (by omega) (.cells #[.int .u8 o, .int .i64 0, .int .u64 0] 49)).cells 1
                    have fR := Blk.frozen (HIB.out.alloc (by omega) (.cells #[.int .u8 o, .int .i64 0, .int .u64 0] 49)).cells 1
                    simp only [List.getElem?_toArray, List.getElem?_cons_zero, List.getElem?_cons_succ] at kR
                    go_wp2_with fail
                    refine (width_as o (-1) _ hw).mono ?_
                    rintro e w' ⟨rfl, rfl⟩
                    go_upto_region 26 with fail
                    obtain ⟨W, hW⟩ : ∃ W, W = (wB.alloc (.cells #[.int .u8 o, .int .i64 0, .int .u64 0] 49)).setCell ⟨R, 1, none⟩ (.bool true) := ⟨_, rfl⟩
                    have hIW : RIn W R B svB true restB := by rw [hW]; exact (HIB.out.alloc (by omega) _).bad_ hBR true
                    have hFW : Blk W F 45 #[.int .i64 p, lv, .bool (x == 1), .int .i64 (keepOf y), cv] := by rw [hW]; exact (HFB.out.alloc _).far (by simp; omega) _
                    have hBW : Blk W wB.heap.size 49 #[.int .u8 o, .int .i64 0, .int .u64 0] := by rw [hW]; exact (HBI.out).far (by simp; omega) _
                    have hOW : W.ownsRow w.heap.size 51 1 lv k (kindVals ks) := by rw [hW]; exact ownsRow_setCell_other (HOB.out.alloc _) (a := ⟨R, 1, none⟩) hneR _
                    have hCW : W.ownsRow w.heap.size 49 3 cv j (is.flatMap icells) := by rw [hW]; exact ownsRow_setCell_other (HCB.out.alloc _) (a := ⟨R, 1, none⟩) hncR _
                    have hGW : W0.grownBy W (some R) := by rw [hW]; exact only_setCell (g := R) (only_alloc HGB.out _) (p := ⟨R, 1, none⟩) (.inl rfl) _
                    have HDW : Hid (decF rest = if true then none else (decIs (M - (j + 1)) restB).bind fun h => some (⟨p, ks, x == 1, keepOf y, is ++ [⟨o, 0, 0⟩] ++ h.1⟩, h.2)) := by have h := decI_none HDA.out HSB.out hw; rw [h]; exact rfl
                    have HWF : Hid (InstrD.Wf ⟨o, 0, 0⟩) := wf_of ho0 (by omega) (by omega) (by omega) (by omega) (by omega)
                    rw [← hW]
                    clear hW
                    have hszW := hGW.size
                    have hFlW := hFW.lt
                    have cF4 := Blk.cell hFW 4
                    have cI0 := Blk.cell hBW 0
                    have cI1 := Blk.cell hBW 1
                    have cI2 := Blk.cell hBW 2
                    simp only [List.getElem?_toArray, List.getElem?_cons_zero, List.getElem?_cons_succ] at cF4 cI0 cI1 cI2
                    have HIW := Lib.hid hIW
                    have HFW := Lib.hid hFW
                    have HOW := Lib.hid hOW
                    have HCW := Lib.hid hCW
                    have HGW := Lib.hid hGW
                    clear hIW hFW hBW hOW hCW hGW
                    go_wp2_with (first
                      | (at_builtin
                         refine wpList_append_any _ rfl (.tmp 111) (.tmp 113) _ rfl w.heap.size 49 i1 _ 3 24 Try.underlying43 hi1 hv0 hv1 hv2 rfl (by omega) _ j (is.flatMap icells) rfl (HCW.out.alloc _) (W.heap.size + 1) (some ⟨W.heap.size, 0, none⟩) 1 1 [.int .u8 o, .int .i64 0, .int .u64 0] rfl (Reads.newS _ rfl _ _ _ _ _ rfl rfl) ?c1 ?c2 ?c3 ?c4 ?_
                         case c1 => intro u hu; simp only [List.mem_cons, List.not_mem_nil, or_false] at hu; rcases hu with rfl | rfl | rfl <;> rfl
                         case c2 => simp only [maxLen]; omega
                         case c3 => omega
                         case c4 => simp; omega
                         intro v9 w9' hown9 hg9 hat9
                         obtain ⟨g9, c9, rfl, _⟩ := own_form hown9 (by omega)
                         have hF9 := (HFW.out.alloc _).grown hg9 (Ne.symm hncF)
                         have k49 := Blk.cell hF9 4
                         have f49 := Blk.frozen hF9 4
                         simp only [List.getElem?_toArray, List.getElem?_cons_zero, List.getElem?_cons_succ] at k49))
                    have hI9 := (HIW.out.alloc (by omega) _).grown hg9 (by simp; omega) (fun g e => ⟨by have := (HCW.out.lt g e).1; omega, fun e' => hncR (e'.symm ▸ e)⟩)
                    have hO9 := (HOW.out.alloc _).kept hg9 (own_own_ne HOW.out HCW.out (by decide))
                    refine ⟨⟨j + 1, by omega, by go_num, true, svB, restB, is ++ [⟨o, 0, 0⟩], _, hI9.far (p := ⟨F, 4, none⟩) (by simp; omega) (by simp; omega) _, Blk.set_ hF9 4 _, ownsRow_setCell_other hO9 (a := ⟨F, 4, none⟩) hneF _, ownsRow_setCell_other ?_ (own_blk_ne hown9 hF9 (by decide)) _,
                      only_setCell (g := R) (grown_chain (only_alloc HGW.out _) hg9 (fun g e => .inl (by have h1 := (HCW.out.lt g e).1; have h2 : g ≠ w.heap.size := fun h => hncH (h ▸ e); omega))) (p := ⟨F, 4, none⟩) (.inr (by simp; omega)) _, ?_, ?_, ?_⟩, by simp [intOf]; omega⟩
                    · rw [show (is ++ [InstrD.mk o 0 0]).flatMap icells = is.flatMap icells ++ [.int .u8 o, .int .i64 0, .int .u64 0] by simp [icells]]; exact hown9
                    · show _ = _
                      rw [List.length_append, hil.out]; rfl
                    · show ∀ z ∈ _, _
                      intro z hz
                      rcases List.mem_append.1 hz with h | h
                      · exact hiw.out z h
                      · simp only [List.mem_singleton] at h; rw [h]; exact HWF.out
                    · exact HDW.out
                  · go_wp2_with fail
                    refine (width_as o 8 _ hw).mono ?_
                    rintro e w' ⟨rfl, rfl⟩
                    go_wp2_with fail
                    refine (number_any R B 8 svB badB restB _ (HIB.out.alloc (by omega) _) hBR (by omega) _ rfl).mono ?_
                    rintro e wC ⟨v, svC, badC, restC, rfl, hn0, hn1, hIC, hgC, hsC⟩
                    replace hn1 : v < 18446744073709551616 := by omega
                    have hBI := HBI.out.grown hgC (by intro e; injection e with e; omega)
                    have kI := Blk.cell hBI 2
                    have fI := Blk.frozen hBI 2
                    simp only [List.getElem?_toArray, List.getElem?_cons_zero, List.getElem?_cons_succ] at kI
                    go_upto_region 26 with fail
                    have hGC : W0.grownBy wC (some R) := grown_chain (only_alloc HGB.out _) hgC (fun g e => .inr (by injection e with e; exact e.symm))
                    have hOC := (HOB.out.alloc _).kept hgC (.inr hneR)
                    have hCC := (HCB.out.alloc _).kept hgC (.inr hncR)
                    have hFC := (HFB.out.alloc _).grown hgC (by intro e; injection e with e; omega)
                    have hszC := hgC.size
                    simp only [World.size_alloc] at hszC
                    obtain ⟨W, hW⟩ : ∃ W, W = wC.setCell ⟨wB.heap.size, 2, none⟩ (.int .u64 v) := ⟨_, rfl⟩
                    have hIW : RIn W R B svC badC restC := by rw [hW]; exact hIC.far (p := ⟨wB.heap.size, 2, none⟩) (by simp; omega) (by simp; omega) _
                    have hFW : Blk W F 45 #[.int .i64 p, lv, .bool (x == 1), .int .i64 (keepOf y), cv] := by rw [hW]; exact hFC.far (p := ⟨wB.heap.size, 2, none⟩) (by simp; omega) _
                    have hBW : Blk W wB.heap.size 49 #[.int .u8 o, .int .i64 0, .int .u64 v] := by rw [hW]; exact Blk.set_ hBI 2 _
                    have hOW : W.ownsRow w.heap.size 51 1 lv k (kindVals ks) := by rw [hW]; exact ownsRow_setCell_other hOC (a := ⟨wB.heap.size, 2, none⟩) (own_blk_ne hOC hBI (by decide)) _
                    have hCW : W.ownsRow w.heap.size 49 3 cv j (is.flatMap icells) := by rw [hW]; exact ownsRow_setCell_other hCC (a := ⟨wB.heap.size, 2, none⟩) (fun e => by have := (HCB.out.lt _ e).2; simp at this) _
                    have hGW : W0.grownBy W (some R) := by rw [hW]; exact only_setCell (g := R) hGC (p := ⟨wB.heap.size, 2, none⟩) (.inr (by simp; omega)) _
                    have HDW : Hid (decF rest = if badC then none else (decIs (M - (j + 1)) restC).bind fun h => some (⟨p, ks, x == 1, keepOf y, is ++ [⟨o, 0, v⟩] ++ h.1⟩, h.2)) := decI_8 HDA.out HSB.out hw hsC
                    have HWF : Hid (InstrD.Wf ⟨o, 0, v⟩) := wf_of ho0 (by omega) (by omega) (by omega) (by omega) (by omega)
                    rw [← hW]
                    clear hW hsC hIC hgC hOC hCC hFC hGC hBI kI fI hszC
                    have hszW := hGW.size
                    have hFlW := hFW.lt
                    have cF4 := Blk.cell hFW 4
                    have cI0 := Blk.cell hBW 0
                    have cI1 := Blk.cell hBW 1
                    have cI2 := Blk.cell hBW 2
                    simp only [List.getElem?_toArray, List.getElem?_cons_zero, List.getElem?_cons_succ] at cF4 cI0 cI1 cI2
                    have HIW := Lib.hid hIW
                    have HFW := Lib.hid hFW
                    have HOW := Lib.hid hOW
                    have HCW := Lib.hid hCW
                    have HGW := Lib.hid hGW
                    clear hIW hFW hBW hOW hCW hGW
                    go_wp2_with (first
                      | (at_builtin
                         refine wpList_append_any _ rfl (.tmp 111) (.tmp 113) _ rfl w.heap.size 49 i1 _ 3 24 Try.underlying43 hi1 hv0 hv1 hv2 rfl (by omega) _ j (is.flatMap icells) rfl (HCW.out.alloc _) (W.heap.size + 1) (some ⟨W.heap.size, 0, none⟩) 1 1 [.int .u8 o, .int .i64 0, .int .u64 v] rfl (Reads.newS _ rfl _ _ _ _ _ rfl rfl) ?c1 ?c2 ?c3 ?c4 ?_
                         case c1 => intro u hu; simp only [List.mem_cons, List.not_mem_nil, or_false] at hu; rcases hu with rfl | rfl | rfl <;> rfl
                         case c2 => simp only [maxLen]; omega
                         case c3 => omega
                         case c4 => simp; omega
                         intro v9 w9' hown9 hg9 hat9
                         obtain ⟨g9, c9, rfl, _⟩ := own_form hown9 (by omega)
                         have hF9 := (HFW.out.alloc _).grown hg9 (Ne.symm hncF)
                         have k49 := Blk.cell hF9 4
                         have f49 := Blk.frozen hF9 4
                         simp only [List.getElem?_toArray, List.getElem?_cons_zero, List.getElem?_cons_succ] at k49))
                    have hI9 := (HIW.out.alloc (by omega) _).grown hg9 (by simp; omega) (fun g e => ⟨by have := (HCW.out.lt g e).1; omega, fun e' => hncR (e'.symm ▸ e)⟩)
                    have hO9 := (HOW.out.alloc _).kept hg9 (own_own_ne HOW.out HCW.out (by decide))
                    refine ⟨⟨j + 1, by omega, by go_num, badC, svC, restC, is ++ [⟨o, 0, v⟩], _, hI9.far (p := ⟨F, 4, none⟩) (by simp; omega) (by simp; omega) _, Blk.set_ hF9 4 _, ownsRow_setCell_other hO9 (a := ⟨F, 4, none⟩) hneF _, ownsRow_setCell_other ?_ (own_blk_ne hown9 hF9 (by decide)) _,
                      only_setCell (g := R) (grown_chain (only_alloc HGW.out _) hg9 (fun g e => .inl (by have h1 := (HCW.out.lt g e).1; have h2 : g ≠ w.heap.size := fun h => hncH (h ▸ e); omega))) (p := ⟨F, 4, none⟩) (.inr (by simp; omega)) _, ?_, ?_, ?_⟩, by simp [intOf]; omega⟩
                    · rw [show (is ++ [InstrD.mk o 0 v]).flatMap icells = is.flatMap icells ++ [.int .u8 o, .int .i64 0, .int .u64 v] by simp [icells]]; exact hown9
                    · show _ = _
                      rw [List.length_append, hil.out]; rfl
                    · show ∀ z ∈ _, _
                      intro z hz
                      rcases List.mem_append.1 hz with h | h
                      · exact hiw.out z h
                      · simp only [List.mem_singleton] at h; rw [h]; exact HWF.out
                    · exact HDW.out
                  · obtain ⟨K, hK⟩ := Int.eq_ofNat_of_zero_le hw0
                    have hK2 : K ≤ 2 := by omega
                    have d0 : decide ((K : Int) < 0) = false := by simp
                    have d1 : ((K : Int) == 8) = false := by rw [beq_eq_false_iff_ne]; omega
                    go_wp2_with fail
                    refine (width_as o K _ hK).mono ?_
                    rintro e w' ⟨rfl, rfl⟩
                    go_wp2_with fail
                    refine (number_any R B K svB badB restB _ (HIB.out.alloc (by omega) _) hBR (by omega) _ rfl).mono ?_
                    rintro e wC ⟨v, svC, badC, restC, rfl, hn0, hn1, hIC, hgC, hsC⟩
                    replace hn1 : v < 65536 := by rcases (by omega : K = 0 ∨ K = 1 ∨ K = 2) with h | h | h <;> subst h <;> omega
                    have hBI := HBI.out.grown hgC (by intro e; injection e with e; omega)
                    have kI := Blk.cell hBI 1
                    have fI := Blk.frozen hBI 1
                    simp only [List.getElem?_toArray, List.getElem?_cons_zero, List.getElem?_cons_succ] at kI
                    go_upto_region 26 with fail
                    have hGC : W0.grownBy wC (some R) := grown_chain (only_alloc HGB.out _) hgC (fun g e => .inr (by injection e with e; exact e.symm))
                    have hOC := (HOB.out.alloc _).kept hgC (.inr hneR)
                    have hCC := (HCB.out.alloc _).kept hgC (.inr hncR)
                    have hFC := (HFB.out.alloc _).grown hgC (by intro e; injection e with e; omega)
                    have hszC := hgC.size
                    simp only [World.size_alloc] at hszC
                    obtain ⟨W, hW⟩ : ∃ W, W = wC.setCell ⟨wB.heap.size, 1, none⟩ (.int .i64 v) := ⟨_, rfl⟩
                    have hIW : RIn W R B svC badC restC := by rw [hW]; exact hIC.far (p := ⟨wB.heap.size, 1, none⟩) (by simp; omega) (by simp; omega) _
                    have hFW : Blk W F 45 #[.int .i64 p, lv, .bool (x == 1), .int .i64 (keepOf y), cv] := by rw [hW]; exact hFC.far (p := ⟨wB.heap.size, 1, none⟩) (by simp; omega) _
                    have hBW : Blk W wB.heap.size 49 #[.int .u8 o, .int .i64 v, .int .u64 0] := by rw [hW]; exact Blk.set_ hBI 1 _
                    have hOW : W.ownsRow w.heap.size 51 1 lv k (kindVals ks) := by rw [hW]; exact ownsRow_setCell_other hOC (a := ⟨wB.heap.size, 1, none⟩) (own_blk_ne hOC hBI (by decide)) _
                    have hCW : W.ownsRow w.heap.size 49 3 cv j (is.flatMap icells) := by rw [hW]; exact ownsRow_setCell_other hCC (a := ⟨wB.heap.size, 1, none⟩) (fun e => by have := (HCB.out.lt _ e).2; simp at this) _
                    have hGW : W0.grownBy W (some R) := by rw [hW]; exact only_setCell (g := R) hGC (p := ⟨wB.heap.size, 1, none⟩) (.inr (by simp; omega)) _
                    have HDW : Hid (decF rest = if badC then none else (decIs (M - (j + 1)) restC).bind fun h => some (⟨p, ks, x == 1, keepOf y, is ++ [⟨o, v, 0⟩] ++ h.1⟩, h.2)) := decI_k HDA.out HSB.out hK hK2 hsC
                    have HWF : Hid (InstrD.Wf ⟨o, v, 0⟩) := wf_of ho0 (by omega) (by omega) (by omega) (by omega) (by omega)
                    rw [← hW]
                    clear hW hsC hIC hgC hOC hCC hFC hGC hBI kI fI hszC
                    have hszW := hGW.size
                    have hFlW := hFW.lt
                    have cF4 := Blk.cell hFW 4
                    have cI0 := Blk.cell hBW 0
                    have cI1 := Blk.cell hBW 1
                    have cI2 := Blk.cell hBW 2
                    simp only [List.getElem?_toArray, List.getElem?_cons_zero, List.getElem?_cons_succ] at cF4 cI0 cI1 cI2
                    have HIW := Lib.hid hIW
                    have HFW := Lib.hid hFW
                    have HOW := Lib.hid hOW
                    have HCW := Lib.hid hCW
                    have HGW := Lib.hid hGW
                    clear hIW hFW hBW hOW hCW hGW
                    go_wp2_with (first
                      | (at_builtin
                         refine wpList_append_any _ rfl (.tmp 111) (.tmp 113) _ rfl w.heap.size 49 i1 _ 3 24 Try.underlying43 hi1 hv0 hv1 hv2 rfl (by omega) _ j (is.flatMap icells) rfl (HCW.out.alloc _) (W.heap.size + 1) (some ⟨W.heap.size, 0, none⟩) 1 1 [.int .u8 o, .int .i64 v, .int .u64 0] rfl (Reads.newS _ rfl _ _ _ _ _ rfl rfl) ?c1 ?c2 ?c3 ?c4 ?_
                         case c1 => intro u hu; simp only [List.mem_cons, List.not_mem_nil, or_false] at hu; rcases hu with rfl | rfl | rfl <;> rfl
                         case c2 => simp only [maxLen]; omega
                         case c3 => omega
                         case c4 => simp; omega
                         intro v9 w9' hown9 hg9 hat9
                         obtain ⟨g9, c9, rfl, _⟩ := own_form hown9 (by omega)
                         have hF9 := (HFW.out.alloc _).grown hg9 (Ne.symm hncF)
                         have k49 := Blk.cell hF9 4
                         have f49 := Blk.frozen hF9 4
                         simp only [List.getElem?_toArray, List.getElem?_cons_zero, List.getElem?_cons_succ] at k49))
                    have hI9 := (HIW.out.alloc (by omega) _).grown hg9 (by simp; omega) (fun g e => ⟨by have := (HCW.out.lt g e).1; omega, fun e' => hncR (e'.symm ▸ e)⟩)
                    have hO9 := (HOW.out.alloc _).kept hg9 (own_own_ne HOW.out HCW.out (by decide))
                    refine ⟨⟨j + 1, by omega, by go_num, badC, svC, restC, is ++ [⟨o, v, 0⟩], _, hI9.far (p := ⟨F, 4, none⟩) (by simp; omega) (by simp; omega) _, Blk.set_ hF9 4 _, ownsRow_setCell_other hO9 (a := ⟨F, 4, none⟩) hneF _, ownsRow_setCell_other ?_ (own_blk_ne hown9 hF9 (by decide)) _,
                      only_setCell (g := R) (grown_chain (only_alloc HGW.out _) hg9 (fun g e => .inl (by have h1 := (HCW.out.lt g e).1; have h2 : g ≠ w.heap.size := fun h => hncH (h ▸ e); omega))) (p := ⟨F, 4, none⟩) (.inr (by simp; omega)) _, ?_, ?_, ?_⟩, by simp [intOf]; omega⟩
                    · rw [show (is ++ [InstrD.mk o v 0]).flatMap icells = is.flatMap icells ++ [.int .u8 o, .int .i64 v, .int .u64 0] by simp [icells]]; exact hown9
                    · show _ = _
                      rw [List.length_append, hil.out]; rfl
                    · show ∀ z ∈ _, _
                      intro z hz
                      rcases List.mem_append.1 hz with h | h
                      · exact hiw.out z h
                      · simp only [List.mem_singleton] at h; rw [h]; exact HWF.out
                    · exact HDW.out
                · obtain ⟨LA, lc, hlv, hlc, hlm, hlr⟩ := own_any HOA.out
                  obtain ⟨CA, cc, hcv, hcc, hcm, hcr⟩ := own_any HCA.out
                  subst hlv hcv
                  have hH := HWB.out.grown HGA.out (by intro e; injection e with e; omega)
                  have a0 := Blk.cell hH 0
                  have b0 := Blk.frozen hH 0
                  have c0 := Blk.cell HFA.out 0
                  have a1 := Blk.cell hH 1
                  have b1 := Blk.frozen hH 1
                  have c1 := Blk.cell HFA.out 1
                  have a2 := Blk.cell hH 2
                  have b2 := Blk.frozen hH 2
                  have c2 := Blk.cell HFA.out 2
                  have a3 := Blk.cell hH 3
                  have b3 := Blk.frozen hH 3
                  have c3 := Blk.cell HFA.out 3
                  have a4 := Blk.cell hH 4
                  have b4 := Blk.frozen hH 4
                  have c4 := Blk.cell HFA.out 4
                  simp only [List.getElem?_toArray, List.getElem?_cons_zero, List.getElem?_cons_succ] at a0 a1 a2 a3 a4 c0 c1 c2 c3 c4
                  have HH := Lib.hid hH
                  clear hH hlc hlm hlr hcc hcm hcr
                  go_wp2_with fail
                  refine bodyPost_ret (results_cell_row rfl _ _ w.heap.size 45 _ (0, 0) _ rfl (five_blk HH.out _ _ _ _ _) Try.underlying45 rfl (by kernel_rfl)) rfl ?_
                  refine fin_read w wr R B rest ⟨p, ks, x == 1, keepOf y, is⟩ _ _ svA _ restA HIA.out hBR hRw HH.out (by rw [show (FuncD.mk p ks (x == 1) (keepOf y) is).locals.length = k from hks.out]; exact HOA.out) (by rw [show (FuncD.mk p ks (x == 1) (keepOf y) is).code.length = j from hil.out]; exact HCA.out) (grown_chain HWG.out HGA.out (fun g e => .inr (by injection e with e; exact e.symm))) ?_ (by have := hks.out; simp only; omega) (by have := hil.out; simp only; omega) ?_
                  · exact ⟨by unfold I64; simp only; omega, hkb.out, by unfold I64 keepOf; simp only; split <;> omega, hiw.out⟩
                  · rw [hDA.out]; rfl
              · obtain rfl : j = M := by omega
                obtain ⟨LA, lc, hlv, hlc, hlm, hlr⟩ := own_any HOA.out
                obtain ⟨CA, cc, hcv, hcc, hcm, hcr⟩ := own_any HCA.out
                subst hlv hcv
                have hH := HWB.out.grown HGA.out (by intro e; injection e with e; omega)
                have a0 := Blk.cell hH 0
                have b0 := Blk.frozen hH 0
                have c0 := Blk.cell HFA.out 0
                have a1 := Blk.cell hH 1
                have b1 := Blk.frozen hH 1
                have c1 := Blk.cell HFA.out 1
                have a2 := Blk.cell hH 2
                have b2 := Blk.frozen hH 2
                have c2 := Blk.cell HFA.out 2
                have a3 := Blk.cell hH 3
                have b3 := Blk.frozen hH 3
                have c3 := Blk.cell HFA.out 3
                have a4 := Blk.cell hH 4
                have b4 := Blk.frozen hH 4
                have c4 := Blk.cell HFA.out 4
                simp only [List.getElem?_toArray, List.getElem?_cons_zero, List.getElem?_cons_succ] at a0 a1 a2 a3 a4 c0 c1 c2 c3 c4
                have HH := Lib.hid hH
                clear hH hlc hlm hlr hcc hcm hcr
                go_wp2_with fail
                refine bodyPost_ret (results_cell_row rfl _ _ w.heap.size 45 _ (0, 0) _ rfl (five_blk HH.out _ _ _ _ _) Try.underlying45 rfl (by kernel_rfl)) rfl ?_
                refine fin_read w wr R B rest ⟨p, ks, x == 1, keepOf y, is⟩ _ _ svA _ restA HIA.out hBR hRw HH.out (by rw [show (FuncD.mk p ks (x == 1) (keepOf y) is).locals.length = k from hks.out]; exact HOA.out) (by rw [show (FuncD.mk p ks (x == 1) (keepOf y) is).code.length = j from hil.out]; exact HCA.out) (grown_chain HWG.out HGA.out (fun g e => .inr (by injection e with e; exact e.symm))) ?_ (by have := hks.out; simp only; omega) (by have := hil.out; simp only; omega) ?_
                · exact ⟨by unfold I64; simp only; omega, hkb.out, by unfold I64 keepOf; simp only; split <;> omega, hiw.out⟩
                · rw [hDA.out, Nat.sub_self, decIs]; simp
end Go.Proofs.Ytcaefdfdngecdaa
