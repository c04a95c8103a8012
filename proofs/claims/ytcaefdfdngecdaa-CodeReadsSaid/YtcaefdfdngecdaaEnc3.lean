/- Walk of the writer of one function. Conditions: the function's numbers fit their kinds and lie in memory; the bytes written so far are the call's own. -/
import Derived.Test.YtcaefdfdngecdaaEnc2
set_option linter.unusedVariables false
set_option linter.unusedSimpArgs false
namespace Go.Proofs.Ytcaefdfdngecdaa
open Go.RowKit

def headOk (f : FuncD) : Bool := decide (0 ≤ f.params ∧ f.params ≤ f.locals.length ∧ f.locals.length ≤ 255 ∧ -1 ≤ f.keep ∧ f.keep ≤ 254 ∧ f.code.length ≤ 65535)
def okF (f : FuncD) : Bool := headOk f && f.locals.all (fun k => decide (k ≤ 1)) && f.code.all okI
def byteOf (a : Int) : Int := IntKind.u8.wrap a
def encHead (f : FuncD) : List Int := [f.params, (f.locals.length : Int)] ++ f.locals ++ [if f.result then 1 else 0, byteOf f.keep] ++ bytesLE 2 f.code.length
def encF (f : FuncD) : List Int := encHead f ++ f.code.flatMap encI
set_option maxRecDepth 100000 in
set_option maxHeartbeats 1000000 in
theorem func_head (bv lv cv : Value) (f : FuncD) (w : World) (B : Nat) (hl : KindsAt w B lv f.locals) (hc : CodeAt w B cv f.code) (hbad : headOk f = false) :
    Calls Try.prog 24 #[bv, .agg #[.int .i64 f.params, lv, .bool f.result, .int .i64 f.keep, cv]] w fun e w' => e = .returned (.tuple #[.slice none 0 0, .bool false]) ∧ Below w.heap.size w w' := by
  obtain ⟨LA, ln, lc, rfl, hl1, hl2, hl3, hl4⟩ := hl
  obtain ⟨CA, cn, cc, rfl, hc1, hc2, hc3, hc4⟩ := hc
  obtain ⟨params, locals, result, keep, code⟩ := f
  simp only at *
  unfold maxLen at hl2 hc2
  have hb := Blk.new w 45 #[.int .i64 params, .slice LA ln lc, .bool result, .int .i64 keep, .slice CA cn cc]
  have k0 := hb.cell 0
  have k1 := hb.cell 1
  have k3 := hb.cell 3
  have k4 := hb.cell 4
  simp only [List.getElem?_toArray, List.getElem?_cons_zero, List.getElem?_cons_succ] at k0 k1 k3 k4
  have hcase : params < 0 ∨ 0 ≤ params ∧ (ln : Int) < params ∨ 0 ≤ params ∧ params ≤ ln ∧ (255 : Int) < ln ∨ 0 ≤ params ∧ params ≤ ln ∧ (ln : Int) ≤ 255 ∧ keep < -1 ∨ 0 ≤ params ∧ params ≤ ln ∧ (ln : Int) ≤ 255 ∧ -1 ≤ keep ∧ 254 < keep ∨ 0 ≤ params ∧ params ≤ ln ∧ (ln : Int) ≤ 255 ∧ -1 ≤ keep ∧ keep ≤ 254 ∧ (65535 : Int) < cn := by
    unfold headOk at hbad
    simp only [decide_eq_false_iff_not] at hbad
    omega
  clear hbad hb hl3 hl4 hc3 hc4
  rcases hcase with h1 | ⟨h1, h2⟩ | ⟨h1, h2, h3⟩ | ⟨h1, h2, h3, h4⟩ | ⟨h1, h2, h3, h4, h5⟩ | ⟨h1, h2, h3, h4, h5, h6⟩
  · have hd : decide (params < 0) = true := by simp only [decide_eq_true_eq, decide_eq_false_iff_not]; omega
    go_enter Try.func24, Try.ntmps24
    go_wp2_with fail
    go_ret2
    exact ⟨rfl, (Below.refl _ _).alloc (Nat.le_refl _) _⟩
  · have hd : decide (params < 0) = false ∧ decide ((ln : Int) < params) = true := by simp only [decide_eq_true_eq, decide_eq_false_iff_not]; omega
    go_enter Try.func24, Try.ntmps24
    go_wp2_with fail
    go_ret2
    exact ⟨rfl, (Below.refl _ _).alloc (Nat.le_refl _) _⟩
  · have hd : decide (params < 0) = false ∧ decide ((ln : Int) < params) = false ∧ decide ((255 : Int) < ln) = true := by simp only [decide_eq_true_eq, decide_eq_false_iff_not]; omega
    go_enter Try.func24, Try.ntmps24
    go_wp2_with fail
    go_ret2
    exact ⟨rfl, (Below.refl _ _).alloc (Nat.le_refl _) _⟩
  · have hd : decide (params < 0) = false ∧ decide ((ln : Int) < params) = false ∧ decide ((255 : Int) < ln) = false ∧ decide (keep < -1) = true := by simp only [decide_eq_true_eq, decide_eq_false_iff_not]; omega
    go_enter Try.func24, Try.ntmps24
    go_wp2_with fail
    go_ret2
    exact ⟨rfl, (Below.refl _ _).alloc (Nat.le_refl _) _⟩
  · have hd : decide (params < 0) = false ∧ decide ((ln : Int) < params) = false ∧ decide ((255 : Int) < ln) = false ∧ decide (keep < -1) = false ∧ decide (254 < keep) = true := by simp only [decide_eq_true_eq, decide_eq_false_iff_not]; omega
    go_enter Try.func24, Try.ntmps24
    go_wp2_with fail
    go_ret2
    exact ⟨rfl, (Below.refl _ _).alloc (Nat.le_refl _) _⟩
  · have hd : decide (params < 0) = false ∧ decide ((ln : Int) < params) = false ∧ decide ((255 : Int) < ln) = false ∧ decide (keep < -1) = false ∧ decide (254 < keep) = false ∧ decide ((65535 : Int) < cn) = true := by simp only [decide_eq_true_eq, decide_eq_false_iff_not]; omega
    go_enter Try.func24, Try.ntmps24
    go_wp2_with fail
    go_ret2
    exact ⟨rfl, (Below.refl _ _).alloc (Nat.le_refl _) _⟩
theorem Reads.newN {w : World} (H : Nat) (hH : w.heap.size = H) (cs : Array Value) (t : TypeId) (n : Nat) (xs : List Value) (hx : cs.toList = xs) (hn : xs.length = n) : Reads (w.alloc (.cells cs t)) (H + 1) 1 (some ⟨H, 0, none⟩) n xs := by
  subst hH hx
  exact ⟨by simpa using hn, fun _ => ⟨_, rfl, Nat.lt_succ_self _, World.news_of_block (cs := cs) (t := t) (fr := (0, 0)) (heap_alloc_new w _)⟩⟩
set_option maxRecDepth 100000 in
set_option maxHeartbeats 2000000 in
theorem func_body (base m : Nat) (bv lv cv : Value) (xs : List Int) (f : FuncD) (hf : f.Wf) (w : World) (B : Nat) (hB : B ≤ base) (hl : KindsAt w B lv f.locals) (hc : CodeAt w B cv f.code) (hok : headOk f = true)
    (hown : w.ownsRow base 5 1 bv m (byteVals xs)) (hbase : base ≤ w.heap.size) (hm : m ≤ 140737487000000) :
    Calls Try.prog 24 #[bv, .agg #[.int .i64 f.params, lv, .bool f.result, .int .i64 f.keep, cv]] w fun e w' => ∃ sv, e = .returned (.tuple #[sv, .bool (okF f)]) ∧ Below base w w' ∧ (okF f = true → w'.ownsRow base 5 1 sv (m + (encF f).length) (byteVals (xs ++ encF f)) ∧ Grows w w' bv sv) := by
  obtain ⟨i0, hi0, hz0, hz1, hz2⟩ := info_parts infoU8
  obtain ⟨LA, ln, lc, rfl, hl1, hl2, hl3, hl4⟩ := hl
  obtain ⟨CA, cn, cc, rfl, hc1, hc2, hc3, hc4⟩ := hc
  have HOK := Lib.hid hok
  have HWF : Hid (∀ i ∈ f.code, i.Wf) := hf.code
  obtain ⟨params, locals, result, keep, code⟩ := f
  simp only at *
  unfold maxLen at hl2 hc2
  have hh : 0 ≤ params ∧ params ≤ ln ∧ (ln : Int) ≤ 255 ∧ -1 ≤ keep ∧ keep ≤ 254 ∧ (cn : Int) ≤ 65535 := by
    unfold headOk at hok
    simp only [decide_eq_true_eq] at hok
    omega
  obtain ⟨p0, p1, p2, p3, p4, p5⟩ := hh
  have d0 : decide (params < 0) = false := by simpa using p0
  have d1 : decide ((ln : Int) < params) = false := by simpa using p1
  have d2 : decide ((255 : Int) < ln) = false := by simpa using p2
  have d3 : decide (keep < -1) = false := by simpa using p3
  have d4 : decide (254 < keep) = false := by simpa using p4
  have d5 : decide ((65535 : Int) < cn) = false := by simpa using p5
  have hb := Blk.new w 45 #[.int .i64 params, .slice LA ln lc, .bool result, .int .i64 keep, .slice CA cn cc]
  have k0 := hb.cell 0
  have k1 := hb.cell 1
  have k2 := hb.cell 2
  have k3 := hb.cell 3
  have k4 := hb.cell 4
  simp only [List.getElem?_toArray, List.getElem?_cons_zero, List.getElem?_cons_succ] at k0 k1 k2 k3 k4
  have HB := Lib.hid hb
  have HL3 := Lib.hid hl3
  have HC3 := Lib.hid hc3
  have hne : bv.ownBlock ≠ some w.heap.size := fun h => by have := (hown.lt _ h).2; omega
  have hown1 := hown.alloc (.cells #[.int .i64 params, .slice LA ln lc, .bool result, .int .i64 keep, .slice CA cn cc] 45)
  clear hb hl3 hc3 hok hf
  go_enter Try.func24, Try.ntmps24
  go_wp2_with (first
    | (at_builtin
       refine wpList_append_any _ rfl (.tmp 45) (.tmp 53) _ rfl base 5 i0 _ 1 1 Try.underlying22 hi0 hz0 hz1 hz2 rfl (by omega) bv m (byteVals xs) rfl (hown1.alloc _) (w.heap.size + 2) (some ⟨w.heap.size + 1, 0, none⟩) 2 2 (byteVals [params, (ln : Int)]) rfl ?c0 ?c1 ?c2 ?c3 ?c4 ?_
       case c0 => exact Reads.newN _ (by simp) _ _ 2 _ rfl rfl
       case c1 => exact byteVals_one _
       case c2 => simp only [maxLen]; omega
       case c3 => omega
       case c4 => simp; omega
       intro v2 w2 hown2 hg2 hat2
       have hB2 : Blk w2 w.heap.size 45 #[.int .i64 params, .slice LA ln lc, .bool result, .int .i64 keep, .slice CA cn cc] := (HB.out.alloc _).grown hg2 (Ne.symm hne)
       have q1 := hB2.cell 1
       simp only [List.getElem?_toArray, List.getElem?_cons_zero, List.getElem?_cons_succ] at q1))
  have hne2 : v2.ownBlock ≠ some w.heap.size := fun h => by
    rcases hat2 with e | e
    · rw [e] at h; exact hne h
    · rw [e] at h; injection h with h; simp only [World.size_alloc] at h; omega
  have hgr2 : Grows w w2 bv v2 := (((Grows.refl w bv).alloc _).alloc _).step hg2 hat2
  have hsz2 := hgr2.size
  have HB2 := Lib.hid hB2
  have hown2' : w2.ownsRow base 5 1 v2 (m + 2 + 0) (byteVals (xs ++ [params, (ln : Int)] ++ locals.take 0)) := by simpa [byteVals] using hown2
  clear hg2 hat2 hB2 q1 k0 k1 k2 k3 k4 hown1 hown2
  go_loopw [0, 58] (fun s i wr => ∃ k : Nat, k ≤ ln ∧ i = .int .i64 k ∧ wr.ownsRow base 5 1 s (m + 2 + k) (byteVals (xs ++ [params, (ln : Int)] ++ locals.take k)) ∧ Grows w2 wr v2 s ∧ Hid (∀ x ∈ locals.take k, x ≤ 1)) (fun _ i _ => ln - (intOf i).toNat)
  case atStart => exact ⟨0, by omega, rfl, hown2', Grows.refl _ _, by intro x hx; simp at hx⟩
  case round =>
    obtain ⟨k, hk, rfl, hown3, hgr3, hle⟩ := hrel
    have hbw : Below base w wr := (hgr2.trans hgr3).below hbase (own_ge hown)
    clear hown2'
    by_cases hlt : k < ln
    · obtain ⟨ad, u, rfl, _, hu, hcell⟩ := (hl4.below (hbw.mono hB)).at_ hlt
      obtain ⟨x, hxk, rfl⟩ : ∃ x, locals[k]? = some x ∧ u = .int .u8 x := by
        rw [kindVals, List.getElem?_map, Option.map_eq_some_iff] at hu
        obtain ⟨x, h1, h2⟩ := hu
        exact ⟨x, h1, h2.symm⟩
      have HX := Lib.hid hxk
      have hsz3 := hgr3.size
      clear hu hxk
      by_cases hx1 : x ≤ 1
      · go_wp2_with (first
          | (at_builtin
             refine wpList_append_any _ rfl (.tmp 64) (.tmp 66) _ rfl base 5 i0 _ 1 1 Try.underlying22 hi0 hz0 hz1 hz2 rfl (by omega) _ (m + 2 + k) (byteVals (xs ++ [params, (ln : Int)] ++ locals.take k)) rfl (hown3.alloc _) (wr.heap.size + 1) (some ⟨wr.heap.size, 0, none⟩) 1 1 [.int .u8 x] rfl (Reads.newAt _ rfl _ _) ?c1 ?c2 ?c3 ?c4 ?_
             case c1 => intro u hu; simp only [List.mem_singleton] at hu; subst hu; rfl
             case c2 => simp only [maxLen]; omega
             case c3 => omega
             case c4 => simp; omega
             intro v4 w4 hown4 hg4 hat4))
        have e : byteVals (xs ++ [params, (ln : Int)] ++ locals.take (k + 1)) = byteVals (xs ++ [params, (ln : Int)] ++ locals.take k) ++ [.int .u8 x] := by
          rw [List.take_add_one, HX.out]; simp [byteVals]
        refine ⟨⟨k + 1, by omega, by go_num, by rw [e]; exact hown4, (hgr3.alloc _).step hg4 hat4, ?_⟩, by simp [intOf]; omega⟩
        show ∀ y ∈ _, y ≤ 1
        rw [List.take_add_one, HX.out]
        intro y hy
        rcases List.mem_append.1 hy with h | h
        · exact hle.out y h
        · simp at h; rw [h]; exact hx1
      · have HNO : Hid (okF ⟨params, locals, result, keep, code⟩ = false) := by
          show _ = _
          unfold okF
          have : (locals.all fun k => decide (k ≤ 1)) = false := by
            rw [List.all_eq_false]
            exact ⟨x, List.mem_of_getElem? HX.out, by simpa using hx1⟩
          simp [this]
        go_wp2_with fail
        go_ret2
        refine ⟨.slice none 0 0, by rw [HNO.out]; rfl, hbw, fun h => by rw [HNO.out] at h; cases h⟩
    · have hkl : ln ≤ k := by omega
      have hown5 : wr.ownsRow base 5 1 u0 (m + 2 + k) (byteVals (xs ++ [params, (ln : Int)] ++ locals)) := by
        rw [List.take_of_length_le (by have := HL3.out; omega)] at hown3; exact hown3
      have hB3 : Blk wr w.heap.size 45 #[.int .i64 params, .slice LA ln lc, .bool result, .int .i64 keep, .slice CA cn cc] := hgr3.blk HB2.out hne2
      have q2 := hB3.cell 2
      have q3 := hB3.cell 3
      have q4 := hB3.cell 4
      simp only [List.getElem?_toArray, List.getElem?_cons_zero, List.getElem?_cons_succ] at q2 q3 q4
      have HB3 := Lib.hid hB3
      have hne3 : u0.ownBlock ≠ some w.heap.size := fun h => by
        rcases hgr3.2 with e | ⟨g, e, hg⟩
        · rw [e] at h; exact hne2 h
        · rw [e] at h; injection h with h; have := HB2.out.lt; omega
      have hgrA : Grows w wr bv u0 := hgr2.trans hgr3
      have hszA := hgrA.size
      clear hown3 hB3
      have hcw : IntKind.u64.wrap (cn : Int) = (cn : Int) := by rw [IntKind.wrap_u64]; omega
      cases result
      · go_wp2_with fail
        go_cut [0] (fun s wx => wx.ownsRow base 5 1 s (m + 6 + ln) (byteVals (xs ++ encHead ⟨params, locals, false, keep, code⟩)) ∧ Grows w wx bv s ∧ Blk wx w.heap.size 45 #[.int .i64 params, .slice LA ln lc, .bool false, .int .i64 keep, .slice CA cn cc] ∧ s.ownBlock ≠ some w.heap.size)
        case first =>
          refine wp_region_noPanic ?_
          refine wp_region_held_drew (S := fun W => W.cell? ⟨w.heap.size, 3, none⟩ = some (.int .i64 keep) ∧ W.cell? ⟨w.heap.size, 4, none⟩ = some (.slice CA cn cc)) (by kernel_rfl) ⟨q3, q4⟩ (fun hHeld => ?_)
          refine wpAnyH_take (i := 0) (v := ?_) rfl (by kernel_rfl) (by kernel_rfl) (by kernel_rfl) (fun _ _ _ h => h) (Or.inl ⟨by rfl, ?_⟩) (by assumption) ?_
          rotate_left
          · intro w hSw; (try dsimp only at hSw); go_simp; try with_reducible rfl
          simp only [Act.put, List.getElem_toArray, List.getElem_cons_zero, List.getElem_cons_succ, List.setIfInBounds_toArray, List.set_cons_zero, List.set_cons_succ]
          refine wpAnyH_take (i := 1) (v := ?_) rfl (by kernel_rfl) (by kernel_rfl) (by kernel_rfl) (fun _ _ _ h => h) (Or.inl ⟨by rfl, ?_⟩) (by assumption) ?_
          rotate_left
          · intro w hSw; (try dsimp only at hSw); go_simp; try with_reducible rfl
          simp only [Act.put, List.getElem_toArray, List.getElem_cons_zero, List.getElem_cons_succ, List.setIfInBounds_toArray, List.set_cons_zero, List.set_cons_succ]
          refine wpAnyH_take (i := 2) (v := ?_) rfl (by kernel_rfl) (by kernel_rfl) (by kernel_rfl) (fun _ _ _ h => h) (Or.inl ⟨by rfl, ?_⟩) (by assumption) ?_
          rotate_left
          · intro w hSw; (try dsimp only at hSw); go_simp; try with_reducible rfl
          simp only [Act.put, List.getElem_toArray, List.getElem_cons_zero, List.getElem_cons_succ, List.setIfInBounds_toArray, List.set_cons_zero, List.set_cons_succ]
          refine wpAnyH_take (i := 3) (v := ?_) rfl (by kernel_rfl) (by kernel_rfl) (by kernel_rfl) (fun _ _ _ h => h) (Or.inl ⟨by rfl, ?_⟩) (by assumption) ?_
          rotate_left
          · intro w hSw; (try dsimp only at hSw); go_simp; try with_reducible rfl
          simp only [Act.put, List.getElem_toArray, List.getElem_cons_zero, List.getElem_cons_succ, List.setIfInBounds_toArray, List.set_cons_zero, List.set_cons_succ]
          refine wpAnyH_take (i := 4) (v := ?_) rfl (by kernel_rfl) (by kernel_rfl) (by kernel_rfl) (fun _ _ _ h => h) (Or.inl ⟨by rfl, ?_⟩) (by assumption) ?_
          rotate_left
          · intro w hSw; (try dsimp only at hSw); go_simp; try with_reducible rfl
          simp only [Act.put, List.getElem_toArray, List.getElem_cons_zero, List.getElem_cons_succ, List.setIfInBounds_toArray, List.set_cons_zero, List.set_cons_succ]
          refine wpAnyH_take (i := 7) (v := ?_) rfl (by kernel_rfl) (by kernel_rfl) (by kernel_rfl) (fun _ _ _ h => h) (Or.inl ⟨by rfl, ?_⟩) (by assumption) ?_
          rotate_left
          · intro w hSw; (try dsimp only at hSw); go_simp; try with_reducible rfl
          simp only [Act.put, List.getElem_toArray, List.getElem_cons_zero, List.getElem_cons_succ, List.setIfInBounds_toArray, List.set_cons_zero, List.set_cons_succ]
          refine wpAnyH_take (i := 8) (v := ?_) rfl (by kernel_rfl) (by kernel_rfl) (by kernel_rfl) (fun _ _ _ h => h) (Or.inl ⟨by rfl, ?_⟩) (by assumption) ?_
          rotate_left
          · intro w hSw; (try dsimp only at hSw); go_simp; try with_reducible rfl
          simp only [Act.put, List.getElem_toArray, List.getElem_cons_zero, List.getElem_cons_succ, List.setIfInBounds_toArray, List.set_cons_zero, List.set_cons_succ]
          refine wpAnyH_take (i := 9) (v := ?_) rfl (by kernel_rfl) (by kernel_rfl) (by kernel_rfl) (fun _ _ _ h => h) (Or.inl ⟨by rfl, ?_⟩) (by assumption) ?_
          rotate_left
          · intro w hSw; (try dsimp only at hSw); go_simp; try with_reducible rfl
          simp only [Act.put, List.getElem_toArray, List.getElem_cons_zero, List.getElem_cons_succ, List.setIfInBounds_toArray, List.set_cons_zero, List.set_cons_succ]
          refine wpAnyH_take (i := 10) (v := ?_) rfl (by kernel_rfl) (by kernel_rfl) (by kernel_rfl) (fun _ _ _ h => h) (Or.inl ⟨by rfl, ?_⟩) (by assumption) ?_
          rotate_left
          · intro w hSw; (try dsimp only at hSw); go_simp; try with_reducible rfl
          simp only [Act.put, List.getElem_toArray, List.getElem_cons_zero, List.getElem_cons_succ, List.setIfInBounds_toArray, List.set_cons_zero, List.set_cons_succ]
          refine wpAnyH_ready (rs := [5]) (by kernel_rfl) (by simp) ?_
          refine AllReadyH.cons rfl (fun K hK => ?_) AllReadyH.nil
          go_simp
          have hB5 : Blk ((wr.alloc (.cells #[.int .u8 0, .int .u8 (IntKind.u8.wrap keep)] 5)).drew) w.heap.size 45 #[.int .i64 params, .slice LA ln lc, .bool false, .int .i64 keep, .slice CA cn cc] := (HB3.out.alloc _).drew
          refine hK.out _ _ ⟨hB5.cell 3, hB5.cell 4⟩ (fun hHeld2 => ?_)
          clear hK K hHeld
          try simp only [Act.put, List.getElem_toArray, List.getElem_cons_zero, List.getElem_cons_succ, List.setIfInBounds_toArray, List.set_cons_zero, List.set_cons_succ]
          refine wpAnyH_ready (rs := [6]) (by kernel_rfl) (by simp) ?_
          refine AllReadyH.cons rfl (fun K hK => ?_) AllReadyH.nil
          refine step_append_any _ rfl (.tmp 71) (.tmp 76) _ rfl base 5 i0 _ 1 1 Try.underlying22 hi0 hz0 hz1 hz2 rfl (by omega) u0 (m + 2 + k) (byteVals (xs ++ [params, (ln : Int)] ++ locals)) rfl (hown5.alloc _).drew (wr.heap.size + 1) (some ⟨wr.heap.size, 0, none⟩) 2 2 (byteVals [0, byteOf keep]) rfl ?c0 ?c1 ?c2 ?c3 ?c4 ?_
          case c0 => exact (Reads.newN _ rfl _ _ 2 _ rfl rfl).drew
          case c1 => exact byteVals_one _
          case c2 => simp only [maxLen]; omega
          case c3 => omega
          case c4 => simp; omega
          intro v6 w6 hown6 hg6 hat6
          have hB6 := hB5.grown hg6 (Ne.symm hne3)
          have hgr6 : Grows w w6 bv v6 := ((hgrA.alloc _).drew).step hg6 hat6
          have hne6 : v6.ownBlock ≠ some w.heap.size := fun h => by
            rcases hat6 with e | e
            · rw [e] at h; exact hne3 h
            · rw [e] at h; injection h with h; have := HB3.out.lt; simp at h; omega
          refine hK.out _ _ ⟨hB6.cell 3, hB6.cell 4⟩ (fun hHeld3 => ?_)
          have hsz6 := hgr6.size
          clear hK K hHeld2 hg6 hat6
          try simp only [Act.put, List.getElem_toArray, List.getElem_cons_zero, List.getElem_cons_succ, List.setIfInBounds_toArray, List.set_cons_zero, List.set_cons_succ]
          refine wpAnyH_ready (rs := [11]) (by kernel_rfl) (by simp) ?_
          refine AllReadyH.cons rfl (fun K hK => ?_) AllReadyH.nil
          go_simp
          refine (put_own base (m + 2 + k + 2) v6 (xs ++ [params, (ln : Int)] ++ locals ++ [0, byteOf keep]) cn 2 _ ?hw6 (by omega) (by omega) (by unfold U64; omega) (by omega) (by omega)).mono ?_
          case hw6 => rw [byteVals_append]; exact hown6
          rintro e w7 ⟨s7, rfl, hown7, hgr7⟩
          have hB7 := hgr7.blk hB6 hne6
          refine hK.out _ _ ⟨hB7.cell 3, hB7.cell 4⟩ (fun hHeld4 => ?_)
          clear hK K hHeld3
          try simp only [Act.put, List.getElem_toArray, List.getElem_cons_zero, List.getElem_cons_succ, List.setIfInBounds_toArray, List.set_cons_zero, List.set_cons_succ]
          refine wpAnyH_take (i := 12) (v := ?_) rfl (by kernel_rfl) (by kernel_rfl) (by kernel_rfl) (fun _ _ _ h => h) (Or.inl ⟨by rfl, ?_⟩) (by assumption) ?_
          rotate_left
          · intro w hSw; (try dsimp only at hSw); go_simp; try with_reducible rfl
          simp only [Act.put, List.getElem_toArray, List.getElem_cons_zero, List.getElem_cons_succ, List.setIfInBounds_toArray, List.set_cons_zero, List.set_cons_succ]
          refine wpAnyH_done (by kernel_rfl) ?_ _
          refine NoPanic.normal ?_
          go_wp2_with fail
          go_meet
          refine ⟨?_, hgr6.trans hgr7, hB7, fun h => ?_⟩
          · have e1 : m + 2 + k + 2 + (2 : Int).toNat = m + 6 + ln := by have : (2 : Int).toNat = 2 := rfl; omega
            have e2 : xs ++ [params, (ln : Int)] ++ locals ++ [0, byteOf keep] ++ bytesLE (2 : Int).toNat cn = xs ++ encHead ⟨params, locals, false, keep, code⟩ := by
              have h3 := HL3.out
              have h4 := HC3.out
              simp only [encHead, h3, h4, List.append_assoc]
              rfl
            rw [e1, e2] at hown7
            exact hown7
          · rcases hgr7.2 with e | ⟨g, e, hg⟩
            · rw [e] at h; exact hne6 h
            · rw [e] at h; injection h with h; have := hB6.lt; omega
        case rest =>
          obtain ⟨hown8, hgr8, hB8, hne8⟩ := hcut
          have q4c := hB8.cell 4
          simp only [List.getElem?_toArray, List.getElem?_cons_zero, List.getElem?_cons_succ] at q4c
          have hsz8 := hgr8.size
          have hown8' : wc.ownsRow base 5 1 u0 (m + 6 + ln + ((code.take 0).flatMap encI).length) (byteVals (xs ++ encHead ⟨params, locals, false, keep, code⟩ ++ (code.take 0).flatMap encI)) := by simpa using hown8
          clear q2 q3 q4 hcw hown8
          go_wp2_with fail
          go_loopw [0, 86] (fun s i wq => ∃ j : Nat, j ≤ cn ∧ i = .int .i64 j ∧ wq.ownsRow base 5 1 s (m + 6 + ln + ((code.take j).flatMap encI).length) (byteVals (xs ++ encHead ⟨params, locals, false, keep, code⟩ ++ (code.take j).flatMap encI)) ∧ Grows w wq bv s ∧ Hid (∀ x ∈ code.take j, okI x = true)) (fun _ i _ => cn - (intOf i).toNat)
          case atStart => exact ⟨0, by omega, rfl, hown8', hgr8, by intro x hx; simp at hx⟩
          case round =>
            clear hown8'
            obtain ⟨j, hj, rfl, hown9, hgr9, hoks⟩ := hrel
            have hbw9 : Below base w wr := hgr9.below hbase (own_ge hown)
            by_cases hlt : j < cn
            · obtain ⟨ad, hA, _, hcell⟩ := (hc4.below (hbw9.mono hB)).2 (by omega)
              subst hA
              obtain ⟨x, hxk⟩ : ∃ x, code[j]? = some x := ⟨_, List.getElem?_eq_getElem (by have := HC3.out; omega)⟩
              obtain ⟨f0, f1, f2⟩ := flatMap_three code j x hxk
              have g0 := hcell _ _ f0
              have g1 := hcell _ _ f1
              have g2 := hcell _ _ f2
              rw [← addr_sub ad _ 1 (by omega)] at g1
              rw [← addr_sub ad _ 2 (by omega)] at g2
              have HX := Lib.hid hxk
              clear hcell hxk f0 f1 f2
              have hxw := HWF.out x (List.mem_of_getElem? HX.out)
              have HXW := Lib.hid hxw
              have hlen : ((code.take j).flatMap encI).length ≤ 9 * j := by
                have := encIs_le (code.take j); rw [List.length_take] at this; omega
              have HO9 := Lib.hid hown9
              have hsz9 := hgr9.size
              clear hxw
              by_cases hxok : okI x = true
              · have HXO := Lib.hid hxok
                clear hxok
                go_wp2_with fail
                refine (instr_yes base _ u0 _ x HXW.out _ (HO9.out.alloc _) (by simp; omega) (by omega) HXO.out).mono ?_
                rintro e w10 ⟨sv, rfl, hown10, hgr10⟩
                go_wp2_with fail
                refine ⟨⟨j + 1, by omega, by go_num, ?_, (hgr9.alloc _).trans hgr10, ?_⟩, by simp [intOf]; omega⟩
                · rw [encIs_snoc code j x HX.out, List.length_append, ← List.append_assoc, ← Nat.add_assoc]
                  exact hown10
                · show ∀ y ∈ _, okI y = true
                  rw [List.take_add_one, HX.out]
                  intro y hy
                  rcases List.mem_append.1 hy with h | h
                  · exact hoks.out y h
                  · simp at h; rw [h]; exact HXO.out
              · have hxok' : okI x = false := by simpa using hxok
                have HXO := Lib.hid hxok'
                have HNO : Hid (okF ⟨params, locals, false, keep, code⟩ = false) := by
                  show _ = _
                  unfold okF
                  have : code.all okI = false := by
                    rw [List.all_eq_false]
                    exact ⟨x, List.mem_of_getElem? HX.out, by simpa using hxok⟩
                  simp [this]
                clear hxok hxok'
                go_wp2_with fail
                refine (instr_not base _ u0 _ x HXW.out _ (HO9.out.alloc _) (by simp; omega) (by omega) HXO.out).mono ?_
                rintro e w10 ⟨sv, rfl, hbel10⟩
                go_wp2_with fail
                go_ret2
                refine ⟨.slice none 0 0, by rw [HNO.out]; rfl, (hbw9.alloc (by omega) _).trans hbel10, fun h => by rw [HNO.out] at h; cases h⟩
            · have hjk : cn ≤ j := by omega
              have HYES : Hid (okF ⟨params, locals, false, keep, code⟩ = true) := by
                show _ = _
                unfold okF
                have h1 : (locals.all fun k => decide (k ≤ 1)) = true := by
                  rw [List.all_eq_true]
                  intro y hy
                  have := hle.out y (by rw [List.take_of_length_le (by have := HL3.out; omega)]; exact hy)
                  simpa using this
                have h2 : code.all okI = true := by
                  rw [List.all_eq_true]
                  intro y hy
                  exact hoks.out y (by rw [List.take_of_length_le (by have := HC3.out; omega)]; exact hy)
                have h3 := HOK.out
                simp only at h1 h2 ⊢
                rw [h3, h1, h2]; rfl
              have ho : wr.ownsRow base 5 1 u0 (m + (encF ⟨params, locals, false, keep, code⟩).length) (byteVals (xs ++ encF ⟨params, locals, false, keep, code⟩)) := by
                rw [List.take_of_length_le (by have := HC3.out; omega)] at hown9
                have e1 : (encHead ⟨params, locals, false, keep, code⟩).length = 6 + ln := by
                  simp only [encHead, List.length_append, bytesLE_length, List.length_cons, List.length_nil, HL3.out]; omega
                rw [encF, List.length_append, e1, ← List.append_assoc]
                have e2 : m + (6 + ln + (code.flatMap encI).length) = m + 6 + ln + (code.flatMap encI).length := by omega
                rw [e2]; exact hown9
              have HO := Lib.hid ho
              clear ho hown9
              go_wp2_with fail
              go_ret2
              exact ⟨u0, by rw [HYES.out]; rfl, hbw9, fun _ => ⟨HO.out, hgr9⟩⟩
      · go_wp2_with fail
        go_cut [0] (fun s wx => wx.ownsRow base 5 1 s (m + 6 + ln) (byteVals (xs ++ encHead ⟨params, locals, true, keep, code⟩)) ∧ Grows w wx bv s ∧ Blk wx w.heap.size 45 #[.int .i64 params, .slice LA ln lc, .bool true, .int .i64 keep, .slice CA cn cc] ∧ s.ownBlock ≠ some w.heap.size)
        case first =>
          refine wp_region_noPanic ?_
          refine wp_region_held_drew (S := fun W => W.cell? ⟨w.heap.size, 3, none⟩ = some (.int .i64 keep) ∧ W.cell? ⟨w.heap.size, 4, none⟩ = some (.slice CA cn cc)) (by kernel_rfl) ⟨q3, q4⟩ (fun hHeld => ?_)
          refine wpAnyH_take (i := 0) (v := ?_) rfl (by kernel_rfl) (by kernel_rfl) (by kernel_rfl) (fun _ _ _ h => h) (Or.inl ⟨by rfl, ?_⟩) (by assumption) ?_
          rotate_left
          · intro w hSw; (try dsimp only at hSw); go_simp; try with_reducible rfl
          simp only [Act.put, List.getElem_toArray, List.getElem_cons_zero, List.getElem_cons_succ, List.setIfInBounds_toArray, List.set_cons_zero, List.set_cons_succ]
          refine wpAnyH_take (i := 1) (v := ?_) rfl (by kernel_rfl) (by kernel_rfl) (by kernel_rfl) (fun _ _ _ h => h) (Or.inl ⟨by rfl, ?_⟩) (by assumption) ?_
          rotate_left
          · intro w hSw; (try dsimp only at hSw); go_simp; try with_reducible rfl
          simp only [Act.put, List.getElem_toArray, List.getElem_cons_zero, List.getElem_cons_succ, List.setIfInBounds_toArray, List.set_cons_zero, List.set_cons_succ]
          refine wpAnyH_take (i := 2) (v := ?_) rfl (by kernel_rfl) (by kernel_rfl) (by kernel_rfl) (fun _ _ _ h => h) (Or.inl ⟨by rfl, ?_⟩) (by assumption) ?_
          rotate_left
          · intro w hSw; (try dsimp only at hSw); go_simp; try with_reducible rfl
          simp only [Act.put, List.getElem_toArray, List.getElem_cons_zero, List.getElem_cons_succ, List.setIfInBounds_toArray, List.set_cons_zero, List.set_cons_succ]
          refine wpAnyH_take (i := 3) (v := ?_) rfl (by kernel_rfl) (by kernel_rfl) (by kernel_rfl) (fun _ _ _ h => h) (Or.inl ⟨by rfl, ?_⟩) (by assumption) ?_
          rotate_left
          · intro w hSw; (try dsimp only at hSw); go_simp; try with_reducible rfl
          simp only [Act.put, List.getElem_toArray, List.getElem_cons_zero, List.getElem_cons_succ, List.setIfInBounds_toArray, List.set_cons_zero, List.set_cons_succ]
          refine wpAnyH_take (i := 4) (v := ?_) rfl (by kernel_rfl) (by kernel_rfl) (by kernel_rfl) (fun _ _ _ h => h) (Or.inl ⟨by rfl, ?_⟩) (by assumption) ?_
          rotate_left
          · intro w hSw; (try dsimp only at hSw); go_simp; try with_reducible rfl
          simp only [Act.put, List.getElem_toArray, List.getElem_cons_zero, List.getElem_cons_succ, List.setIfInBounds_toArray, List.set_cons_zero, List.set_cons_succ]
          refine wpAnyH_take (i := 7) (v := ?_) rfl (by kernel_rfl) (by kernel_rfl) (by kernel_rfl) (fun _ _ _ h => h) (Or.inl ⟨by rfl, ?_⟩) (by assumption) ?_
          rotate_left
          · intro w hSw; (try dsimp only at hSw); go_simp; try with_reducible rfl
          simp only [Act.put, List.getElem_toArray, List.getElem_cons_zero, List.getElem_cons_succ, List.setIfInBounds_toArray, List.set_cons_zero, List.set_cons_succ]
          refine wpAnyH_take (i := 8) (v := ?_) rfl (by kernel_rfl) (by kernel_rfl) (by kernel_rfl) (fun _ _ _ h => h) (Or.inl ⟨by rfl, ?_⟩) (by assumption) ?_
          rotate_left
          · intro w hSw; (try dsimp only at hSw); go_simp; try with_reducible rfl
          simp only [Act.put, List.getElem_toArray, List.getElem_cons_zero, List.getElem_cons_succ, List.setIfInBounds_toArray, List.set_cons_zero, List.set_cons_succ]
          refine wpAnyH_take (i := 9) (v := ?_) rfl (by kernel_rfl) (by kernel_rfl) (by kernel_rfl) (fun _ _ _ h => h) (Or.inl ⟨by rfl, ?_⟩) (by assumption) ?_
          rotate_left
          · intro w hSw; (try dsimp only at hSw); go_simp; try with_reducible rfl
          simp only [Act.put, List.getElem_toArray, List.getElem_cons_zero, List.getElem_cons_succ, List.setIfInBounds_toArray, List.set_cons_zero, List.set_cons_succ]
          refine wpAnyH_take (i := 10) (v := ?_) rfl (by kernel_rfl) (by kernel_rfl) (by kernel_rfl) (fun _ _ _ h => h) (Or.inl ⟨by rfl, ?_⟩) (by assumption) ?_
          rotate_left
          · intro w hSw; (try dsimp only at hSw); go_simp; try with_reducible rfl
          simp only [Act.put, List.getElem_toArray, List.getElem_cons_zero, List.getElem_cons_succ, List.setIfInBounds_toArray, List.set_cons_zero, List.set_cons_succ]
          refine wpAnyH_ready (rs := [5]) (by kernel_rfl) (by simp) ?_
          refine AllReadyH.cons rfl (fun K hK => ?_) AllReadyH.nil
          go_simp
          have hB5 : Blk ((wr.alloc (.cells #[.int .u8 1, .int .u8 (IntKind.u8.wrap keep)] 5)).drew) w.heap.size 45 #[.int .i64 params, .slice LA ln lc, .bool true, .int .i64 keep, .slice CA cn cc] := (HB3.out.alloc _).drew
          refine hK.out _ _ ⟨hB5.cell 3, hB5.cell 4⟩ (fun hHeld2 => ?_)
          clear hK K hHeld
          try simp only [Act.put, List.getElem_toArray, List.getElem_cons_zero, List.getElem_cons_succ, List.setIfInBounds_toArray, List.set_cons_zero, List.set_cons_succ]
          refine wpAnyH_ready (rs := [6]) (by kernel_rfl) (by simp) ?_
          refine AllReadyH.cons rfl (fun K hK => ?_) AllReadyH.nil
          refine step_append_any _ rfl (.tmp 71) (.tmp 76) _ rfl base 5 i0 _ 1 1 Try.underlying22 hi0 hz0 hz1 hz2 rfl (by omega) u0 (m + 2 + k) (byteVals (xs ++ [params, (ln : Int)] ++ locals)) rfl (hown5.alloc _).drew (wr.heap.size + 1) (some ⟨wr.heap.size, 0, none⟩) 2 2 (byteVals [1, byteOf keep]) rfl ?c0 ?c1 ?c2 ?c3 ?c4 ?_
          case c0 => exact (Reads.newN _ rfl _ _ 2 _ rfl rfl).drew
          case c1 => exact byteVals_one _
          case c2 => simp only [maxLen]; omega
          case c3 => omega
          case c4 => simp; omega
          intro v6 w6 hown6 hg6 hat6
          have hB6 := hB5.grown hg6 (Ne.symm hne3)
          have hgr6 : Grows w w6 bv v6 := ((hgrA.alloc _).drew).step hg6 hat6
          have hne6 : v6.ownBlock ≠ some w.heap.size := fun h => by
            rcases hat6 with e | e
            · rw [e] at h; exact hne3 h
            · rw [e] at h; injection h with h; have := HB3.out.lt; simp at h; omega
          refine hK.out _ _ ⟨hB6.cell 3, hB6.cell 4⟩ (fun hHeld3 => ?_)
          have hsz6 := hgr6.size
          clear hK K hHeld2 hg6 hat6
          try simp only [Act.put, List.getElem_toArray, List.getElem_cons_zero, List.getElem_cons_succ, List.setIfInBounds_toArray, List.set_cons_zero, List.set_cons_succ]
          refine wpAnyH_ready (rs := [11]) (by kernel_rfl) (by simp) ?_
          refine AllReadyH.cons rfl (fun K hK => ?_) AllReadyH.nil
          go_simp
          refine (put_own base (m + 2 + k + 2) v6 (xs ++ [params, (ln : Int)] ++ locals ++ [1, byteOf keep]) cn 2 _ ?hw6 (by omega) (by omega) (by unfold U64; omega) (by omega) (by omega)).mono ?_
          case hw6 => rw [byteVals_append]; exact hown6
          rintro e w7 ⟨s7, rfl, hown7, hgr7⟩
          have hB7 := hgr7.blk hB6 hne6
          refine hK.out _ _ ⟨hB7.cell 3, hB7.cell 4⟩ (fun hHeld4 => ?_)
          clear hK K hHeld3
          try simp only [Act.put, List.getElem_toArray, List.getElem_cons_zero, List.getElem_cons_succ, List.setIfInBounds_toArray, List.set_cons_zero, List.set_cons_succ]
          refine wpAnyH_take (i := 12) (v := ?_) rfl (by kernel_rfl) (by kernel_rfl) (by kernel_rfl) (fun _ _ _ h => h) (Or.inl ⟨by rfl, ?_⟩) (by assumption) ?_
          rotate_left
          · intro w hSw; (try dsimp only at hSw); go_simp; try with_reducible rfl
          simp only [Act.put, List.getElem_toArray, List.getElem_cons_zero, List.getElem_cons_succ, List.setIfInBounds_toArray, List.set_cons_zero, List.set_cons_succ]
          refine wpAnyH_done (by kernel_rfl) ?_ _
          refine NoPanic.normal ?_
          go_wp2_with fail
          go_meet
          refine ⟨?_, hgr6.trans hgr7, hB7, fun h => ?_⟩
          · have e1 : m + 2 + k + 2 + (2 : Int).toNat = m + 6 + ln := by have : (2 : Int).toNat = 2 := rfl; omega
            have e2 : xs ++ [params, (ln : Int)] ++ locals ++ [1, byteOf keep] ++ bytesLE (2 : Int).toNat cn = xs ++ encHead ⟨params, locals, true, keep, code⟩ := by
              have h3 := HL3.out
              have h4 := HC3.out
              simp only [encHead, h3, h4, List.append_assoc]
              rfl
            rw [e1, e2] at hown7
            exact hown7
          · rcases hgr7.2 with e | ⟨g, e, hg⟩
            · rw [e] at h; exact hne6 h
            · rw [e] at h; injection h with h; have := hB6.lt; omega
        case rest =>
          obtain ⟨hown8, hgr8, hB8, hne8⟩ := hcut
          have q4c := hB8.cell 4
          simp only [List.getElem?_toArray, List.getElem?_cons_zero, List.getElem?_cons_succ] at q4c
          have hsz8 := hgr8.size
          have hown8' : wc.ownsRow base 5 1 u0 (m + 6 + ln + ((code.take 0).flatMap encI).length) (byteVals (xs ++ encHead ⟨params, locals, true, keep, code⟩ ++ (code.take 0).flatMap encI)) := by simpa using hown8
          clear q2 q3 q4 hcw hown8
          go_wp2_with fail
          go_loopw [0, 86] (fun s i wq => ∃ j : Nat, j ≤ cn ∧ i = .int .i64 j ∧ wq.ownsRow base 5 1 s (m + 6 + ln + ((code.take j).flatMap encI).length) (byteVals (xs ++ encHead ⟨params, locals, true, keep, code⟩ ++ (code.take j).flatMap encI)) ∧ Grows w wq bv s ∧ Hid (∀ x ∈ code.take j, okI x = true)) (fun _ i _ => cn - (intOf i).toNat)
          case atStart => exact ⟨0, by omega, rfl, hown8', hgr8, by intro x hx; simp at hx⟩
          case round =>
            clear hown8'
            obtain ⟨j, hj, rfl, hown9, hgr9, hoks⟩ := hrel
            have hbw9 : Below base w wr := hgr9.below hbase (own_ge hown)
            by_cases hlt : j < cn
            · obtain ⟨ad, hA, _, hcell⟩ := (hc4.below (hbw9.mono hB)).2 (by omega)
              subst hA
              obtain ⟨x, hxk⟩ : ∃ x, code[j]? = some x := ⟨_, List.getElem?_eq_getElem (by have := HC3.out; omega)⟩
              obtain ⟨f0, f1, f2⟩ := flatMap_three code j x hxk
              have g0 := hcell _ _ f0
              have g1 := hcell _ _ f1
              have g2 := hcell _ _ f2
              rw [← addr_sub ad _ 1 (by omega)] at g1
              rw [← addr_sub ad _ 2 (by omega)] at g2
              have HX := Lib.hid hxk
              clear hcell hxk f0 f1 f2
              have hxw := HWF.out x (List.mem_of_getElem? HX.out)
              have HXW := Lib.hid hxw
              have hlen : ((code.take j).flatMap encI).length ≤ 9 * j := by
                have := encIs_le (code.take j); rw [List.length_take] at this; omega
              have HO9 := Lib.hid hown9
              have hsz9 := hgr9.size
              clear hxw
              by_cases hxok : okI x = true
              · have HXO := Lib.hid hxok
                clear hxok
                go_wp2_with fail
                refine (instr_yes base _ u0 _ x HXW.out _ (HO9.out.alloc _) (by simp; omega) (by omega) HXO.out).mono ?_
                rintro e w10 ⟨sv, rfl, hown10, hgr10⟩
                go_wp2_with fail
                refine ⟨⟨j + 1, by omega, by go_num, ?_, (hgr9.alloc _).trans hgr10, ?_⟩, by simp [intOf]; omega⟩
                · rw [encIs_snoc code j x HX.out, List.length_append, ← List.append_assoc, ← Nat.add_assoc]
                  exact hown10
                · show ∀ y ∈ _, okI y = true
                  rw [List.take_add_one, HX.out]
                  intro y hy
                  rcases List.mem_append.1 hy with h | h
                  · exact hoks.out y h
                  · simp at h; rw [h]; exact HXO.out
              · have hxok' : okI x = false := by simpa using hxok
                have HXO := Lib.hid hxok'
                have HNO : Hid (okF ⟨params, locals, true, keep, code⟩ = false) := by
                  show _ = _
                  unfold okF
                  have : code.all okI = false := by
                    rw [List.all_eq_false]
                    exact ⟨x, List.mem_of_getElem? HX.out, by simpa using hxok⟩
                  simp [this]
                clear hxok hxok'
                go_wp2_with fail
                refine (instr_not base _ u0 _ x HXW.out _ (HO9.out.alloc _) (by simp; omega) (by omega) HXO.out).mono ?_
                rintro e w10 ⟨sv, rfl, hbel10⟩
                go_wp2_with fail
                go_ret2
                refine ⟨.slice none 0 0, by rw [HNO.out]; rfl, (hbw9.alloc (by omega) _).trans hbel10, fun h => by rw [HNO.out] at h; cases h⟩
            · have hjk : cn ≤ j := by omega
              have HYES : Hid (okF ⟨params, locals, true, keep, code⟩ = true) := by
                show _ = _
                unfold okF
                have h1 : (locals.all fun k => decide (k ≤ 1)) = true := by
                  rw [List.all_eq_true]
                  intro y hy
                  have := hle.out y (by rw [List.take_of_length_le (by have := HL3.out; omega)]; exact hy)
                  simpa using this
                have h2 : code.all okI = true := by
                  rw [List.all_eq_true]
                  intro y hy
                  exact hoks.out y (by rw [List.take_of_length_le (by have := HC3.out; omega)]; exact hy)
                have h3 := HOK.out
                simp only at h1 h2 ⊢
                rw [h3, h1, h2]; rfl
              have ho : wr.ownsRow base 5 1 u0 (m + (encF ⟨params, locals, true, keep, code⟩).length) (byteVals (xs ++ encF ⟨params, locals, true, keep, code⟩)) := by
                rw [List.take_of_length_le (by have := HC3.out; omega)] at hown9
                have e1 : (encHead ⟨params, locals, true, keep, code⟩).length = 6 + ln := by
                  simp only [encHead, List.length_append, bytesLE_length, List.length_cons, List.length_nil, HL3.out]; omega
                rw [encF, List.length_append, e1, ← List.append_assoc]
                have e2 : m + (6 + ln + (code.flatMap encI).length) = m + 6 + ln + (code.flatMap encI).length := by omega
                rw [e2]; exact hown9
              have HO := Lib.hid ho
              clear ho hown9
              go_wp2_with fail
              go_ret2
              exact ⟨u0, by rw [HYES.out]; rfl, hbw9, fun _ => ⟨HO.out, hgr9⟩⟩
/-- one function written: its bytes behind the others, or a refusal -/
theorem func_any (base m : Nat) (bv lv cv : Value) (xs : List Int) (f : FuncD) (hf : f.Wf) (w : World) (B : Nat) (hB : B ≤ base) (hl : KindsAt w B lv f.locals) (hc : CodeAt w B cv f.code)
    (hown : w.ownsRow base 5 1 bv m (byteVals xs)) (hbase : base ≤ w.heap.size) (hm : m ≤ 140737487000000) :
    Calls Try.prog 24 #[bv, .agg #[.int .i64 f.params, lv, .bool f.result, .int .i64 f.keep, cv]] w fun e w' => ∃ sv, e = .returned (.tuple #[sv, .bool (okF f)]) ∧ Below base w w' ∧ (okF f = true → w'.ownsRow base 5 1 sv (m + (encF f).length) (byteVals (xs ++ encF f)) ∧ Grows w w' bv sv) := by
  by_cases hok : headOk f = true
  · exact func_body base m bv lv cv xs f hf w B hB hl hc hok hown hbase hm
  · have hok' : headOk f = false := by simpa using hok
    have e : okF f = false := by unfold okF; rw [hok']; rfl
    refine (func_head bv lv cv f w B hl hc hok').mono fun e' w' h => ?_
    rw [e]
    exact ⟨_, h.1, h.2.mono hbase, fun h => by cases h⟩
end Go.Proofs.Ytcaefdfdngecdaa
