/- Walk of Decode. Conditions: the bytes lie in memory. -/
import Derived.Test.YtcaefdfdngecdaaDecP
import Derived.Test.YtcaefdfdngecdaaDec2
import Derived.Test.YtcaefdfdngecdaaLate
import Derived.Deep.DeepCutAuto
import Derived.Laws.ResultCell
set_option linter.unusedVariables false
set_option linter.unusedSimpArgs false
namespace Go.Proofs.Ytcaefdfdngecdaa
open Go.RowKit

theorem infoFunc : (Try.prog.info? 45).map (fun i => (i.zero, i.size, i.bytes)) = some (some (.agg #[.int .i64 0, .slice none 0 0, .bool false, .int .i64 0, .slice none 0 0]), 5, 72) := by kernel_rfl
theorem Mine.own {w : World} {lo lo' : Nat} {row : Option Nat} {f : FuncD} {lv cv : Value} (h : Mine w lo f lv cv) (hlo : lo' ≤ lo) (hr : ∀ k, row = some k → k < lo) : FuncOwn w lo' row (fcells f lv cv) f :=
  ⟨lv, cv, rfl, h.1, h.2.1, fun k e => ⟨by have := (h.2.2.1 k e).1; omega, (h.2.2.1 k e).2, fun e' => by have := hr k e'; have := (h.2.2.1 k e).1; omega⟩, fun k e => ⟨by have := (h.2.2.2 k e).1; omega, (h.2.2.2 k e).2, fun e' => by have := hr k e'; have := (h.2.2.2 k e).1; omega⟩⟩
/-- the functions that a call made, in order -/
def FsOwn (w : World) (lo : Nat) (row : Option Nat) (css : List (List Value)) (fs : List FuncD) : Prop := css.length = fs.length ∧ ∀ (i : Nat) f, fs[i]? = some f → ∃ cs, css[i]? = some cs ∧ FuncOwn w lo row cs f
theorem FsOwn.kept {w w' : World} {lo : Nat} {row row' g : Option Nat} {css : List (List Value)} {fs : List FuncD} (h : FsOwn w lo row css fs) (hg : w.grownBy w' g) (hne : ∀ k, lo ≤ k → k < w.heap.size → row ≠ some k → g ≠ some k ∧ row' ≠ some k) : FsOwn w' lo row' css fs :=
  ⟨h.1, fun i f hf => by
    obtain ⟨cs, h1, h2⟩ := h.2 i f hf
    exact ⟨cs, h1, h2.kept hg hne⟩⟩
theorem FsOwn.drew {w : World} {lo : Nat} {row : Option Nat} {css : List (List Value)} {fs : List FuncD} (h : FsOwn w lo row css fs) : FsOwn w.drew lo row css fs :=
  h.kept (row' := row) (g := none) (only_drew (World.grownBy.refl _ none)) (fun k _ _ h3 => ⟨nofun, h3⟩)
theorem FsOwn.at_ {w : World} {lo base : Nat} {row : Option Nat} {css : List (List Value)} {fs : List FuncD} {v : Value} {e : TypeId} (h : FsOwn w lo row css fs) (ho : w.ownsRow base e 5 v fs.length css.flatten) : FuncsAt w w.heap.size v fs := by
  obtain ⟨A, c, rfl, h1, h2, h3⟩ := own_any ho
  exact ⟨A, _, c, css, rfl, h1, h2, rfl, h.1, h3, fun i f hf => by
    obtain ⟨cs, h4, h5⟩ := h.2 i f hf
    exact ⟨cs, h4, h5.at_⟩⟩
theorem results_row_tmp {fn : Func} {p u : Tmp} {ty : TypeId} {P : Program} (h : fn.results = #[.cell p ty, .tmp u]) (tmps : Array Value) (w : World) (g : Nat) (t : TypeId) (cs : Array Value) (fr : Nat × Nat) (d : Array Field)
    (hp : tmps.getD p undef = .pointer (some ⟨g, 0, none⟩)) (hg : w.heap[g]? = some (.cells cs t fr))
    (hu : P.underlying ty = some (.struct d)) (hi : (P.info? ty).map (·.size) = some cs.size) :
    (results fn tmps).run P w = .ok (.tuple #[.agg cs, tmps.getD u undef]) w := by
  rw [results_cell_tmp h, hp]
  simp [asAddr, run_loadVar_row w g t ty cs fr (.struct d) hg hu rfl hi]
theorem FsOwn.snoc {w : World} {lo : Nat} {row : Option Nat} {css : List (List Value)} {fs : List FuncD} {cs : List Value} {f : FuncD} (h : FsOwn w lo row css fs) (hf : FuncOwn w lo row cs f) : FsOwn w lo row (css ++ [cs]) (fs ++ [f]) := by
  refine ⟨by simp [h.1], fun i g hg => ?_⟩
  rcases Nat.lt_or_ge i fs.length with hi | hi
  · rw [List.getElem?_append_left hi] at hg
    obtain ⟨cs', h1, h2⟩ := h.2 i g hg
    exact ⟨cs', by rw [List.getElem?_append_left (by rw [h.1]; exact hi)]; exact h1, h2⟩
  · rw [List.getElem?_append_right hi] at hg
    have h0 : i - fs.length = 0 := by
      have := (List.getElem?_eq_some_iff.1 hg).1
      simp at this; omega
    rw [h0] at hg
    simp only [List.getElem?_cons_zero, Option.some.injEq] at hg
    subst hg
    exact ⟨cs, by rw [List.getElem?_append_right (by rw [h.1]; exact hi), h.1, h0]; rfl, hf⟩
/-- what stands when so many functions are read -/
def DecRel (w W0 : World) (B P N : Nat) (xs : List Int) (j : Nat) (wr : World) : Prop :=
  ∃ bad sv' rest', ∃ fs : List FuncD, ∃ css : List (List Value), ∃ pv, RIn wr (w.heap.size + 1) B sv' bad rest' ∧ Blk wr P 26 #[pv] ∧ wr.ownsRow w.heap.size 45 5 pv fs.length css.flatten ∧ W0.grownBy wr (some (w.heap.size + 1)) ∧
    FsOwn wr (P + 1) pv.ownBlock css fs ∧ (∀ f ∈ fs, f.Wf) ∧ fs.length ≤ j ∧ decP xs = if bad then none else (decFs (N - j) rest').bind fun q => endP (fs ++ q.1, q.2)
/-- what Decode leaves -/
def DecPost (xs : List Int) (w : World) (e : Ending) (w' : World) : Prop :=
  Below w.heap.size w w' ∧ ((decP xs = none ∧ e = .returned (.tuple #[.agg #[.slice none 0 0], .int .i64 30])) ∨ (∃ fs, decP xs = some fs ∧ boundP fs = false ∧ e = .returned (.tuple #[.agg #[.slice none 0 0], .int .i64 31])) ∨
    (∃ fs pv, decP xs = some fs ∧ boundP fs = true ∧ e = .returned (.tuple #[.agg #[pv], .int .i64 0]) ∧ FuncsAt w' w'.heap.size pv fs ∧ ∀ f ∈ fs, f.Wf))
set_option maxRecDepth 100000 in
set_option maxHeartbeats 2000000 in
theorem decode_any (bv : Value) (xs : List Int) (w : World) (B : Nat) (h : KindsAt w B bv xs) (hb : ∀ x ∈ xs, Byte x) (hB : B ≤ w.heap.size) :
    Calls Try.prog 10 #[bv] w fun e w' => DecPost xs w e w' := by
  obtain ⟨A, n, c, rfl, hnc, hc, hl, hr⟩ := h
  have hBlk : Blk (w.alloc (.cells #[.slice none 0 0] 26)) w.heap.size 26 #[.slice none 0 0] := Blk.new w _ _
  have hI : RIn ((w.alloc (.cells #[.slice none 0 0] 26)).alloc (.cells #[.slice A n c, .bool false] 54)) (w.heap.size + 1) B (.slice A n c) false xs := by
    refine ⟨?_, ⟨A, n, c, rfl, hnc, hc, hl, (hr.alloc hB _).alloc (by simp; omega) _⟩, hb⟩
    have := Blk.new (w.alloc (.cells #[.slice none 0 0] 26)) 54 #[.slice A n c, .bool false]
    rw [World.size_alloc] at this
    exact this
  have HI := Lib.hid hI
  have HBLK := Lib.hid hBlk
  have HD := Lib.hid (show decP xs = if false then none else (num 2 xs).bind fun a => (num 1 a.2).bind fun b => if headBad a.1 b.1 then none else (decFs b.1.toNat b.2).bind endP from rfl)
  obtain ⟨i0, hi0, hz0, hz1, hz2⟩ := info_parts infoFunc
  clear hI hBlk hl hr hb
  go_enter Try.func10, Try.ntmps10
  go_wp2_with fail
  refine (number_any (w.heap.size + 1) B 2 _ false xs _ HI.out (by omega) (by omega) _ rfl).mono ?_
  rintro e w1 ⟨m, sv1, bad1, rest1, rfl, hm0, hm1, hI1, hg1, hs1⟩
  have HD1 := Lib.hid (st_step HD.out hs1)
  have HI1 := Lib.hid hI1
  generalize hW : (w.alloc (.cells #[.slice none 0 0] 26)).alloc (.cells #[.slice A n c, .bool false] 54) = W0 at hg1
  have hWs : W0.heap.size = w.heap.size + 2 := by rw [← hW]; simp
  have HWB := Lib.hid (show Blk W0 w.heap.size 26 #[.slice none 0 0] by rw [← hW]; exact HBLK.out.alloc _)
  have HWG := Lib.hid (show Below w.heap.size w W0 by rw [← hW]; exact ((Below.refl _ _).alloc (Nat.le_refl _) _).alloc (by simp) _)
  have HG1 := Lib.hid hg1
  have hsz1 := hg1.size
  clear hI1 hs1 hW hg1
  go_wp2_with fail
  refine (number_any (w.heap.size + 1) B 1 _ bad1 rest1 _ HI1.out (by omega) (by omega) _ rfl).mono ?_
  rintro e w2 ⟨q, sv2, bad2, rest2, rfl, hq0, hq1, hI2, hg2, hs2⟩
  replace hq1 : q < 256 := by omega
  replace hm1 : m < 65536 := by omega
  have HD1b := st_step HD1.out hs2
  have HD2 := Lib.hid (st_or HD1b)
  clear HD1b
  have HI2 := Lib.hid hI2
  have HG2 := Lib.hid (grown_chain HG1.out hg2 (fun g e => .inr (by injection e with e; exact e.symm)))
  have hsz2 := hg2.size
  have kb := Blk.cell hI2.cells 1
  have fb := Blk.frozen hI2.cells 1
  simp only [List.getElem?_toArray, List.getElem?_cons_zero, List.getElem?_cons_succ] at kb
  clear hI2 hg2 hs2
  go_upto_region 4 with fail
  go_cut [] (fun wx => RIn wx (w.heap.size + 1) B sv2 (bad2 || headBad m q) rest2 ∧ W0.grownBy wx (some (w.heap.size + 1)))
  case first =>
    have hset : ∀ b, W0.grownBy (w2.setCell ⟨w.heap.size + 1, 1, none⟩ (.bool b)) (some (w.heap.size + 1)) := fun b => only_setCell (g := w.heap.size + 1) HG2.out (p := ⟨w.heap.size + 1, 1, none⟩) (.inl rfl) _
    cases bad2
    · by_cases h1 : m = 19543
      · have e1 : (m != 19543) = false := by simp [h1]
        by_cases h2 : q = 0
        · have e2 : (q == 0) = true := by simp [h2]
          go_wp2_with fail
          go_meet
          exact ⟨by rw [show (false || headBad m q) = true by simp [headBad, h2]]; exact HI2.out.bad_ (by omega) true, hset _⟩
        · have e2 : (q == 0) = false := by simp [h2]
          go_wp2_with fail
          go_meet
          exact ⟨by rw [show (false || headBad m q) = false by simp [headBad, h1, h2]]; exact HI2.out.bad_ (by omega) false, hset _⟩
      · have e1 : (m != 19543) = true := by simp [h1]
        go_wp2_with fail
        go_meet
        exact ⟨by rw [show (false || headBad m q) = true by simp [headBad, h1]]; exact HI2.out.bad_ (by omega) true, hset _⟩
    · go_wp2_with fail
      go_meet
      exact ⟨by rw [show (true || headBad m q) = true by simp]; exact HI2.out.bad_ (by omega) true, hset _⟩
  case rest =>
    obtain ⟨hI3, hG3⟩ := hcut
    obtain ⟨N, rfl⟩ := Int.eq_ofNat_of_zero_le hq0
    have hN : N < 256 := by omega
    have HD3 := Lib.hid (show decP xs = if bad2 || headBad m N then none else (decFs N rest2).bind endP from HD2.out)
    have hgsz := hG3.size
    have HI3 := Lib.hid hI3
    have HG3 := Lib.hid hG3
    generalize hb3 : (bad2 || headBad m (N : Int)) = bad3 at *
    clear hI3 hG3 kb fb hb3
    obtain ⟨P, hP⟩ : ∃ P, P = wc.heap.size := ⟨_, rfl⟩
    have hPB := Blk.new wc 26 #[.slice none 0 0]
    rw [← hP] at hPB
    have hPs : w.heap.size + 2 ≤ P := by omega
    have HPB := Lib.hid hPB
    clear hPB
    go_wp2_with fail
    rw [← hP]
    have HP := Lib.hid hP
    clear hP
    go_loopw [32] (fun i wr => ∃ j : Nat, j ≤ N ∧ i = .int .i64 j ∧ DecRel w W0 B P N xs j wr) (fun i _ => N - (intOf i).toNat)
    case atStart => exact ⟨0, by omega, rfl, bad3, sv2, rest2, [], [], .slice none 0 0, HI3.out.alloc (by omega) _, HPB.out, World.ownsRow_nil _ _ _ _, only_alloc HG3.out _, ⟨rfl, by intro i f hf; simp at hf⟩, (by intro f hf; cases hf), Nat.le_refl _, HD3.out⟩
    case round =>
      obtain ⟨j, hj, rfl, bad4, sv4, rest4, fs, css, pv, hI4, hP4, hO4, hG4, hcf, hwf, hfl, hD4⟩ := hrel
      have hsz4 := hG4.size
      have hPl4 := hP4.lt
      have kb41 := Blk.cell hI4.cells 1
      simp only [List.getElem?_toArray, List.getElem?_cons_zero, List.getElem?_cons_succ] at kb41
      have kp40 := Blk.cell hP4 0
      simp only [List.getElem?_toArray, List.getElem?_cons_zero, List.getElem?_cons_succ] at kp40
      have HI4 := Lib.hid hI4
      have HP4 := Lib.hid hP4
      have HO4 := Lib.hid hO4
      have HG4 := Lib.hid hG4
      have Hcf := Lib.hid hcf
      have Hwf := Lib.hid hwf
      have HD4 := Lib.hid hD4
      clear hD4 hwf hcf hG4 hO4 hP4 hI4
      by_cases hlt : j < N
      · cases bad4
        · go_upto_region 9 with fail
          refine wp_region_late (S := fun W => W.cell? ⟨P, 0, none⟩ = some pv) #[false, false, false, false, false, false, false, true] (by kernel_rfl) kp40 (fun hHeld => ?_)
          refine wpAnyL_take (i := 0) (v := ?_) rfl (by kernel_rfl) (by kernel_rfl) (by kernel_rfl) (by kernel_rfl) (fun _ _ _ h => h) (Or.inl ⟨by rfl, ?_⟩) (by assumption) ?_
          rotate_left
          · intro w hSw; (try dsimp only at hSw); go_simp; try with_reducible rfl
          simp only [Act.put, List.getElem_toArray, List.getElem_cons_zero, List.getElem_cons_succ, List.setIfInBounds_toArray, List.set_cons_zero, List.set_cons_succ]
          refine wpAnyL_take (i := 1) (v := ?_) rfl (by kernel_rfl) (by kernel_rfl) (by kernel_rfl) (by kernel_rfl) (fun _ _ _ h => h) (Or.inl ⟨by rfl, ?_⟩) (by assumption) ?_
          rotate_left
          · intro w hSw; (try dsimp only at hSw); go_simp; try with_reducible rfl
          simp only [Act.put, List.getElem_toArray, List.getElem_cons_zero, List.getElem_cons_succ, List.setIfInBounds_toArray, List.set_cons_zero, List.set_cons_succ]
          refine wpAnyL_take (i := 2) (v := ?_) rfl (by kernel_rfl) (by kernel_rfl) (by kernel_rfl) (by kernel_rfl) (fun _ _ _ h => h) (Or.inl ⟨by rfl, ?_⟩) (by assumption) ?_
          rotate_left
          · intro w hSw; (try dsimp only at hSw); go_simp; try with_reducible rfl
          simp only [Act.put, List.getElem_toArray, List.getElem_cons_zero, List.getElem_cons_succ, List.setIfInBounds_toArray, List.set_cons_zero, List.set_cons_succ]
          refine wpAnyL_ready (rs := [3]) (by kernel_rfl) (by simp) ?_
          refine AllReadyL.cons rfl (fun K hK => ?_) AllReadyL.nil
          go_simp
          refine (readf_any (w.heap.size + 1) B sv4 rest4 _ (HI4.out.grown (only_drew (World.grownBy.refl _ none)) (by omega) (fun _ e => by cases e)) (by omega)).mono ?_
          rintro e w5 ⟨f, lv, cv, sv5, bad5, rest5, rfl, hI5, hfw5, hl5, hc5, hM5, hg5, hD5⟩
          have hneP : pv.ownBlock ≠ some P := own_blk_ne HO4.out HP4.out (by decide)
          have hneW : pv.ownBlock ≠ some w.heap.size := own_blk_ne HO4.out (HWB.out.grown HG4.out (by intro e; injection e with e; omega)) (by decide)
          have hneR : pv.ownBlock ≠ some (w.heap.size + 1) := own_blk_ne HO4.out HI4.out.cells (by decide)
          have hP5 : Blk w5 P 26 #[pv] := HP4.out.drew.grown hg5 (by intro e; injection e with e; omega)
          have hO5 : w5.ownsRow w.heap.size 45 5 pv fs.length css.flatten := HO4.out.drew.kept hg5 (.inr hneR)
          have hG5 : W0.grownBy w5 (some (w.heap.size + 1)) := grown_chain (only_drew HG4.out) hg5 (fun g e => .inr (by injection e with e; exact e.symm))
          have hF5 : FsOwn w5 (P + 1) pv.ownBlock css fs := Hcf.out.drew.kept (w' := w5) (g := some (w.heap.size + 1)) hg5 (fun k h1 h2 h3 => ⟨by intro e; injection e with e; omega, h3⟩)
          have hN5 : FuncOwn w5 (P + 1) pv.ownBlock (fcells f lv cv) f := hM5.own (by simp; omega) (fun k e => (HO4.out.lt k e).2)
          have hFN5 := hF5.snoc hN5
          have hsz5 := hg5.size
          simp only [World.size_drew] at hsz5
          obtain ⟨⟨LA, ln, lc, rfl⟩, ⟨CA, cn, cc, rfl⟩⟩ : (∃ A n c, lv = .slice A n c) ∧ (∃ A n c, cv = .slice A n c) := by
            obtain ⟨⟨a1, a2, a3, h1, _⟩, ⟨b1, b2, b3, h2, _⟩, _⟩ := hM5
            exact ⟨⟨a1, a2, a3, h1⟩, ⟨b1, b2, b3, h2⟩⟩
          have HD4' : decP xs = if false then none else (decFs (N - (j + 1) + 1) rest4).bind fun q => endP (fs ++ q.1, q.2) := by rw [show N - (j + 1) + 1 = N - j by omega]; exact HD4.out
          have HD5 := Lib.hid (st_step (decFs_step HD4') (show (if false then none else decF rest4) = _ from hD5))
          have Hfw5 := Lib.hid hfw5
          refine hK.out _ _ (hP5.cell 0) (fun hHeld2 => ?_)
          have HI5 := Lib.hid hI5
          have HO5 := Lib.hid hO5
          have HG5 := Lib.hid hG5
          have HFN5 := Lib.hid hFN5
          clear hFN5 hG5 hO5 hI5
          clear hK K hHeld HD4' hg5 hD5 hM5 hF5 hN5 hfw5
          try simp only [Act.put, List.getElem_toArray, List.getElem_cons_zero, List.getElem_cons_succ, List.setIfInBounds_toArray, List.set_cons_zero, List.set_cons_succ]
          simp only [fcells]
          refine wpAnyL_ready (rs := [4]) (by kernel_rfl) (by simp) ?_
          refine AllReadyL.cons rfl (fun K hK => ?_) AllReadyL.nil
          go_simp
          refine hK.out _ _ ((hP5.alloc _).cell 0) (fun hHeld3 => ?_)
          clear hK K hHeld2
          try simp only [Act.put, List.getElem_toArray, List.getElem_cons_zero, List.getElem_cons_succ, List.setIfInBounds_toArray, List.set_cons_zero, List.set_cons_succ]
          refine wpAnyL_ready (rs := [5]) (by kernel_rfl) (by simp) ?_
          refine AllReadyL.cons rfl (fun K hK => ?_) AllReadyL.nil
          refine step_append_any _ rfl (.tmp 40) (.tmp 43) _ rfl w.heap.size 45 i0 _ 5 72 Try.underlying24 hi0 hz0 hz1 hz2 rfl (by omega) pv fs.length css.flatten rfl (HO5.out.alloc _) (w5.heap.size + 1) (some ⟨w5.heap.size, 0, none⟩) 1 1 (fcells f (.slice LA ln lc) (.slice CA cn cc)) rfl (Reads.newS _ rfl _ _ _ _ _ rfl rfl) ?c1 ?c2 ?c3 ?c4 ?_
          case c1 => intro u hu; simp only [fcells, List.mem_cons, List.not_mem_nil, or_false] at hu; rcases hu with rfl | rfl | rfl | rfl | rfl <;> rfl
          case c2 => simp only [maxLen]; omega
          case c3 => omega
          case c4 => simp; omega
          intro v6 w6 hown6 hg6 hat6
          obtain ⟨g6, c6, rfl, _⟩ := own_form hown6 (by omega)
          have hP6 := (hP5.alloc _).grown hg6 (Ne.symm hneP)
          have hneR6 : (some g6) ≠ some (w.heap.size + 1) := by
            rcases hat6 with e | e
            · rw [show (Value.slice (some ⟨g6, 0, none⟩) (fs.length + 1) c6).ownBlock = some g6 from rfl] at e; rw [e]; exact hneR
            · rw [show (Value.slice (some ⟨g6, 0, none⟩) (fs.length + 1) c6).ownBlock = some g6 from rfl] at e; rw [e]; intro h; injection h with h; simp at h; omega
          have hneP6 := own_blk_ne hown6 hP6 (by decide)
          have hI6 := (HI5.out.alloc (by omega) _).grown hg6 (by simp; omega) (fun g e => ⟨by have := (HO5.out.lt g e).1; omega, fun e' => hneR (e'.symm ▸ e)⟩)
          have hG6 := grown_chain (only_alloc HG5.out _) hg6 (fun g e => .inl (by have h1 := (HO5.out.lt g e).1; have h2 : g ≠ w.heap.size := fun h => hneW (h ▸ e); have h3 : g ≠ w.heap.size + 1 := fun h => hneR (h ▸ e); omega))
          have hFa := HFN5.out.kept (row' := pv.ownBlock) (World.grownBy_alloc w5 (.cells #[.int .i64 f.params, .slice LA ln lc, .bool f.result, .int .i64 f.keep, .slice CA cn cc] 45) none) (fun k _ _ h3 => ⟨nofun, h3⟩)
          have hF6 := hFa.kept (row' := some g6) hg6 (fun k h1 h2 h3 => ⟨h3, by
            rcases hat6 with e | e
            · rw [show (Value.slice (some ⟨g6, 0, none⟩) (fs.length + 1) c6).ownBlock = some g6 from rfl] at e; rw [e]; exact h3
            · rw [show (Value.slice (some ⟨g6, 0, none⟩) (fs.length + 1) c6).ownBlock = some g6 from rfl] at e; rw [e]; intro h; injection h with h; omega⟩)
          have hF7 := hF6.kept (row' := some g6) (grown_setCell w6 ⟨P, 0, none⟩ (.slice (some ⟨g6, 0, none⟩) (fs.length + 1) c6)) (fun k h1 h2 h3 => ⟨by intro e; injection e with e; simp only at e; omega, h3⟩)
          have kp60 := Blk.cell hP6 0
          simp only [List.getElem?_toArray, List.getElem?_cons_zero, List.getElem?_cons_succ] at kp60
          have fp60 := Blk.frozen hP6 0
          refine hK.out _ _ kp60 (fun hHeld4 => ?_)
          clear hK K hHeld3 hFa hF6
          have HI6 := Lib.hid hI6
          have HG6 := Lib.hid hG6
          have HP6 := Lib.hid hP6
          have Hown6 := Lib.hid hown6
          have HF7 := Lib.hid hF7
          clear hF7 hown6 hP6 hG6 hI6
          clear hat6 hg6
          try simp only [Act.put, List.getElem_toArray, List.getElem_cons_zero, List.getElem_cons_succ, List.setIfInBounds_toArray, List.set_cons_zero, List.set_cons_succ]
          refine wpAnyL_take (i := 6) (v := ?_) rfl (by kernel_rfl) (by kernel_rfl) (by kernel_rfl) (by kernel_rfl) (fun _ _ _ h => h) (Or.inl ⟨by rfl, ?_⟩) (by assumption) ?_
          rotate_left
          · intro w hSw; (try dsimp only at hSw); go_simp; try with_reducible rfl
          simp only [Act.put, List.getElem_toArray, List.getElem_cons_zero, List.getElem_cons_succ, List.setIfInBounds_toArray, List.set_cons_zero, List.set_cons_succ]
          refine wpAnyL_ready (rs := [7]) (by kernel_rfl) (by simp) ?_
          refine AllReadyL.last rfl (by kernel_rfl) (fun K hK => ?_) AllReadyL.nil
          go_simp
          refine hK.out _ _ ?_
          clear hK K hHeld4
          refine wpAnyL_done (by kernel_rfl) ?_ _
          go_wp2_with fail
          refine ⟨⟨j + 1, by omega, by go_num, bad5, sv5, rest5, fs ++ [f], css ++ [fcells f (.slice LA ln lc) (.slice CA cn cc)], _, HI6.out.far (p := ⟨P, 0, none⟩) (by simp; omega) (by simp; omega) _, Blk.set_ HP6.out 0 _, ownsRow_setCell_other ?_ hneP6 _, only_setCell (g := w.heap.size + 1) HG6.out (p := ⟨P, 0, none⟩) (.inr (by simp; omega)) _, HF7.out, ?_, by simp; omega, HD5.out⟩, by simp [intOf]; omega⟩
          · rw [List.length_append, List.flatten_append]
            simpa using Hown6.out
          · intro z hz
            rcases List.mem_append.1 hz with h | h
            · exact Hwf.out z h
            · simp only [List.mem_singleton] at h; rw [h]; exact Hfw5.out
        · go_wp2_with fail
          refine ⟨⟨j + 1, by omega, by go_num, true, sv4, rest4, fs, css, pv, HI4.out, HP4.out, HO4.out, HG4.out, Hcf.out, Hwf.out, by omega, ?_⟩, by simp [intOf]; omega⟩
          rw [HD4.out]; rfl
      · obtain rfl : N = j := by omega
        have hend : decP xs = if bad4 then none else endP (fs, rest4) := by
          rw [HD4.out, Nat.sub_self, decFs]; simp
        have hWB4 := HWB.out.grown HG4.out (by intro e; injection e with e; omega)
        have kw0 := Blk.cell hWB4 0
        simp only [List.getElem?_toArray, List.getElem?_cons_zero, List.getElem?_cons_succ] at kw0
        have fw0 := Blk.frozen hWB4 0
        have hbw4 : Below w.heap.size w wr := HWG.out.grown HG4.out (by omega) (fun k e => by injection e with e; omega)
        cases bad4
        · obtain ⟨RA, rn, rc, rfl, hr1, hr2, hr3, hr4⟩ := HI4.out.bytes
          have kr0 := Blk.cell HI4.out.cells 0
          simp only [List.getElem?_toArray, List.getElem?_cons_zero, List.getElem?_cons_succ] at kr0
          by_cases hrest : 0 < rn
          · have hd : decide ((0 : Int) < rn) = true := by simpa using hrest
            have HE := Lib.hid (show decP xs = none by rw [hend]; simp [endP, hr3, hrest])
            clear hend hr3
            have HWB4 := Lib.hid hWB4
            have Hbw4 := Lib.hid hbw4
            clear hbw4 hWB4
            go_wp2_with fail
            refine bodyPost_ret (results_row_tmp rfl _ _ w.heap.size 26 _ (0, 0) _ rfl (Blk.set_ HWB4.out 0 _) Try.underlying26 (by kernel_rfl)) rfl ?_
            exact ⟨Hbw4.out.setCell (by simp) _, .inl ⟨HE.out, rfl⟩⟩
          · have hd : decide ((0 : Int) < rn) = false := by simpa using hrest
            have HE := Lib.hid (show decP xs = some fs by rw [hend]; simp [endP, hr3, hrest])
            have hfa := Hcf.out.at_ HO4.out
            obtain ⟨QA, qn, qc, rfl, hq⟩ : ∃ A n c, pv = .slice A n c ∧ True := by
              obtain ⟨A, c, h1, _⟩ := own_any HO4.out
              exact ⟨A, _, c, h1, trivial⟩
            clear hend hr3
            have HWB4 := Lib.hid hWB4
            have Hbw4 := Lib.hid hbw4
            clear hbw4 hWB4
            go_wp2_with fail
            refine (bounded_any _ fs _ _ hfa (Nat.le_refl _)).mono ?_
            rintro e w7 ⟨rfl, hb7⟩
            have hWB7 := HWB4.out.below hb7 (by omega)
            have hP7 := HP4.out.below hb7 hPl4
            have hbw7 := Hbw4.out.trans (hb7.mono (by omega))
            have hfa7 : FuncsAt (w7.setCell ⟨w.heap.size, 0, none⟩ (.slice QA qn qc)) (w7.setCell ⟨w.heap.size, 0, none⟩ (.slice QA qn qc)).heap.size (.slice QA qn qc) fs := by
              have hO7 := HO4.out.kept (only_of_below hb7 none) (by cases (Value.slice QA qn qc).ownBlock <;> simp)
              have hF7 := Hcf.out.kept (row' := (Value.slice QA qn qc).ownBlock) (only_of_below hb7 none) (fun k _ _ h3 => ⟨nofun, h3⟩)
              have hne : (Value.slice QA qn qc).ownBlock ≠ some w.heap.size := own_blk_ne HO4.out HWB4.out (by decide)
              exact (hF7.kept (row' := (Value.slice QA qn qc).ownBlock) (grown_setCell w7 ⟨w.heap.size, 0, none⟩ (.slice QA qn qc)) (fun k h1 h2 h3 => ⟨by intro e; injection e with e; simp only at e; omega, h3⟩)).at_ (ownsRow_setCell_other hO7 hne _)
            have kx0 := Blk.cell hWB7 0
            simp only [List.getElem?_toArray, List.getElem?_cons_zero, List.getElem?_cons_succ] at kx0
            have fx0 := Blk.frozen hWB7 0
            have ky0 := Blk.cell hP7 0
            simp only [List.getElem?_toArray, List.getElem?_cons_zero, List.getElem?_cons_succ] at ky0
            have HWB7 := Lib.hid hWB7
            have Hbw7 := Lib.hid hbw7
            have Hfa7 := Lib.hid hfa7
            clear hfa7 hbw7 hWB7
            clear hb7 hP7 kw0 fw0 hfa hq
            rcases Bool.eq_false_or_eq_true (boundP fs) with hbp | hbp
            · have Hbp := Lib.hid hbp
              rw [hbp]
              clear hbp
              go_wp2_with fail
              refine bodyPost_ret (results_row_tmp rfl _ _ w.heap.size 26 _ (0, 0) _ rfl (Blk.set_ HWB7.out 0 _) Try.underlying26 (by kernel_rfl)) rfl ?_
              exact ⟨Hbw7.out.setCell (by simp) _, .inr (.inr ⟨fs, _, HE.out, Hbp.out, rfl, Hfa7.out, Hwf.out⟩)⟩
            · have Hbp := Lib.hid hbp
              rw [hbp]
              clear hbp
              go_wp2_with fail
              refine bodyPost_ret (results_row_tmp rfl _ _ w.heap.size 26 _ (0, 0) _ rfl (Blk.set_ HWB7.out 0 _) Try.underlying26 (by kernel_rfl)) rfl ?_
              exact ⟨Hbw7.out.setCell (by simp) _, .inr (.inl ⟨fs, HE.out, Hbp.out, rfl⟩)⟩
        · have HE := Lib.hid (show decP xs = none by rw [hend]; rfl)
          clear hend
          have HWB4 := Lib.hid hWB4
          have Hbw4 := Lib.hid hbw4
          clear hbw4 hWB4
          go_wp2_with fail
          refine bodyPost_ret (results_row_tmp rfl _ _ w.heap.size 26 _ (0, 0) _ rfl (Blk.set_ HWB4.out 0 _) Try.underlying26 (by kernel_rfl)) rfl ?_
          exact ⟨Hbw4.out.setCell (by simp) _, .inl ⟨HE.out, rfl⟩⟩
end Go.Proofs.Ytcaefdfdngecdaa
