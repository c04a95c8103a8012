/- Walk of the document's Copy. Conditions: the program lies in memory, within the reach. -/
import Derived.Test.YtcaefdfdngecdaaEnc4
import Derived.Test.YtcaefdfdngecdaaDec3
set_option linter.unusedVariables false
set_option linter.unusedSimpArgs false
namespace Go.Proofs.Ytcaefdfdngecdaa
open Go.RowKit

/-- the rows of functions that a call made, each its own -/
def FsRows (w : World) (base : Nat) (css : List (List Value)) (fs : List FuncD) : Prop :=
  css.length = fs.length ∧ ∀ (i : Nat) f, fs[i]? = some f → ∃ lv cv, css[i]? = some (fcells f lv cv) ∧ w.ownsRow base 51 1 lv f.locals.length (kindVals f.locals) ∧ w.ownsRow base 49 3 cv f.code.length (f.code.flatMap icells)
theorem own_kept' {w w' : World} {base size n : Nat} {e : TypeId} {v : Value} {xs : List Value} {row : Option Nat} (h : w.ownsRow base e size v n xs) (hg : w.grownBy w' row)
    (hr : ∀ g, row = some g → w.heap.size ≤ g ∨ ∃ t cs, Blk w g t cs ∧ t ≠ e) : w'.ownsRow base e size v n xs := by
  refine h.kept hg ?_
  by_cases hv : v.ownBlock = none
  · exact .inl hv
  · right
    intro heq
    cases hrow : row with
    | none => exact hv (by rw [heq, hrow])
    | some g =>
      rw [hrow] at heq
      rcases hr g hrow with h1 | ⟨t, cs, h1, h2⟩
      · have := (h.lt g heq).2; omega
      · exact own_blk_ne h h1 (Ne.symm h2) heq
theorem FsRows.kept {w w' : World} {base : Nat} {css : List (List Value)} {fs : List FuncD} {row : Option Nat} (h : FsRows w base css fs) (hg : w.grownBy w' row)
    (hr : ∀ g, row = some g → w.heap.size ≤ g ∨ ∃ t cs, Blk w g t cs ∧ t ≠ 51 ∧ t ≠ 49) : FsRows w' base css fs :=
  ⟨h.1, fun i f hf => by
    obtain ⟨lv, cv, h1, h2, h3⟩ := h.2 i f hf
    exact ⟨lv, cv, h1, own_kept' h2 hg fun g e => (hr g e).imp id fun ⟨t, cs, a, b, _⟩ => ⟨t, cs, a, b⟩, own_kept' h3 hg fun g e => (hr g e).imp id fun ⟨t, cs, a, _, b⟩ => ⟨t, cs, a, b⟩⟩⟩
theorem FsRows.nil (w : World) (base : Nat) : FsRows w base [] [] := ⟨rfl, by intro i f hf; simp at hf⟩
theorem FsRows.snoc {w : World} {base : Nat} {css : List (List Value)} {fs : List FuncD} {f : FuncD} {lv cv : Value} (h : FsRows w base css fs) (h1 : w.ownsRow base 51 1 lv f.locals.length (kindVals f.locals)) (h2 : w.ownsRow base 49 3 cv f.code.length (f.code.flatMap icells)) : FsRows w base (css ++ [fcells f lv cv]) (fs ++ [f]) := by
  refine ⟨by simp [h.1], fun i g hg => ?_⟩
  rcases Nat.lt_or_ge i fs.length with hi | hi
  · rw [List.getElem?_append_left hi] at hg
    obtain ⟨lv', cv', k1, k2, k3⟩ := h.2 i g hg
    exact ⟨lv', cv', by rw [List.getElem?_append_left (by rw [h.1]; exact hi)]; exact k1, k2, k3⟩
  · rw [List.getElem?_append_right hi] at hg
    have h0 : i - fs.length = 0 := by
      have := (List.getElem?_eq_some_iff.1 hg).1
      simp at this; omega
    rw [h0] at hg
    simp only [List.getElem?_cons_zero, Option.some.injEq] at hg
    subst hg
    exact ⟨lv, cv, by rw [List.getElem?_append_right (by rw [h.1]; exact hi), h.1, h0]; rfl, h1, h2⟩
theorem FsRows.at_ {w : World} {base base' : Nat} {css : List (List Value)} {fs : List FuncD} {v : Value} {e : TypeId} (h : FsRows w base css fs) (ho : w.ownsRow base' e 5 v fs.length css.flatten) : FuncsAt w w.heap.size v fs := by
  obtain ⟨A, c, rfl, h1, h2, h3⟩ := own_any ho
  exact ⟨A, _, c, css, rfl, h1, h2, rfl, h.1, h3, fun i f hf => by
    obtain ⟨lv, cv, h4, h5, h6⟩ := h.2 i f hf
    obtain ⟨A1, c1, e1, a1, a2, a3⟩ := own_any h5
    obtain ⟨A2, c2, e2, b1, b2, b3⟩ := own_any h6
    exact ⟨_, h4, lv, cv, rfl, ⟨A1, _, c1, e1, a1, a2, rfl, a3⟩, ⟨A2, _, c2, e2, b1, b2, rfl, b3⟩⟩⟩
/-- within the reach -/
def FsSmall (fs : List FuncD) : Prop := (∀ f ∈ fs, f.locals.length ≤ 140737488351232 ∧ f.code.length * 24 ≤ 140737488351232) ∧ fs.length * 72 ≤ 140737488351232
/-- what a copy leaves -/
def CopyPost (fs : List FuncD) (w : World) (e : Ending) (w' : World) : Prop :=
  Below w.heap.size w w' ∧ ∃ pv css, e = .returned (.agg #[pv]) ∧ w'.ownsRow w.heap.size 45 5 pv fs.length css.flatten ∧ FsRows w' w.heap.size css fs
/-- what stands when so many functions are copied -/
def CopyRel (w : World) (T U : Nat) (fs : List FuncD) (j : Nat) (wr : World) : Prop :=
  ∃ (css : List (List Value)) (pv : Value), wr.ownsRow w.heap.size 45 5 pv j css.flatten ∧ FsRows wr w.heap.size css (fs.take j) ∧ Blk wr T 26 #[pv] ∧ Blk wr U 26 #[.slice none 0 0] ∧ Below w.heap.size w wr
theorem own_blk {w : World} {base size n g : Nat} {e : TypeId} {v : Value} {xs : List Value} (h : w.ownsRow base e size v n xs) (hg : v.ownBlock = some g) : ∃ cs, Blk w g e cs := by
  rcases h.2 with ⟨rfl, _⟩ | ⟨g', cap, cur, rfl, _, hh, _⟩
  · cases hg
  · injection hg with hg
    simp only at hg
    subst hg
    exact ⟨cur, hh⟩
theorem icells_one (is : List InstrD) : ∀ u ∈ is.flatMap icells, u.oneCell' = true := by
  intro u hu
  simp only [List.mem_flatMap, icells, List.mem_cons, List.not_mem_nil, or_false] at hu
  obtain ⟨x, _, rfl | rfl | rfl⟩ := hu <;> rfl
theorem own_app {w : World} {base size n : Nat} {e : TypeId} {v : Value} {xs ys : List Value} (h : w.ownsRow base e size v (0 + n) ([] ++ xs)) (hx : xs = ys) : w.ownsRow base e size v n ys := by
  subst hx; rw [Nat.zero_add, List.nil_append] at h; exact h
set_option maxRecDepth 100000 in
set_option maxHeartbeats 2000000 in
theorem refcopy_any (fsv : Value) (fs : List FuncD) (w : World) (B : Nat) (hp : FuncsAt w B fsv fs) (hB : B ≤ w.heap.size) (hs : FsSmall fs) :
    Calls Try.prog 15 #[.agg #[fsv]] w fun e w' => CopyPost fs w e w' := by
  obtain ⟨i0, hi0, hz0, hz1, hz2⟩ := info_parts infoFunc
  obtain ⟨i1, hi1, hv0, hv1, hv2⟩ := info_parts infoInstr
  obtain ⟨ik, hik, hkz0, hkz1, hkz2⟩ := info_parts infoKind
  obtain ⟨A, n, c, css, rfl, hc1, hc2, hl, hcl, hr, hcs⟩ := hp
  have h5 := css_five hl hcl hcs
  unfold maxLen at hc2
  have hn72 := hs.2
  rw [hl] at hn72
  have HL := Lib.hid hl
  have HC := Lib.hid hcl
  have HCS := Lib.hid hcs
  have HR := Lib.hid hr
  have HS := Lib.hid hs
  clear hs hr hcs hcl hl
  go_enter Try.func15, Try.ntmps15
  go_wp2_with fail
  obtain ⟨U, hU⟩ : ∃ U, U = w.heap.size + 1 := ⟨_, rfl⟩
  obtain ⟨T, hT⟩ : ∃ T, T = w.heap.size + 1 + 1 := ⟨_, rfl⟩
  rw [← hT, ← hU]
  obtain ⟨W0, hW0⟩ : ∃ W0, W0 = ((w.alloc (.cells #[.slice A n c] 26)).alloc (.cells #[.slice none 0 0] 26)).alloc (.cells #[.slice none 0 0] 26) := ⟨_, rfl⟩
  rw [← hW0]
  have hTb : Blk W0 T 26 #[.slice none 0 0] := by
    have := Blk.new ((w.alloc (.cells #[.slice A n c] 26)).alloc (.cells #[.slice none 0 0] 26)) 26 #[.slice none 0 0]
    simp only [World.size_alloc] at this
    rw [hW0, hT]; exact this
  have hUb : Blk W0 U 26 #[.slice none 0 0] := by
    have := (Blk.new (w.alloc (.cells #[.slice A n c] 26)) 26 #[.slice none 0 0]).alloc (.cells #[.slice none 0 0] 26)
    simp only [World.size_alloc] at this
    rw [hW0, hU]; exact this
  have hb0 : Below w.heap.size w W0 := by rw [hW0]; exact (((Below.refl _ _).alloc (Nat.le_refl _) _).alloc (by simp) _).alloc (by simp; omega) _
  have o1 : w.heap.size ≤ U := by omega
  have o2 : U < T := by omega
  have HTb := Lib.hid hTb
  have HUb := Lib.hid hUb
  have Hb0 := Lib.hid hb0
  clear hb0 hUb hTb
  clear hW0 hT hU
  go_loopw [9] (fun i wr => ∃ j : Nat, j ≤ n ∧ i = .int .i64 j ∧ CopyRel w T U fs j wr) (fun i _ => n - (intOf i).toNat)
  case atStart => exact ⟨0, by omega, rfl, [], _, World.ownsRow_nil _ _ _ _, by simpa using FsRows.nil _ _, HTb.out, HUb.out, Hb0.out⟩
  case round =>
    obtain ⟨j, hj, rfl, cs4, pv, hO4, hF4, hT4, hU4, hb4⟩ := hrel
    have hsz4 := hb4.size
    have hTl := hT4.lt
    by_cases hlt : j < n
    · have hrw := HR.out.below (hb4.mono hB)
      obtain ⟨ad, hA, hadb, _⟩ := HR.out.2 (by omega)
      subst hA
      obtain ⟨f, hfk⟩ : ∃ f, fs[j]? = some f := ⟨_, List.getElem?_eq_getElem (by have := HL.out; omega)⟩
      obtain ⟨cs, hck, lv, cv, rfl, hlv, hcv⟩ := HCS.out j f hfk
      obtain ⟨LA, ln, lc, rfl, hl1, hl2, hl3, hl4⟩ := hlv
      obtain ⟨CA, cn, cc, rfl, hm1, hm2, hm3, hm4⟩ := hcv
      obtain ⟨g0, g1, g2, g3, g4⟩ := func_cells hrw HC.out h5 j f _ _ hck
      have hfs := HS.out.1 f (List.mem_of_getElem? hfk)
      rw [hl3, hm3] at hfs
      obtain ⟨hfs1, hfs2⟩ := hfs
      have hnT : pv.ownBlock ≠ some T := own_blk_ne hO4 hT4 (by decide)
      -- the function's box
      obtain ⟨F, hF⟩ : ∃ F, F = wr.heap.size := ⟨_, rfl⟩
      have hE := own_base (own_lit0 (wr.alloc (.cells #[.int .i64 f.params, .slice LA ln lc, .bool f.result, .int .i64 f.keep, .slice CA cn cc] 45)) 51 1) (base' := w.heap.size) (by simp; omega)
      have hSrc : Reads ((wr.alloc (.cells #[.int .i64 f.params, .slice LA ln lc, .bool f.result, .int .i64 f.keep, .slice CA cn cc] 45)).alloc (.cells #[] 51)) B 1 LA ln (kindVals f.locals) := ((hl4.below (hb4.mono hB)).alloc (by omega) _).alloc (by simp; omega) _
      have hFb := (Blk.new wr 45 #[.int .i64 f.params, .slice LA ln lc, .bool f.result, .int .i64 f.keep, .slice CA cn cc]).alloc (.cells #[] 51)
      have hg0 : wr.grownBy ((wr.alloc (.cells #[.int .i64 f.params, .slice LA ln lc, .bool f.result, .int .i64 f.keep, .slice CA cn cc] 45)).alloc (.cells #[] 51)) none := only_alloc (World.grownBy_alloc wr _ none) _
      rw [World.size_alloc] at hE
      have HO4 := Lib.hid hO4
      have HF4 := Lib.hid hF4
      have HT4 := Lib.hid hT4
      have HU4 := Lib.hid hU4
      have Hb4 := Lib.hid hb4
      have HE := Lib.hid hE
      have HSrc := Lib.hid hSrc
      have HFb := Lib.hid hFb
      have HG0 := Lib.hid hg0
      have Hfk := Lib.hid hfk
      have Hl4 := Lib.hid hl4
      have Hl3 := Lib.hid hl3
      have Hm3 := Lib.hid hm3
      have Hm4 := Lib.hid hm4
      clear hm4 hm3 hl3 hl4 hfk hg0 hFb hSrc hE hb4 hU4 hT4 hF4 hO4
      clear hrw hck hF
      go_upto_region 6 with (first
      | (at_builtin
         refine wpList_append_any _ rfl (.tmp 13) (.tmp 15) _ rfl w.heap.size 51 ik _ 1 1 Try.underlying42 hik hkz0 hkz1 hkz2 rfl (by omega) (.slice (some ⟨wr.heap.size + 1, 0, none⟩) 0 0) 0 [] rfl HE.out B LA ln lc (kindVals f.locals) rfl HSrc.out ?c1 ?c2 ?c3 ?c4 ?_
         case c1 => exact byteVals_one f.locals
         case c2 => unfold maxLen; omega
         case c3 => omega
         case c4 => simp; omega
         intro v3 w3 hown3 hg3 hat3
         have hO3 := own_app (ys := kindVals f.locals) hown3 rfl
         obtain ⟨VA, vc, rfl, _⟩ := own_any hO3
         have hFb3 := HFb.out.grown hg3 (by intro e; injection e with e; simp only at e; omega)
         have k31 := Blk.cell hFb3 1
         have f31 := Blk.frozen hFb3 1
         simp only [List.getElem?_toArray, List.getElem?_cons_zero, List.getElem?_cons_succ] at k31))
      have hb3 : Below wr.heap.size wr w3 := (((Below.refl _ _).alloc (Nat.le_refl _) _).alloc (by simp) _).grown hg3 (by simp; omega) (fun k e => by injection e with e; simp only at e; omega)
      have hs3 := hg3.size
      simp only [World.size_alloc] at hs3
      obtain ⟨F, hF⟩ : ∃ F, F = wr.heap.size := ⟨_, rfl⟩
      obtain ⟨W4, hW4⟩ : ∃ W4, W4 = w3.setCell ⟨wr.heap.size, 1, none⟩ (.slice VA ln vc) := ⟨_, rfl⟩
      rw [← hW4, ← hF]
      have hFb4 : Blk W4 F 45 #[.int .i64 f.params, .slice VA ln vc, .bool f.result, .int .i64 f.keep, .slice CA cn cc] := by rw [hW4, hF]; exact hFb3.set_ 1 _
      have hK4 : W4.ownsRow w.heap.size 51 1 (.slice VA ln vc) ln (kindVals f.locals) := by rw [hW4]; exact ownsRow_setCell_other hO3 (own_blk_ne hO3 hFb3 (by decide)) _
      have hb4' : Below wr.heap.size wr W4 := by rw [hW4]; exact hb3.setCell (p := ⟨wr.heap.size, 1, none⟩) (Nat.le_refl _) _
      have hs4' := hb4'.size
      have hF4l : F < W4.heap.size := hFb4.lt
      clear hW4 hown3 hO3 hg3 hat3 hb3 hFb3 k31 f31 hs3
      have hE4 := own_base (own_lit0 W4 49 3) (base' := w.heap.size) (by omega)
      have hSrc4 : Reads (W4.alloc (.cells #[] 49)) B 3 CA cn (f.code.flatMap icells) := (Hm4.out.below ((Hb4.out.trans (hb4'.mono hsz4)).mono hB)).alloc (by omega) _
      have ka4 := Blk.cell hFb4 4
      simp only [List.getElem?_toArray, List.getElem?_cons_zero, List.getElem?_cons_succ] at ka4
      have HFb4 := Lib.hid hFb4
      have HK4 := Lib.hid hK4
      have Hb4' := Lib.hid hb4'
      have HE4 := Lib.hid hE4
      have HSrc4 := Lib.hid hSrc4
      have HF := Lib.hid hF
      clear hF hSrc4 hE4 hb4' hK4 hFb4
      go_upto_region 7 with (first
      | (at_builtin
         refine wpList_append_any _ rfl (.tmp 18) (.tmp 20) _ rfl w.heap.size 49 i1 _ 3 24 Try.underlying43 hi1 hv0 hv1 hv2 rfl (by omega) (.slice (some ⟨W4.heap.size, 0, none⟩) 0 0) 0 [] rfl HE4.out B CA cn cc (f.code.flatMap icells) rfl HSrc4.out ?c1 ?c2 ?c3 ?c4 ?_
         case c1 => exact icells_one f.code
         case c2 => unfold maxLen; omega
         case c3 => omega
         case c4 => simp; omega
         intro v5 w5 hown5 hg5 hat5
         have hO5 := own_app (ys := f.code.flatMap icells) hown5 rfl
         obtain ⟨VB, vd, rfl, _⟩ := own_any hO5
         have hFb5 := (HFb4.out.alloc (.cells #[] 49)).grown hg5 (by intro e; injection e with e; simp only at e; omega)
         have k54 := Blk.cell hFb5 4
         have f54 := Blk.frozen hFb5 4
         simp only [List.getElem?_toArray, List.getElem?_cons_zero, List.getElem?_cons_succ] at k54))
      obtain ⟨W7, hW7⟩ : ∃ W7, W7 = w5.setCell ⟨F, 4, none⟩ (.slice VB cn vd) := ⟨_, rfl⟩
      rw [← hW7]
      have hFb7 : Blk W7 F 45 #[.int .i64 f.params, .slice VA ln vc, .bool f.result, .int .i64 f.keep, .slice VB cn vd] := by rw [hW7]; exact hFb5.set_ 4 _
      have hK7 : W7.ownsRow w.heap.size 51 1 (.slice VA ln vc) ln (kindVals f.locals) := by
        rw [hW7]
        have h := own_kept' (HK4.out.alloc (.cells #[] 49)) hg5 (fun g e => by injection e with e; subst e; exact .inr ⟨_, _, Blk.new W4 _ _, by decide⟩)
        exact ownsRow_setCell_other h (own_blk_ne h hFb5 (by decide)) _
      have hI7 : W7.ownsRow w.heap.size 49 3 (.slice VB cn vd) cn (f.code.flatMap icells) := by rw [hW7]; exact ownsRow_setCell_other hO5 (own_blk_ne hO5 hFb5 (by decide)) _
      have hb7 : Below wr.heap.size wr W7 := by
        rw [hW7]
        exact ((Hb4'.out.alloc hs4' (.cells #[] 49)).grown hg5 (by simp; omega) (fun k e => by injection e with e; simp only at e; omega)).setCell (p := ⟨F, 4, none⟩) (by have := HF.out; simp only; omega) _
      have hs7 := hb7.size
      have hO7 := own_kept' HO4.out (only_of_below hb7 none) nofun
      have hF7 := HF4.out.kept (only_of_below hb7 none) nofun
      have hT7 := HT4.out.below hb7 hTl
      have hU7 := HU4.out.below hb7 HU4.out.lt
      have hbw7 := Hb4.out.trans (hb7.mono hsz4)
      clear hW7 hown5 hO5 hg5 hat5 hFb5 k54 f54
      have hT7l := hT7.lt
      have hsz7 := hbw7.size
      have hFS := (hF7.snoc (f := f) (lv := .slice VA ln vc) (cv := .slice VB cn vd) (by rw [Hl3.out]; exact hK7) (by rw [Hm3.out]; exact hI7))
      have kt0 := Blk.cell hT7 0
      simp only [List.getElem?_toArray, List.getElem?_cons_zero, List.getElem?_cons_succ] at kt0
      have kf0 := Blk.cell hFb7 0
      have kf1 := Blk.cell hFb7 1
      have kf2 := Blk.cell hFb7 2
      have kf3 := Blk.cell hFb7 3
      have kf4 := Blk.cell hFb7 4
      simp only [List.getElem?_toArray, List.getElem?_cons_zero, List.getElem?_cons_succ] at kf0 kf1 kf2 kf3 kf4
      have hO7a := hO7.alloc (.cells #[.int .i64 f.params, .slice VA ln vc, .bool f.result, .int .i64 f.keep, .slice VB cn vd] 45)
      have hT7a := hT7.alloc (.cells #[.int .i64 f.params, .slice VA ln vc, .bool f.result, .int .i64 f.keep, .slice VB cn vd] 45)
      have hU7a := hU7.alloc (.cells #[.int .i64 f.params, .slice VA ln vc, .bool f.result, .int .i64 f.keep, .slice VB cn vd] 45)
      have HFb7 := Lib.hid hFb7
      have HK7 := Lib.hid hK7
      have HI7 := Lib.hid hI7
      have HO7 := Lib.hid hO7
      have HF7 := Lib.hid hF7
      have HT7 := Lib.hid hT7
      have HU7 := Lib.hid hU7
      have Hbw7 := Lib.hid hbw7
      have HFS := Lib.hid hFS
      have HO7a := Lib.hid hO7a
      have HT7a := Lib.hid hT7a
      have HU7a := Lib.hid hU7a
      clear hU7a hT7a hO7a hFS hbw7 hU7 hT7 hF7 hO7 hI7 hK7 hFb7
      clear hb7
      go_wp2_with (first
        | (at_builtin
           refine wpList_append_any _ rfl (.tmp 24) (.tmp 26) _ rfl w.heap.size 45 i0 _ 5 72 Try.underlying24 hi0 hz0 hz1 hz2 rfl (by omega) pv j cs4.flatten rfl HO7a.out (W7.heap.size + 1) (some ⟨W7.heap.size, 0, none⟩) 1 1 (fcells f (.slice VA ln vc) (.slice VB cn vd)) rfl (Reads.newS _ rfl _ _ _ _ _ rfl rfl) ?c1 ?c2 ?c3 ?c4 ?_
           case c1 => intro u hu; simp only [fcells, List.mem_cons, List.not_mem_nil, or_false] at hu; rcases hu with rfl | rfl | rfl | rfl | rfl <;> rfl
           case c2 => unfold maxLen; omega
           case c3 => omega
           case c4 => simp; omega
           intro v9 w9 hown9 hg9 hat9
           obtain ⟨g9, c9, rfl, _⟩ := own_form hown9 (by omega)
           have hT9 := HT7a.out.grown hg9 (Ne.symm hnT)
           have kt9 := Blk.cell hT9 0
           have ft9 := Blk.frozen hT9 0
           simp only [List.getElem?_toArray, List.getElem?_cons_zero] at kt9))
      have hnU : pv.ownBlock ≠ some U := own_blk_ne HO7a.out HU7a.out (by decide)
      have hU9 := HU7a.out.grown hg9 (Ne.symm hnU)
      have hFSa := HFS.out.kept (World.grownBy_alloc W7 (.cells #[.int .i64 f.params, .slice VA ln vc, .bool f.result, .int .i64 f.keep, .slice VB cn vd] 45) none) nofun
      have hFS9 := hFSa.kept hg9 (fun g e => by
        obtain ⟨cs, h⟩ := own_blk HO7a.out e
        exact .inr ⟨_, cs, h, by decide, by decide⟩)
      have hFS10 := hFS9.kept (grown_setCell w9 ⟨T, 0, none⟩ (.slice (some ⟨g9, 0, none⟩) (j + 1) c9)) (fun g e => by injection e with e; subst e; exact .inr ⟨_, _, hT9, by decide, by decide⟩)
      refine ⟨⟨j + 1, by omega, by go_num, cs4 ++ [fcells f (.slice VA ln vc) (.slice VB cn vd)], _, ownsRow_setCell_other ?_ (own_blk_ne hown9 hT9 (by decide)) _, ?_, Blk.set_ hT9 0 _, hU9.far (p := ⟨T, 0, none⟩) (by simp; omega) _, ((Hbw7.out.alloc hsz7 _).grown hg9 (by simp; omega) (fun k e => (HO7a.out.lt k e).1)).setCell (p := ⟨T, 0, none⟩) (by simp; omega) _⟩, by simp [intOf]; omega⟩
      · rw [List.flatten_append]; simpa using hown9
      · rw [List.take_add_one, Hfk.out]; exact hFS10
    · obtain rfl : n = j := by omega
      obtain ⟨PA, pc, rfl, _⟩ := own_any hO4
      have kt0 := Blk.cell hT4 0
      simp only [List.getElem?_toArray, List.getElem?_cons_zero, List.getElem?_cons_succ] at kt0
      have ku0 := Blk.cell hU4 0
      simp only [List.getElem?_toArray, List.getElem?_cons_zero, List.getElem?_cons_succ] at ku0
      have fu0 := Blk.frozen hU4 0
      have hUT : w.heap.size ≤ U := o1
      have hrO : (wr.setCell ⟨U, 0, none⟩ (.slice PA n pc)).ownsRow w.heap.size 45 5 (.slice PA n pc) n cs4.flatten := ownsRow_setCell_other hO4 (own_blk_ne hO4 hU4 (by decide)) _
      have hrF := hF4.kept (grown_setCell wr ⟨U, 0, none⟩ (.slice PA n pc)) (fun g e => by injection e with e; subst e; exact .inr ⟨_, _, hU4, by decide, by decide⟩)
      rw [List.take_of_length_le (by rw [HL.out]; omega)] at hrF
      have hrb := hb4.setCell (p := ⟨U, 0, none⟩) (by simp; omega) (.slice PA n pc)
      have HO4 := Lib.hid hO4
      have HF4 := Lib.hid hF4
      have HT4 := Lib.hid hT4
      have HU4 := Lib.hid hU4
      have Hb4 := Lib.hid hb4
      have HrO := Lib.hid hrO
      have HrF := Lib.hid hrF
      have Hrb := Lib.hid hrb
      clear hrb hrF hrO hb4 hU4 hT4 hF4 hO4
      go_wp2_with fail
      refine bodyPost_ret (results_cell_row rfl _ _ U 26 _ (0, 0) _ rfl (Blk.set_ HU4.out 0 _) Try.underlying26 rfl (by kernel_rfl)) rfl ?_
      exact ⟨Hrb.out, _, cs4, rfl, by rw [HL.out]; exact HrO.out, HrF.out⟩
end Go.Proofs.Ytcaefdfdngecdaa
