/- Walk of Linear. Conditions: the graphs lie in memory, rows within the reach. -/
import Derived.Test.YtncpehhfjkncoaaLinLine
import Derived.Test.YtncpehhfjkncoaaIrCheck
set_option linter.unusedVariables false
set_option linter.unusedSimpArgs false
namespace Go.Proofs.Ytncpehhfjkncoaa
open Go.RowKit

def linOver (gs : List GraphD) : Bool := gs.any fun g => decide (4096 < (lineG g).nodes.length)
def linErr (gs : List GraphD) : Int := if checkB gs true = true then if linOver gs = true then 31 else 0 else 70
def LinPost (gs : List GraphD) (w : World) (e : Ending) (w' : World) : Prop :=
  Below w.heap.size w w' ∧ ((linErr gs ≠ 0 ∧ e = .returned (.tuple #[.agg #[.slice none 0 0], .int .i64 (linErr gs)])) ∨
    (linErr gs = 0 ∧ ∃ pv css, e = .returned (.tuple #[.agg #[pv], .int .i64 0]) ∧ w'.ownsRow w.heap.size 48 8 pv gs.length css.flatten ∧ GsOwn w' w.heap.size css (gs.map lineG)))
theorem check_len {gs : List GraphD} {b : Bool} (h : checkB gs b = true) : 0 < gs.length ∧ gs.length ≤ 16 := by
  unfold checkB at h
  rcases hg : gs[0]? with _ | g
  · rw [hg] at h; simp at h
  · rw [hg] at h
    simp only [Bool.and_eq_true, decide_eq_true_eq] at h
    exact ⟨(List.getElem?_eq_some_iff.1 hg).1, h.1.1.1.1⟩
theorem check_each {gs : List GraphD} {b : Bool} (h : checkB gs b = true) {g : GraphD} (hg : g ∈ gs) : headB g b = true ∧ ∀ x ∈ g.nodes, nodeB gs g b x = true := by
  unfold checkB at h
  simp only [Bool.and_eq_true] at h
  exact ⟨List.all_eq_true.1 h.1.2 g hg, fun x hx => List.all_eq_true.1 (List.all_eq_true.1 h.2 g hg) x hx⟩
theorem head_entry {g : GraphD} {b : Bool} (h : headB g b = true) : 0 ≤ g.entry ∧ g.entry < g.nodes.length := by
  unfold headB head3 at h
  simp only [Bool.and_eq_true, decide_eq_true_eq] at h
  exact ⟨h.2.1.2, h.2.2⟩
theorem node_next {gs : List GraphD} {g : GraphD} {b : Bool} {x : NodeD} (h : nodeB gs g b x = true) : ∀ t ∈ nextL x, 0 ≤ t ∧ t < g.nodes.length := fun t ht => by
  unfold nodeB at h
  simp only [Bool.and_eq_true] at h
  have := List.all_eq_true.1 h.1 t ht
  simpa using this
theorem lin_ok {gs : List GraphD} (h : checkB gs true = true) (hs : GsSmall gs) {g : GraphD} (hg : g ∈ gs) : NsOk g.nodes ∧ 0 ≤ g.entry ∧ g.entry < g.nodes.length :=
  ⟨⟨(head_par (check_each h hg).1).2.2.2, fun x hx => node_next ((check_each h hg).2 x hx), fun x hx => (hs.each g hg).2.2.2.2 x hx⟩, head_entry (check_each h hg).1⟩
def LinRel (w : World) (R P U : Nat) (gsv : Value) (gs : List GraphD) (j : Nat) (wr : World) : Prop :=
  ∃ (css : List (List Value)) (pv : Value), wr.ownsRow w.heap.size 48 8 pv j css.flatten ∧ GsOwn wr w.heap.size css ((gs.take j).map lineG) ∧ Blk wr U 24 #[pv] ∧ Blk wr R 24 #[.slice none 0 0] ∧ Blk wr P 24 #[gsv] ∧ Below w.heap.size w wr
theorem GraphOwn.forms {w : World} {base : Nat} {g : GraphD} {pv kv iv nv : Value} (h : GraphOwn w base (gcells g pv kv iv nv) g) : ∃ PA pc KA kc IA ic NA nc, pv = .slice PA g.params.length pc ∧ kv = .slice KA g.kinds.length kc ∧ iv = .slice IA g.init.length ic ∧ nv = .slice NA g.nodes.length nc := by
  obtain ⟨pv', kv', iv', nv', he, h1, h2, h3, css, _, h4, _⟩ := h
  unfold gcells at he
  injection he with e1 he
  injection he with e2 he
  injection he with _ he
  injection he with e3 he
  injection he with _ he
  injection he with _ he
  injection he with e4 _
  subst e1 e2 e3 e4
  obtain ⟨PA, pc, e1, _⟩ := own_any h1
  obtain ⟨KA, kc, e2, _⟩ := own_any h2
  obtain ⟨IA, ic, e3, _⟩ := own_any h3
  obtain ⟨NA, nc, e4, _⟩ := own_any h4
  exact ⟨PA, pc, KA, kc, IA, ic, NA, nc, e1, e2, e3, e4⟩
set_option maxRecDepth 100000 in
set_option maxHeartbeats 8000000 in
theorem linear_any {w : World} {B : Nat} {gsv : Value} {gs : List GraphD} (h : GraphsAt w B gsv gs) (hB : B ≤ w.heap.size) (hs : GsSmall gs) :
    Calls Try.prog 6 #[.agg #[gsv]] w fun e w' => LinPost gs w e w' := by
  obtain ⟨P, hP⟩ : ∃ P, P = w.heap.size := ⟨_, rfl⟩
  obtain ⟨R, hR⟩ : ∃ R, R = w.heap.size + 1 := ⟨_, rfl⟩
  obtain ⟨w2, hw2⟩ : ∃ w2, w2 = (w.alloc (.cells #[gsv] 24)).alloc (.cells #[.slice none 0 0] 24) := ⟨_, rfl⟩
  have hP2 : Blk w2 P 24 #[gsv] := by rw [hw2, hP]; exact (Blk.new w _ _).alloc _
  have hR2 : Blk w2 R 24 #[.slice none 0 0] := by rw [hw2, hR]; exact Blk.new2 w _ _ _
  have hb2 : Below w.heap.size w w2 := by rw [hw2]; exact ((Below.refl _ _).alloc (Nat.le_refl _) _).alloc (by simp) _
  have hA2 := h.below (hb2.mono hB)
  have hsz2 := hb2.size
  have hchk := check_any hA2 (by omega) ⟨fun g hg => (hs.each g hg).2.1, fun g hg x hx => by have := (hs.each g hg).2.2.2.2 x hx; omega⟩ true
  obtain ⟨GA, gc, rfl, hgc1, hgc2⟩ := hA2.slice
  obtain ⟨Z, hZ⟩ : ∃ Z, gs.length = Z := ⟨_, rfl⟩
  obtain ⟨iG, hiG, nz0, nz1, nz2⟩ := info_parts infoGraph
  rw [hZ] at hP2 hchk hA2 hgc1 h
  rw [hZ] at hw2 ⊢
  have kp0 := Blk.cell hP2 0
  simp only [List.getElem?_toArray, List.getElem?_cons_zero, List.getElem?_cons_succ] at kp0
  have kr0 := Blk.cell hR2 0
  simp only [List.getElem?_toArray, List.getElem?_cons_zero, List.getElem?_cons_succ] at kr0
  have fr0 := Blk.frozen hR2 0
  have HP2 := Lib.hid hP2
  have HR2 := Lib.hid hR2
  have Hb2 := Lib.hid hb2
  have HA2 := Lib.hid hA2
  have HZ := Lib.hid hZ
  have Hs := Lib.hid hs
  have H := Lib.hid h
  have Hw2 := Lib.hid hw2
  have Hchk := Lib.hid hchk
  clear hchk hw2 h hs hZ hA2 hb2 hR2 hP2
  go_enter Try.func6, Try.ntmps6
  go_upto_region 1 with fail
  rw [← Hw2.out, ← hR, ← hP]
  have HPe := Lib.hid hP
  have HRe := Lib.hid hR
  clear hR hP
  go_wp2_with fail
  refine Hchk.out.mono ?_
  rintro e w3 ⟨rfl, hb23⟩
  have hP3 := HP2.out.below hb23 HP2.out.lt
  have hR3 := HR2.out.below hb23 HR2.out.lt
  have hb3 := Hb2.out.trans (hb23.mono (by omega))
  have hA3 := HA2.out.below (hb23.mono (by omega))
  have hsz3 := hb3.size
  clear kp0 kr0 fr0
  have kp0 := Blk.cell hP3 0
  simp only [List.getElem?_toArray, List.getElem?_cons_zero, List.getElem?_cons_succ] at kp0
  have kr0 := Blk.cell hR3 0
  simp only [List.getElem?_toArray, List.getElem?_cons_zero, List.getElem?_cons_succ] at kr0
  have fr0 := Blk.frozen hR3 0
  by_cases hc : checkB gs true = true
  case neg =>
    rw [if_neg hc]
    have hR4 := hR3.set_ 0 (.slice none 0 0)
    simp only [List.setIfInBounds_toArray, List.set_cons_zero] at hR4
    have hpost : LinPost gs w (.returned (.tuple #[.agg #[.slice none 0 0], .int .i64 70])) (w3.setCell ⟨R, 0, none⟩ (.slice none 0 0)) := by
      refine ⟨hb3.setCell (p := ⟨R, 0, none⟩) (by rw [HRe.out]; simp) _, .inl ?_⟩
      unfold linErr
      rw [if_neg hc]
      exact ⟨by decide, rfl⟩
    have HP3 := Lib.hid hP3
    have HR3 := Lib.hid hR3
    have Hb3 := Lib.hid hb3
    have HA3 := Lib.hid hA3
    have Hb23 := Lib.hid hb23
    have HR4 := Lib.hid hR4
    have Hpost := Lib.hid hpost
    have Hc := Lib.hid hc
    clear hc hpost hR4 hb23 hA3 hb3 hR3 hP3
    go_wp2_with fail
    refine bodyPost_ret (results_row_tmp rfl _ _ R 24 _ (0, 0) _ rfl HR4.out Try.underlying24 (by kernel_rfl)) rfl ?_
    exact Hpost.out
  case pos =>
    rw [if_pos hc]
    have hZ16 := (check_len hc).2
    rw [HZ.out] at hZ16
    obtain ⟨U, hU⟩ : ∃ U, U = w3.heap.size := ⟨_, rfl⟩
    have hrel0 : LinRel w R P U (.slice GA Z gc) gs 0 (w3.alloc (.cells #[.slice none 0 0] 24)) := by
      refine ⟨[], .slice none 0 0, World.ownsRow_nil _ _ _ _, GsOwn.nil _ _, by rw [hU]; exact Blk.new _ _ _, hR3.alloc _, hP3.alloc _, hb3.alloc (by omega) _⟩
    have hP4 := hP3.alloc (.cells #[.slice none 0 0] 24)
    clear kp0 kr0 fr0
    have kp0 := Blk.cell hP4 0
    simp only [List.getElem?_toArray, List.getElem?_cons_zero, List.getElem?_cons_succ] at kp0
    have hUw : w.heap.size ≤ U := by omega
    have HP3 := Lib.hid hP3
    have HR3 := Lib.hid hR3
    have Hb3 := Lib.hid hb3
    have HA3 := Lib.hid hA3
    have Hb23 := Lib.hid hb23
    have Hc := Lib.hid hc
    have Hrel0 := Lib.hid hrel0
    have HP4 := Lib.hid hP4
    clear hP4 hrel0 hc hb23 hA3 hb3 hR3 hP3
    go_wp2_with fail
    rw [← hU]
    have HU := Lib.hid hU
    clear hU
    go_loopg [17] Z (fun gk iv wr => ∃ j : Nat, j + gk = Z ∧ iv = .int .i64 j ∧ Hid (LinRel w R P U (.slice GA Z gc) gs j wr) ∧ Hid (∀ g ∈ gs.take j, ¬ 4096 < (lineG g).nodes.length))
    case atStart => exact ⟨0, by omega, rfl, Hrel0, Lib.hid (by simp)⟩
    case round =>
      obtain ⟨j, hj, rfl, hrj, hno⟩ := hrel
      clear kp0
      obtain ⟨css, pv, hown, hgs, hUj, hRj, hPj, hbj⟩ := hrj.out
      have hszj := hbj.size
      have kp0 := Blk.cell hPj 0
      simp only [List.getElem?_toArray, List.getElem?_cons_zero, List.getElem?_cons_succ] at kp0
      by_cases hjZ : j < Z
      · obtain ⟨g, hg⟩ : ∃ g, gs[j]? = some g := ⟨_, List.getElem?_eq_getElem (by rw [HZ.out]; exact hjZ)⟩
        have hgm : g ∈ gs := List.mem_of_getElem? hg
        obtain ⟨ad, pv0, kv0, iv0, nv0, hGA, _, hM⟩ := (H.out.below (hbj.mono hB)).at_ hg
        subst hGA
        obtain ⟨k1, k2, k3⟩ := lin_ok Hc.out Hs.out hgm
        have hsm := Hs.out.each g hgm
        have hline := line_any hM (by omega) k1 ⟨k2, k3⟩ hsm.1 hsm.2.1 hsm.2.2.1
        have Hown := Lib.hid hown
        have Hgs := Lib.hid hgs
        have HUj := Lib.hid hUj
        have HRj := Lib.hid hRj
        have HPj := Lib.hid hPj
        have Hbj := Lib.hid hbj
        have Hg := Lib.hid hg
        have Hgm := Lib.hid hgm
        have HM := Lib.hid hM
        have Hk1 := Lib.hid k1
        have Hk2 := Lib.hid k2
        have Hk3 := Lib.hid k3
        have Hsm := Lib.hid hsm
        have Hline := Lib.hid hline
        clear hline hsm k3 k2 k1 hM hgm hg hbj hPj hRj hUj hgs hown
        go_wp2_with fail
        refine Hline.out.mono ?_
        rintro e w5 ⟨pv5, kv5, iv5, nv5, rfl, hgo, hb5⟩
        obtain ⟨PA, pc, KA, kc, IA, ic, NA, nc, rfl, rfl, rfl, rfl⟩ := hgo.forms
        obtain ⟨X, hX⟩ : ∃ X, X = w5.heap.size := ⟨_, rfl⟩
        obtain ⟨lg, hlg⟩ : ∃ lg, lineG g = lg := ⟨_, rfl⟩
        rw [hlg] at hgo ⊢
        obtain ⟨nl, hnl⟩ : ∃ nl, lg.nodes.length = nl := ⟨_, rfl⟩
        obtain ⟨pl, hpl⟩ : ∃ pl, lg.params.length = pl := ⟨_, rfl⟩
        obtain ⟨kl, hkl⟩ : ∃ kl, lg.kinds.length = kl := ⟨_, rfl⟩
        obtain ⟨il, hil⟩ : ∃ il, lg.init.length = il := ⟨_, rfl⟩
        rw [hnl, hpl, hkl, hil] at hgo ⊢
        have hb5w := Hbj.out.trans (hb5.mono hszj)
        have hsz5 := hb5.size
        have hU6 := (HUj.out.below hb5 HUj.out.lt).alloc (.cells (gcells lg (.slice PA pl pc) (.slice KA kl kc) (.slice IA il ic) (.slice NA nl nc)).toArray 48)
        have hR6 := (HRj.out.below hb5 HRj.out.lt).alloc (.cells (gcells lg (.slice PA pl pc) (.slice KA kl kc) (.slice IA il ic) (.slice NA nl nc)).toArray 48)
        have hP6 := (HPj.out.below hb5 HPj.out.lt).alloc (.cells (gcells lg (.slice PA pl pc) (.slice KA kl kc) (.slice IA il ic) (.slice NA nl nc)).toArray 48)
        have hX6 := Blk.new w5 48 (gcells lg (.slice PA pl pc) (.slice KA kl kc) (.slice IA il ic) (.slice NA nl nc)).toArray
        have hb6 := hb5w.alloc (by omega) (.cells (gcells lg (.slice PA pl pc) (.slice KA kl kc) (.slice IA il ic) (.slice NA nl nc)).toArray 48)
        have hg5 := (only_of_below hb5 none).trans (World.grownBy_alloc w5 (.cells (gcells lg (.slice PA pl pc) (.slice KA kl kc) (.slice IA il ic) (.slice NA nl nc)).toArray 48) none)
        have hown6 := own_kept' Hown.out hg5 nofun
        have hgs6 := Hgs.out.kept hg5 (Far.none_ _)
        have hgo6 := hgo.kept (World.grownBy_alloc w5 (.cells (gcells lg (.slice PA pl pc) (.slice KA kl kc) (.slice IA il ic) (.slice NA nl nc)).toArray 48) none) (Far.none_ _)
        obtain ⟨w6, hw6⟩ : ∃ w6, w6 = w5.alloc (.cells (gcells lg (.slice PA pl pc) (.slice KA kl kc) (.slice IA il ic) (.slice NA nl nc)).toArray 48) := ⟨_, rfl⟩
        rw [← hw6] at hU6 hR6 hP6 hX6 hb6 hg5 hown6 hgs6 hgo6
        rw [← hX] at hX6
        simp only [gcells] at hw6 hX6 ⊢
        have kx0 := Blk.cell hX6 0
        have kx1 := Blk.cell hX6 1
        have kx2 := Blk.cell hX6 2
        have kx3 := Blk.cell hX6 3
        have kx4 := Blk.cell hX6 4
        have kx5 := Blk.cell hX6 5
        have kx6 := Blk.cell hX6 6
        have kx7 := Blk.cell hX6 7
        simp only [List.getElem?_toArray, List.getElem?_cons_zero, List.getElem?_cons_succ] at kx0 kx1 kx2 kx3 kx4 kx5 kx6 kx7
        have ku0 := Blk.cell hU6 0
        simp only [List.getElem?_toArray, List.getElem?_cons_zero, List.getElem?_cons_succ] at ku0
        have kr0 := Blk.cell hR6 0
        simp only [List.getElem?_toArray, List.getElem?_cons_zero, List.getElem?_cons_succ] at kr0
        have fr0 := Blk.frozen hR6 0
        have fu0 := Blk.frozen hU6 0
        obtain ⟨PV, pvc, hpv, hpvc1, hpvc2, _⟩ := own_any hown6
        have Hgo := Lib.hid hgo
        have Hlg := Lib.hid hlg
        have Hnl := Lib.hid hnl
        have Hpl := Lib.hid hpl
        have Hkl := Lib.hid hkl
        have Hil := Lib.hid hil
        have Hb5w := Lib.hid hb5w
        have HU6 := Lib.hid hU6
        have HR6 := Lib.hid hR6
        have HP6 := Lib.hid hP6
        have HX6 := Lib.hid hX6
        have Hb6 := Lib.hid hb6
        have Hg5 := Lib.hid hg5
        have Hown6 := Lib.hid hown6
        have Hgs6 := Lib.hid hgs6
        have Hgo6 := Lib.hid hgo6
        have Hw6 := Lib.hid hw6
        have Hb5 := Lib.hid hb5
        have HX := Lib.hid hX
        clear hX hb5 hw6 hgo6 hgs6 hown6 hg5 hb6 hX6 hP6 hR6 hU6 hb5w hil hkl hpl hnl hlg hgo
        by_cases ho : 4096 < nl
        · have hover : linErr gs = 31 := by
            unfold linErr
            rw [if_pos Hc.out, if_pos]
            unfold linOver
            rw [List.any_eq_true]
            refine ⟨g, Hgm.out, ?_⟩
            rw [Hlg.out, Hnl.out]
            exact decide_eq_true ho
          have hoz : (4096 : Int) < nl := by omega
          have hR7 := HR6.out.set_ 0 (.slice none 0 0)
          simp only [List.setIfInBounds_toArray, List.set_cons_zero] at hR7
          have hpost : LinPost gs w (.returned (.tuple #[.agg #[.slice none 0 0], .int .i64 31])) (w6.setCell ⟨R, 0, none⟩ (.slice none 0 0)) := by
            refine ⟨Hb6.out.setCell (p := ⟨R, 0, none⟩) (by rw [HRe.out]; simp) _, .inl ?_⟩
            rw [hover]
            exact ⟨by decide, rfl⟩
          have HR7 := Lib.hid hR7
          have Hpost := Lib.hid hpost
          have Hover := Lib.hid hover
          clear hover hpost hR7
          go_upto_region 9 with fail
          rw [← HX.out, ← Hw6.out]
          go_wp2_with fail
          refine bodyPost_ret (results_row_tmp rfl _ _ R 24 _ (0, 0) _ rfl HR7.out Try.underlying24 (by kernel_rfl)) rfl ?_
          exact Hpost.out
        · have hoz : ¬ (4096 : Int) < nl := by omega
          subst hpv
          go_upto_region 9 with fail
          rw [← HX.out, ← Hw6.out]
          go_wp2_with (first
            | (at_builtin
               refine wpList_append_any _ rfl (.tmp 31) (.tmp 33) _ rfl w.heap.size 48 iG _ 8 128 Try.underlying22 hiG nz0 nz1 nz2 rfl (by omega) (.slice PV j pvc) j css.flatten rfl (Hown6.out.alloc _) (w6.heap.size + 1) (some ⟨w6.heap.size, 0, none⟩) 1 1 (gcells lg (.slice PA pl pc) (.slice KA kl kc) (.slice IA il ic) (.slice NA nl nc)) rfl (Reads.newS _ rfl _ _ _ _ _ rfl rfl) ?c1 ?c2 ?c3 ?c4 ?_
               case c1 => intro u hu; simp only [gcells, List.mem_cons, List.not_mem_nil, or_false] at hu; rcases hu with rfl | rfl | rfl | rfl | rfl | rfl | rfl | rfl <;> rfl
               case c2 => simp only [maxLen]; omega
               case c3 => omega
               case c4 => have := Hb6.out.size; simp; omega
               intro v8 w8 hown8 hg8 hat8
               obtain ⟨A8, x8, rfl, _⟩ := own_any hown8
               have hU8 := (HU6.out.alloc _).grown hg8 (fun e => own_blk_ne Hown6.out HU6.out (by decide) e.symm)
               have k80 := Blk.cell hU8 0
               have f80 := Blk.frozen hU8 0
               simp only [List.getElem?_toArray, List.getElem?_cons_zero] at k80
               have Hown8 := Lib.hid hown8
               have Hg8 := Lib.hid hg8
               have HU8 := Lib.hid hU8
               clear hU8 hat8 hg8 hown8))
          have hg68 : w6.grownBy w8 (Value.slice PV j pvc).ownBlock := (World.grownBy_alloc w6 _ _).trans Hg8.out
          have hfar : Far w6 (Value.slice PV j pvc).ownBlock := fun b e => by
            obtain ⟨cs', h'⟩ := own_blk Hown6.out e
            exact .inr ⟨_, cs', h', by decide, by decide, by decide⟩
          have hfU : Far w8 (some U) := Far.blk HU8.out (by decide) (by decide) (by decide)
          have hgsU := grown_setCell w8 ⟨U, 0, none⟩ (.slice A8 (j + 1) x8)
          have hnPR : some R ≠ (Value.slice PV j pvc).ownBlock := fun e => own_blk_ne Hown6.out HR6.out (by decide) e.symm
          have hnPP : some P ≠ (Value.slice PV j pvc).ownBlock := fun e => own_blk_ne Hown6.out HP6.out (by decide) e.symm
          have hRU : R ≠ U := by rw [HRe.out, HU.out]; have := HR3.out.lt; have := HRe.out; omega
          have hPU : P ≠ U := by rw [HPe.out, HU.out]; have := HP3.out.lt; have := HPe.out; omega
          have hU9 := HU8.out.set_ 0 (.slice A8 (j + 1) x8)
          simp only [List.setIfInBounds_toArray, List.set_cons_zero] at hU9
          have hR9 := (HR6.out.grown hg68 hnPR).far (p := ⟨U, 0, none⟩) hRU (.slice A8 (j + 1) x8)
          have hP9 := (HP6.out.grown hg68 hnPP).far (p := ⟨U, 0, none⟩) hPU (.slice A8 (j + 1) x8)
          have hb8 := Hb6.out.grown hg68 (by have := Hb6.out.size; omega) (fun k e => (Hown6.out.lt k e).1)
          have hb9 := hb8.setCell (p := ⟨U, 0, none⟩) hUw (.slice A8 (j + 1) x8)
          have hown9 := ownsRow_setCell_other Hown8.out (a := ⟨U, 0, none⟩) (own_blk_ne Hown8.out HU8.out (by decide)) (.slice A8 (j + 1) x8)
          have hgs9 := (Hgs6.out.kept hg68 hfar).kept hgsU hfU
          have hgo9 := ((Hgo6.out.base hszj).kept hg68 hfar).kept hgsU hfU
          have htk : (gs.take (j + 1)).map lineG = (gs.take j).map lineG ++ [lg] := by
            rw [List.take_add_one, Hg.out, List.map_append, ← Hlg.out]; rfl
          have hrel9 : LinRel w R P U (.slice (some ad) Z gc) gs (j + 1) (w8.setCell ⟨U, 0, none⟩ (.slice A8 (j + 1) x8)) := by
            refine ⟨css ++ [gcells lg (.slice PA pl pc) (.slice KA kl kc) (.slice IA il ic) (.slice NA nl nc)], .slice A8 (j + 1) x8, ?_, ?_, hU9, hR9, hP9, hb9⟩
            · rw [List.flatten_append]; simpa using hown9
            · rw [htk]; exact hgs9.snoc hgo9
          have hno9 : ∀ g ∈ gs.take (j + 1), ¬ 4096 < (lineG g).nodes.length := by
            intro g' hg'
            rw [List.take_add_one, Hg.out] at hg'
            rcases List.mem_append.1 hg' with h' | h'
            · exact hno.out g' h'
            · have e : g' = g := by simpa using h'
              rw [e, Hlg.out, Hnl.out]; exact ho
          have Hrel9 := Lib.hid hrel9
          have Hno9 := Lib.hid hno9
          clear hno9 hrel9
          go_roundg (gk - 1)
          case measure => omega
          case rel => exact ⟨j + 1, by omega, by simp, Hrel9, Hno9⟩
      · obtain rfl : j = Z := by omega
        have herr : linErr gs = 0 := by
          unfold linErr
          rw [if_pos Hc.out, if_neg]
          intro h0
          unfold linOver at h0
          rw [List.any_eq_true] at h0
          obtain ⟨g, h1, h2⟩ := h0
          refine hno.out g ?_ (of_decide_eq_true h2)
          rw [← HZ.out, List.take_length]; exact h1
        have hR4 := hRj.set_ 0 pv
        simp only [List.setIfInBounds_toArray, List.set_cons_zero] at hR4
        have hfR : Far wr (some R) := Far.blk hRj (by decide) (by decide) (by decide)
        have hpost : LinPost gs w (.returned (.tuple #[.agg #[pv], .int .i64 0])) (wr.setCell ⟨R, 0, none⟩ pv) := by
          refine ⟨hbj.setCell (p := ⟨R, 0, none⟩) (by rw [HRe.out]; simp) _, .inr ⟨herr, pv, css, rfl, ?_, ?_⟩⟩
          · rw [HZ.out]
            exact ownsRow_setCell_other hown (a := ⟨R, 0, none⟩) (own_blk_ne hown hRj (by decide)) pv
          · have h1 := hgs.kept (grown_setCell wr ⟨R, 0, none⟩ pv) hfR
            rw [← HZ.out, List.take_length] at h1
            exact h1
        have ku0 := Blk.cell hUj 0
        simp only [List.getElem?_toArray, List.getElem?_cons_zero, List.getElem?_cons_succ] at ku0
        have kr0 := Blk.cell hRj 0
        simp only [List.getElem?_toArray, List.getElem?_cons_zero, List.getElem?_cons_succ] at kr0
        have fr0 := Blk.frozen hRj 0
        obtain ⟨PV, pvc, hpv, _⟩ := own_any hown
        subst hpv
        have Hown := Lib.hid hown
        have Hgs := Lib.hid hgs
        have HUj := Lib.hid hUj
        have HRj := Lib.hid hRj
        have HPj := Lib.hid hPj
        have Hbj := Lib.hid hbj
        have Herr := Lib.hid herr
        have HR4 := Lib.hid hR4
        have HfR := Lib.hid hfR
        have Hpost := Lib.hid hpost
        clear hpost hfR hR4 herr hbj hPj hRj hUj hgs hown
        go_wp2_with fail
        refine bodyPost_ret (results_row_tmp rfl _ _ R 24 _ (0, 0) _ rfl HR4.out Try.underlying24 (by kernel_rfl)) rfl ?_
        exact Hpost.out
end Go.Proofs.Ytncpehhfjkncoaa
