/- Walk of Linear. Conditions: the graphs lie in memory, rows within the reach. Walk of the emitter's question whether a place is used that is kept back. Conditions: the graph lies in memory. Graphs in a line are right where the graphs were; what the emitter asks of a graph that is right. No condition. The emitter's whole, plainly, and its memory between functions. No condition. -/
import Derived.Test.YtnfjjliiajaijaaDoorPkAA
import Derived.Test.YtnfjjliiajaijaaDoorPkAV
import Derived.Test.YtnfjjliiajaijaaDoorPkAR
import Derived.Test.YtnfjjliiajaijaaDoorPkAN
import Derived.Test.YtnfjjliiajaijaaDoorPkAH
import Derived.Test.YtnfjjliiajaijaaDoorPkAU
set_option linter.unusedVariables false
set_option linter.unusedSimpArgs false
set_option maxRecDepth 100000
set_option maxHeartbeats 10000000
namespace Go.Proofs.YtnfjjliiajaijaaDoor
open Go.RowKit

def linOver (gs : List GraphD) : Bool := gs.any fun g => decide (4096 < (lineG g).nodes.length)
def linErr (gs : List GraphD) : Int := if checkB gs true = true then if linOver gs = true then 31 else 0 else 70
def LinPost (gs : List GraphD) (w : World) (e : Ending) (w' : World) : Prop :=
 Below w.heap.size w w' ∧ ((linErr gs ≠ 0 ∧ e = .returned (.tuple #[.agg #[.slice none 0 0], .int .i64 (linErr gs)])) ∨
  (linErr gs = 0 ∧ ∃ pv css, e = .returned (.tuple #[.agg #[pv], .int .i64 0]) ∧ w'.ownsRow w.heap.size 44 8 pv gs.length css.flatten ∧ GsOwn w' w.heap.size css (gs.map lineG)))
theorem check_len {gs : List GraphD} {b : Bool} (h : checkB gs b = true) : 0 < gs.length ∧ gs.length ≤ 16 := by
 unfold checkB at h
 rcases hg : gs[0]? with _ | g
 ·rw [hg] at h; simp at h
 ·rw [hg] at h
  simp only [Bool.and_eq_true, decide_eq_true_eq] at h
  exact ⟨(List.getElem?_eq_some_iff.1 hg).1, h.1.1.1.1⟩
theorem check_each {gs : List GraphD} {b : Bool} (h : checkB gs b = true) {g : GraphD} (hg : g ∈ gs) : headB g b = true ∧ ∀ x ∈ g.nodes, nodeB gs g b x = true := by
 unfold checkB at h
 simp only [Bool.and_eq_true] at h
 exact ⟨List.all_eq_true.1 h.1.2 g hg, fun x hx => List.all_eq_true.1 (List.all_eq_true.1 h.2 g hg) x hx⟩
theorem head_entry {g : GraphD} {b : Bool} (h : headB g b = true) : 0 ≤ g.entry ∧ g.entry < g.nodes.length := by
 unfold headB head3 at h
 simp only [Bool.and_eq_true, decide_eq_true_eq] at h
 exact ⟨h.2.1.2, h.2.2⟩
theorem node_next {gs : List GraphD} {g : GraphD} {b : Bool} {x : NodeD} (h : nodeB gs g b x = true) : ∀ t ∈ nextL x, 0 ≤ t ∧ t < g.nodes.length := fun t ht => by
 unfold nodeB at h
 simp only [Bool.and_eq_true] at h
 have := List.all_eq_true.1 h.1 t ht
 simpa using this
theorem lin_ok {gs : List GraphD} (h : checkB gs true = true) (hs : GsSmall gs) {g : GraphD} (hg : g ∈ gs) : NsOk g.nodes ∧ 0 ≤ g.entry ∧ g.entry < g.nodes.length :=
 ⟨⟨(head_par (check_each h hg).1).2.2.2, fun x hx => node_next ((check_each h hg).2 x hx), fun x hx => (hs.each g hg).2.2.2.2 x hx⟩, head_entry (check_each h hg).1⟩
def LinRel (w : World) (R P U : Nat) (gsv : Value) (gs : List GraphD) (j : Nat) (wr : World) : Prop :=
 ∃ (css : List (List Value)) (pv : Value), wr.ownsRow w.heap.size 44 8 pv j css.flatten ∧ GsOwn wr w.heap.size css ((gs.take j).map lineG) ∧ Blk wr U 24 #[pv] ∧ Blk wr R 24 #[.slice none 0 0] ∧ Blk wr P 24 #[gsv] ∧ Below w.heap.size w wr
theorem GraphOwn.forms {w : World} {base : Nat} {g : GraphD} {pv kv iv nv : Value} (h : GraphOwn w base (gcells g pv kv iv nv) g) : ∃ PA pc KA kc IA ic NA nc, pv = .slice PA g.params.length pc ∧ kv = .slice KA g.kinds.length kc ∧ iv = .slice IA g.init.length ic ∧ nv = .slice NA g.nodes.length nc := by
 obtain ⟨pv', kv', iv', nv', he, h1, h2, h3, css, _, h4, _⟩ := h
 unfold gcells at he
 injection he with e1 he
 injection he with e2 he
 injection he with _ he
 injection he with e3 he
 injection he with _ he
 injection he with _ he
 injection he with e4 _
 subst e1 e2 e3 e4
 obtain ⟨PA, pc, e1, _⟩ := own_any h1
 obtain ⟨KA, kc, e2, _⟩ := own_any h2
 obtain ⟨IA, ic, e3, _⟩ := own_any h3
 obtain ⟨NA, nc, e4, _⟩ := own_any h4
 exact ⟨PA, pc, KA, kc, IA, ic, NA, nc, e1, e2, e3, e4⟩
theorem linear_any {w : World} {B : Nat} {gsv : Value} {gs : List GraphD} (h : GraphsAt w B gsv gs) (hB : B ≤ w.heap.size) (hs : GsSmall gs) :
  Calls Tryd.prog 17 #[.agg #[gsv]] w fun e w' => LinPost gs w e w' := by
 obtain ⟨P, hP⟩ : ∃ P, P = w.heap.size := ⟨_, rfl⟩
 obtain ⟨R, hR⟩ : ∃ R, R = w.heap.size + 1 := ⟨_, rfl⟩
 obtain ⟨w2, hw2⟩ : ∃ w2, w2 = (w.alloc (.cells #[gsv] 24)).alloc (.cells #[.slice none 0 0] 24) := ⟨_, rfl⟩
 have hP2 : Blk w2 P 24 #[gsv] := by rw [hw2, hP]; exact (Blk.new w _ _).alloc _
 have hR2 : Blk w2 R 24 #[.slice none 0 0] := by rw [hw2, hR]; exact Blk.new2 w _ _ _
 have hb2 : Below w.heap.size w w2 := by rw [hw2]; exact ((Below.refl _ _).alloc (Nat.le_refl _) _).alloc (by simp) _
 have hA2 := h.below (hb2.mono hB)
 have hsz2 := hb2.size
 have hchk := check_any hA2 (by omega) ⟨fun g hg => (hs.each g hg).2.1, fun g hg x hx => by have := (hs.each g hg).2.2.2.2 x hx; omega⟩ true
 obtain ⟨GA, gc, rfl, hgc1, hgc2⟩ := hA2.slice
 obtain ⟨Z, hZ⟩ : ∃ Z, gs.length = Z := ⟨_, rfl⟩
 obtain ⟨iG, hiG, nz0, nz1, nz2⟩ := info_parts infoGraph
 rw [hZ] at hP2 hchk hA2 hgc1 h
 rw [hZ] at hw2 ⊢
 have kp0 := Blk.cell hP2 0
 simp only [List.getElem?_toArray, List.getElem?_cons_zero, List.getElem?_cons_succ] at kp0
 have kr0 := Blk.cell hR2 0
 simp only [List.getElem?_toArray, List.getElem?_cons_zero, List.getElem?_cons_succ] at kr0
 have fr0 := Blk.frozen hR2 0
 obtain ⟨HP2, HR2, Hb2, HA2, HZ, Hs, H, Hw2⟩ := hd8 hP2 hR2 hb2 hA2 hZ hs h hw2
 have Hchk := Lib.hid hchk
 clear hchk hw2 h hs hZ hA2 hb2 hR2 hP2
 go_enter Tryd.func17, Tryd.ntmps17
 go_upto_region 1 with fail
 rw [← Hw2.out, ← hR, ← hP]
 obtain ⟨HPe, HRe⟩ := hd2 hP hR
 clear hR hP
 go_wp2_with fail
 refine Hchk.out.mono ?_
 rintro e w3 ⟨rfl, hb23⟩
 have hP3 := HP2.out.below hb23 HP2.out.lt
 have hR3 := HR2.out.below hb23 HR2.out.lt
 have hb3 := Hb2.out.trans (hb23.mono (by omega))
 have hA3 := HA2.out.below (hb23.mono (by omega))
 have hsz3 := hb3.size
 clear kp0 kr0 fr0
 have kp0 := Blk.cell hP3 0
 simp only [List.getElem?_toArray, List.getElem?_cons_zero, List.getElem?_cons_succ] at kp0
 have kr0 := Blk.cell hR3 0
 simp only [List.getElem?_toArray, List.getElem?_cons_zero, List.getElem?_cons_succ] at kr0
 have fr0 := Blk.frozen hR3 0
 by_cases hc : checkB gs true = true
 case neg =>
  rw [if_neg hc]
  have hR4 := hR3.set_ 0 (.slice none 0 0)
  simp only [List.setIfInBounds_toArray, List.set_cons_zero] at hR4
  have hpost : LinPost gs w (.returned (.tuple #[.agg #[.slice none 0 0], .int .i64 70])) (w3.setCell ⟨R, 0, none⟩ (.slice none 0 0)) := by
   refine ⟨hb3.setCell (p := ⟨R, 0, none⟩) (by rw [HRe.out]; simp) _, .inl ?_⟩
   unfold linErr
   rw [if_neg hc]
   exact ⟨by decide, rfl⟩
  obtain ⟨HP3, HR3, Hb3, HA3, Hb23, HR4, Hpost, Hc⟩ := hd8 hP3 hR3 hb3 hA3 hb23 hR4 hpost hc
  clear hc hpost hR4 hb23 hA3 hb3 hR3 hP3
  go_wp2_with fail
  refine bodyPost_ret (results_row_tmp rfl _ _ R 24 _ (0, 0) _ rfl HR4.out Tryd.underlying24 (by kernel_rfl)) rfl ?_
  exact Hpost.out
 case pos =>
  rw [if_pos hc]
  have hZ16 := (check_len hc).2
  rw [HZ.out] at hZ16
  obtain ⟨U, hU⟩ : ∃ U, U = w3.heap.size := ⟨_, rfl⟩
  have hrel0 : LinRel w R P U (.slice GA Z gc) gs 0 (w3.alloc (.cells #[.slice none 0 0] 24)) := by
   refine ⟨[], .slice none 0 0, World.ownsRow_nil _ _ _ _, GsOwn.nil _ _, by rw [hU]; exact Blk.new _ _ _, hR3.alloc _, hP3.alloc _, hb3.alloc (by omega) _⟩
  have hP4 := hP3.alloc (.cells #[.slice none 0 0] 24)
  clear kp0 kr0 fr0
  have kp0 := Blk.cell hP4 0
  simp only [List.getElem?_toArray, List.getElem?_cons_zero, List.getElem?_cons_succ] at kp0
  have hUw : w.heap.size ≤ U := by omega
  obtain ⟨HP3, HR3, Hb3, HA3, Hb23, Hc, Hrel0, HP4⟩ := hd8 hP3 hR3 hb3 hA3 hb23 hc hrel0 hP4
  clear hP4 hrel0 hc hb23 hA3 hb3 hR3 hP3
  go_wp2_with fail
  rw [← hU]
  have HU := Lib.hid hU
  clear hU
  go_loopg [17] Z (fun gk iv wr => ∃ j : Nat, j + gk = Z ∧ iv = .int .i64 j ∧ Hid (LinRel w R P U (.slice GA Z gc) gs j wr) ∧ Hid (∀ g ∈ gs.take j, ¬ 4096 < (lineG g).nodes.length))
  case atStart => exact ⟨0, by omega, rfl, Hrel0, Lib.hid (by simp)⟩
  case round =>
   obtain ⟨j, hj, rfl, hrj, hno⟩ := hrel
   clear kp0
   obtain ⟨css, pv, hown, hgs, hUj, hRj, hPj, hbj⟩ := hrj.out
   have hszj := hbj.size
   have kp0 := Blk.cell hPj 0
   simp only [List.getElem?_toArray, List.getElem?_cons_zero, List.getElem?_cons_succ] at kp0
   by_cases hjZ : j < Z
   ·obtain ⟨g, hg⟩ : ∃ g, gs[j]? = some g := ⟨_, List.getElem?_eq_getElem (by rw [HZ.out]; exact hjZ)⟩
    have hgm : g ∈ gs := List.mem_of_getElem? hg
    obtain ⟨ad, pv0, kv0, iv0, nv0, hGA, _, hM⟩ := (H.out.below (hbj.mono hB)).at_ hg
    subst hGA
    obtain ⟨k1, k2, k3⟩ := lin_ok Hc.out Hs.out hgm
    have hsm := Hs.out.each g hgm
    have hline := line_any hM (by omega) k1 ⟨k2, k3⟩ hsm.1 hsm.2.1 hsm.2.2.1
    obtain ⟨Hown, Hgs, HUj, HRj, HPj, Hbj, Hg, Hgm⟩ := hd8 hown hgs hUj hRj hPj hbj hg hgm
    obtain ⟨HM, Hk1, Hk2, Hk3, Hsm, Hline⟩ := hd6 hM k1 k2 k3 hsm hline
    clear hline hsm k3 k2 k1 hM hgm hg hbj hPj hRj hUj hgs hown
    go_wp2_with fail
    refine Hline.out.mono ?_
    rintro e w5 ⟨pv5, kv5, iv5, nv5, rfl, hgo, hb5⟩
    obtain ⟨PA, pc, KA, kc, IA, ic, NA, nc, rfl, rfl, rfl, rfl⟩ := hgo.forms
    obtain ⟨X, hX⟩ : ∃ X, X = w5.heap.size := ⟨_, rfl⟩
    obtain ⟨lg, hlg⟩ : ∃ lg, lineG g = lg := ⟨_, rfl⟩
    rw [hlg] at hgo ⊢
    obtain ⟨nl, hnl⟩ : ∃ nl, lg.nodes.length = nl := ⟨_, rfl⟩
    obtain ⟨pl, hpl⟩ : ∃ pl, lg.params.length = pl := ⟨_, rfl⟩
    obtain ⟨kl, hkl⟩ : ∃ kl, lg.kinds.length = kl := ⟨_, rfl⟩
    obtain ⟨il, hil⟩ : ∃ il, lg.init.length = il := ⟨_, rfl⟩
    rw [hnl, hpl, hkl, hil] at hgo ⊢
    have hb5w := Hbj.out.trans (hb5.mono hszj)
    have hsz5 := hb5.size
    have hU6 := (HUj.out.below hb5 HUj.out.lt).alloc (.cells (gcells lg (.slice PA pl pc) (.slice KA kl kc) (.slice IA il ic) (.slice NA nl nc)).toArray 44)
    have hR6 := (HRj.out.below hb5 HRj.out.lt).alloc (.cells (gcells lg (.slice PA pl pc) (.slice KA kl kc) (.slice IA il ic) (.slice NA nl nc)).toArray 44)
    have hP6 := (HPj.out.below hb5 HPj.out.lt).alloc (.cells (gcells lg (.slice PA pl pc) (.slice KA kl kc) (.slice IA il ic) (.slice NA nl nc)).toArray 44)
    have hX6 := Blk.new w5 44 (gcells lg (.slice PA pl pc) (.slice KA kl kc) (.slice IA il ic) (.slice NA nl nc)).toArray
    have hb6 := hb5w.alloc (by omega) (.cells (gcells lg (.slice PA pl pc) (.slice KA kl kc) (.slice IA il ic) (.slice NA nl nc)).toArray 44)
    have hg5 := (only_of_below hb5 none).trans (World.grownBy_alloc w5 (.cells (gcells lg (.slice PA pl pc) (.slice KA kl kc) (.slice IA il ic) (.slice NA nl nc)).toArray 44) none)
    have hown6 := own_kept' Hown.out hg5 nofun
    have hgs6 := Hgs.out.kept hg5 (Far.none_ _)
    have hgo6 := hgo.kept (World.grownBy_alloc w5 (.cells (gcells lg (.slice PA pl pc) (.slice KA kl kc) (.slice IA il ic) (.slice NA nl nc)).toArray 44) none) (Far.none_ _)
    obtain ⟨w6, hw6⟩ : ∃ w6, w6 = w5.alloc (.cells (gcells lg (.slice PA pl pc) (.slice KA kl kc) (.slice IA il ic) (.slice NA nl nc)).toArray 44) := ⟨_, rfl⟩
    rw [← hw6] at hU6 hR6 hP6 hX6 hb6 hg5 hown6 hgs6 hgo6
    rw [← hX] at hX6
    simp only [gcells] at hw6 hX6 ⊢
    have kx0 := Blk.cell hX6 0
    have kx1 := Blk.cell hX6 1
    have kx2 := Blk.cell hX6 2
    have kx3 := Blk.cell hX6 3
    have kx4 := Blk.cell hX6 4
    have kx5 := Blk.cell hX6 5
    have kx6 := Blk.cell hX6 6
    have kx7 := Blk.cell hX6 7
    simp only [List.getElem?_toArray, List.getElem?_cons_zero, List.getElem?_cons_succ] at kx0 kx1 kx2 kx3 kx4 kx5 kx6 kx7
    have ku0 := Blk.cell hU6 0
    simp only [List.getElem?_toArray, List.getElem?_cons_zero, List.getElem?_cons_succ] at ku0
    have kr0 := Blk.cell hR6 0
    simp only [List.getElem?_toArray, List.getElem?_cons_zero, List.getElem?_cons_succ] at kr0
    have fr0 := Blk.frozen hR6 0
    have fu0 := Blk.frozen hU6 0
    obtain ⟨PV, pvc, hpv, hpvc1, hpvc2, _⟩ := own_any hown6
    obtain ⟨Hgo, Hlg, Hnl, Hpl, Hkl, Hil, Hb5w, HU6⟩ := hd8 hgo hlg hnl hpl hkl hil hb5w hU6
    obtain ⟨HR6, HP6, HX6, Hb6, Hg5, Hown6, Hgs6, Hgo6⟩ := hd8 hR6 hP6 hX6 hb6 hg5 hown6 hgs6 hgo6
    obtain ⟨Hw6, Hb5, HX⟩ := hd3 hw6 hb5 hX
    clear hX hb5 hw6 hgo6 hgs6 hown6 hg5 hb6 hX6 hP6 hR6 hU6 hb5w hil hkl hpl hnl hlg hgo
    by_cases ho : 4096 < nl
    ·have hover : linErr gs = 31 := by
      unfold linErr
      rw [if_pos Hc.out, if_pos]
      unfold linOver
      rw [List.any_eq_true]
      refine ⟨g, Hgm.out, ?_⟩
      rw [Hlg.out, Hnl.out]
      exact decide_eq_true ho
     have hoz : (4096 : Int) < nl := by omega
     have hR7 := HR6.out.set_ 0 (.slice none 0 0)
     simp only [List.setIfInBounds_toArray, List.set_cons_zero] at hR7
     have hpost : LinPost gs w (.returned (.tuple #[.agg #[.slice none 0 0], .int .i64 31])) (w6.setCell ⟨R, 0, none⟩ (.slice none 0 0)) := by
      refine ⟨Hb6.out.setCell (p := ⟨R, 0, none⟩) (by rw [HRe.out]; simp) _, .inl ?_⟩
      rw [hover]
      exact ⟨by decide, rfl⟩
     obtain ⟨HR7, Hpost, Hover⟩ := hd3 hR7 hpost hover
     clear hover hpost hR7
     go_upto_region 9 with fail
     rw [← HX.out, ← Hw6.out]
     go_wp2_with fail
     refine bodyPost_ret (results_row_tmp rfl _ _ R 24 _ (0, 0) _ rfl HR7.out Tryd.underlying24 (by kernel_rfl)) rfl ?_
     exact Hpost.out
    ·have hoz : ¬ (4096 : Int) < nl := by omega
     subst hpv
     go_upto_region 9 with fail
     rw [← HX.out, ← Hw6.out]
     go_wp2_with (first
      | (at_builtin
         refine wpList_append_any _ rfl (.tmp 31) (.tmp 33) _ rfl w.heap.size 44 iG _ 8 128 Tryd.underlying22 hiG nz0 nz1 nz2 rfl (by omega) (.slice PV j pvc) j css.flatten rfl (Hown6.out.alloc _) (w6.heap.size + 1) (some ⟨w6.heap.size, 0, none⟩) 1 1 (gcells lg (.slice PA pl pc) (.slice KA kl kc) (.slice IA il ic) (.slice NA nl nc)) rfl (Reads.newS _ rfl _ _ _ _ _ rfl rfl) ?c1 ?c2 ?c3 ?c4 ?_
         case c1 => intro u hu; simp only [gcells, List.mem_cons, List.not_mem_nil, or_false] at hu; rcases hu with rfl | rfl | rfl | rfl | rfl | rfl | rfl | rfl <;> rfl
         case c2 => simp only [maxLen]; omega
         case c3 => omega
         case c4 => have := Hb6.out.size; simp; omega
         intro v8 w8 hown8 hg8 hat8
         obtain ⟨A8, x8, rfl, _⟩ := own_any hown8
         have hU8 := (HU6.out.alloc _).grown hg8 (fun e => own_blk_ne Hown6.out HU6.out (by decide) e.symm)
         have k80 := Blk.cell hU8 0
         have f80 := Blk.frozen hU8 0
         simp only [List.getElem?_toArray, List.getElem?_cons_zero] at k80
         have Hown8 := Lib.hid hown8
         have Hg8 := Lib.hid hg8
         have HU8 := Lib.hid hU8
         clear hU8 hat8 hg8 hown8))
     have hg68 : w6.grownBy w8 (Value.slice PV j pvc).ownBlock := (World.grownBy_alloc w6 _ _).trans Hg8.out
     have hfar : Far w6 (Value.slice PV j pvc).ownBlock := fun b e => by
      obtain ⟨cs', h'⟩ := own_blk Hown6.out e
      exact .inr ⟨_, cs', h', by decide, by decide, by decide⟩
     have hfU : Far w8 (some U) := Far.blk HU8.out (by decide) (by decide) (by decide)
     have hgsU := grown_setCell w8 ⟨U, 0, none⟩ (.slice A8 (j + 1) x8)
     have hnPR : some R ≠ (Value.slice PV j pvc).ownBlock := fun e => own_blk_ne Hown6.out HR6.out (by decide) e.symm
     have hnPP : some P ≠ (Value.slice PV j pvc).ownBlock := fun e => own_blk_ne Hown6.out HP6.out (by decide) e.symm
     have hRU : R ≠ U := by rw [HRe.out, HU.out]; have := HR3.out.lt; have := HRe.out; omega
     have hPU : P ≠ U := by rw [HPe.out, HU.out]; have := HP3.out.lt; have := HPe.out; omega
     have hU9 := HU8.out.set_ 0 (.slice A8 (j + 1) x8)
     simp only [List.setIfInBounds_toArray, List.set_cons_zero] at hU9
     have hR9 := (HR6.out.grown hg68 hnPR).far (p := ⟨U, 0, none⟩) hRU (.slice A8 (j + 1) x8)
     have hP9 := (HP6.out.grown hg68 hnPP).far (p := ⟨U, 0, none⟩) hPU (.slice A8 (j + 1) x8)
     have hb8 := Hb6.out.grown hg68 (by have := Hb6.out.size; omega) (fun k e => (Hown6.out.lt k e).1)
     have hb9 := hb8.setCell (p := ⟨U, 0, none⟩) hUw (.slice A8 (j + 1) x8)
     have hown9 := ownsRow_setCell_other Hown8.out (a := ⟨U, 0, none⟩) (own_blk_ne Hown8.out HU8.out (by decide)) (.slice A8 (j + 1) x8)
     have hgs9 := (Hgs6.out.kept hg68 hfar).kept hgsU hfU
     have hgo9 := ((Hgo6.out.base hszj).kept hg68 hfar).kept hgsU hfU
     have htk : (gs.take (j + 1)).map lineG = (gs.take j).map lineG ++ [lg] := by
      rw [List.take_add_one, Hg.out, List.map_append, ← Hlg.out]; rfl
     have hrel9 : LinRel w R P U (.slice (some ad) Z gc) gs (j + 1) (w8.setCell ⟨U, 0, none⟩ (.slice A8 (j + 1) x8)) := by
      refine ⟨css ++ [gcells lg (.slice PA pl pc) (.slice KA kl kc) (.slice IA il ic) (.slice NA nl nc)], .slice A8 (j + 1) x8, ?_, ?_, hU9, hR9, hP9, hb9⟩
      ·rw [List.flatten_append]; simpa using hown9
      ·rw [htk]; exact hgs9.snoc hgo9
     have hno9 : ∀ g ∈ gs.take (j + 1), ¬ 4096 < (lineG g).nodes.length := by
      intro g' hg'
      rw [List.take_add_one, Hg.out] at hg'
      rcases List.mem_append.1 hg' with h' | h'
      ·exact hno.out g' h'
      ·have e : g' = g := by simpa using h'
       rw [e, Hlg.out, Hnl.out]; exact ho
     obtain ⟨Hrel9, Hno9⟩ := hd2 hrel9 hno9
     clear hno9 hrel9
     go_roundg (gk - 1)
     case measure => omega
     case rel => exact ⟨j + 1, by omega, by simp, Hrel9, Hno9⟩
   ·obtain rfl : j = Z := by omega
    have herr : linErr gs = 0 := by
     unfold linErr
     rw [if_pos Hc.out, if_neg]
     intro h0
     unfold linOver at h0
     rw [List.any_eq_true] at h0
     obtain ⟨g, h1, h2⟩ := h0
     refine hno.out g ?_ (of_decide_eq_true h2)
     rw [← HZ.out, List.take_length]; exact h1
    have hR4 := hRj.set_ 0 pv
    simp only [List.setIfInBounds_toArray, List.set_cons_zero] at hR4
    have hfR : Far wr (some R) := Far.blk hRj (by decide) (by decide) (by decide)
    have hpost : LinPost gs w (.returned (.tuple #[.agg #[pv], .int .i64 0])) (wr.setCell ⟨R, 0, none⟩ pv) := by
     refine ⟨hbj.setCell (p := ⟨R, 0, none⟩) (by rw [HRe.out]; simp) _, .inr ⟨herr, pv, css, rfl, ?_, ?_⟩⟩
     ·rw [HZ.out]
      exact ownsRow_setCell_other hown (a := ⟨R, 0, none⟩) (own_blk_ne hown hRj (by decide)) pv
     ·have h1 := hgs.kept (grown_setCell wr ⟨R, 0, none⟩ pv) hfR
      rw [← HZ.out, List.take_length] at h1
      exact h1
    have ku0 := Blk.cell hUj 0
    simp only [List.getElem?_toArray, List.getElem?_cons_zero, List.getElem?_cons_succ] at ku0
    have kr0 := Blk.cell hRj 0
    simp only [List.getElem?_toArray, List.getElem?_cons_zero, List.getElem?_cons_succ] at kr0
    have fr0 := Blk.frozen hRj 0
    obtain ⟨PV, pvc, hpv, _⟩ := own_any hown
    subst hpv
    obtain ⟨Hown, Hgs, HUj, HRj, HPj, Hbj, Herr, HR4⟩ := hd8 hown hgs hUj hRj hPj hbj herr hR4
    obtain ⟨HfR, Hpost⟩ := hd2 hfR hpost
    clear hpost hfR hR4 herr hbj hPj hRj hUj hgs hown
    go_wp2_with fail
    refine bodyPost_ret (results_row_tmp rfl _ _ R 24 _ (0, 0) _ rfl HR4.out Tryd.underlying24 (by kernel_rfl)) rfl ?_
    exact Hpost.out
end Go.Proofs.YtnfjjliiajaijaaDoor
namespace Go.Proofs.YtnfjjliiajaijaaDoor
open Go.RowKit
def keptP (p : Int) : Bool := decide (13 ≤ p) && decide (p < 16)
def usesN (x : NodeD) : Bool := (readsL x ++ writesL x).any keptP
def usesB (g : GraphD) : Bool := g.nodes.any usesN
theorem uses_any {w : World} {ga : Addr} {g : GraphD} {nv : Value} (c6 : w.cell? ⟨ga.block, ga.off + 6, none⟩ = some nv) (hN : RowsAt 12 NodeAt w w.heap.size nv g.nodes) (hNb : g.nodes.length ≤ 1048576) (hal : ∀ x ∈ g.nodes, x.args.length * 8 ≤ 140737488351232) (hrl : ∀ x ∈ g.nodes, (readsL x).length ≤ 1048576) :
  Calls Tryd.prog 16 #[.pointer (some ga)] w fun e w' => e = .returned (.bool (usesB g)) ∧ Below w.heap.size w w' := by
 obtain ⟨iI, hiI, iz0, iz1, iz2⟩ := info_parts infoIntE
 obtain ⟨R, hR⟩ : ∃ R, usesB g = R := ⟨_, rfl⟩
 rw [hR]
 obtain ⟨NA, nc, rfl, _, _⟩ := hN.slice
 obtain ⟨N, hNN⟩ : ∃ N, g.nodes.length = N := ⟨_, rfl⟩
 rw [hNN] at c6 hNb
 obtain ⟨HN, HNN, HR, Hal, Hrl⟩ := hd5 hN hNN hR hal hrl
 clear hrl hal hR hNN hN
 go_enter Tryd.func16, Tryd.ntmps16
 go_wp2_with fail
 go_loopg [12] N (fun gk iv wr => ∃ j : Nat, j + gk = N ∧ iv = .int .i64 j ∧ Hid ((g.nodes.take j).any usesN = false) ∧ Hid (Below w.heap.size w wr))
 case atStart => exact ⟨0, by omega, rfl, Lib.hid (by simp), Lib.hid (Below.refl _ _)⟩
 case round =>
  obtain ⟨j, hj, rfl, hno, hbj⟩ := hrel
  by_cases hjm : j < N
  ·obtain ⟨x, hx⟩ : ∃ x, g.nodes[j]? = some x := ⟨_, List.getElem?_eq_getElem (by rw [HNN.out]; omega)⟩
   have hxm := List.mem_of_getElem? hx
   obtain ⟨nad, cs, hna, hnb', _, _, ⟨av, hcs, hav⟩, z0', nj'⟩ := RowsAt.at_ HN.out hx
   have z0 : ∀ u, cs[0]? = some u → wr.cell? (nad.add (j * 12)) = some u := fun u hu => (hbj.out.cell (p := nad.add (j * 12)) (by rw [block_of_add]; exact hnb')).trans (z0' u hu)
   have nj : ∀ k u, 0 < k → cs[k]? = some u → wr.cell? ⟨(nad.add (j * 12)).block, (nad.add (j * 12)).off + k, none⟩ = some u := fun k u hk hu => (hbj.out.cell (p := ⟨(nad.add (j * 12)).block, (nad.add (j * 12)).off + k, none⟩) (by show (nad.add (j * 12)).block < w.heap.size; rw [block_of_add]; exact hnb')).trans (nj' k u hk hu)
   clear z0' nj'
   subst hna hcs
   obtain ⟨AA, aac, hava, _, _, _⟩ := hav.slice
   subst hava
   have n0 : wr.cell? (nad.add (j * 12)) = some (.int .u8 x.op) := z0 _ rfl
   have n1 := nj 1 _ (by omega) rfl
   have n2 := nj 2 _ (by omega) rfl
   have n3 := nj 3 _ (by omega) rfl
   have n4 := nj 4 _ (by omega) rfl
   have n5 := nj 5 _ (by omega) rfl
   have n6 := nj 6 _ (by omega) rfl
   have n7 := nj 7 _ (by omega) rfl
   have n8 := nj 8 _ (by omega) rfl
   have n9 := nj 9 _ (by omega) rfl
   have n10 := nj 10 _ (by omega) rfl
   have n11 := nj 11 _ (by omega) rfl
   clear nj z0
   have hbv := hbj.out.alloc hbj.out.size (.cells (ncells x (.slice AA x.args.length aac)).toArray 55)
   have hB0 := Blk.new wr 55 (ncells x (.slice AA x.args.length aac)).toArray
   obtain ⟨TB, hTB⟩ : ∃ TB, TB = wr.heap.size := ⟨_, rfl⟩
   obtain ⟨v1, hv1⟩ : ∃ v1, v1 = wr.alloc (.cells (ncells x (.slice AA x.args.length aac)).toArray 55) := ⟨_, rfl⟩
   rw [← hv1, ← hTB] at hB0
   rw [← hv1] at hbv
   have hv1' : wr.alloc (.cells #[.int .u8 x.op, .int .u8 x.byo, .int .i64 x.d, .int .i64 x.e, .int .i64 x.a, .int .i64 x.b, .int .i64 x.f, .int .i64 x.cell, .int .u64 x.imm, .slice AA x.args.length aac, .int .i64 x.next, .int .i64 x.els] 55) = v1 := hv1.symm
   have hjI : (j : Int) < N := by omega
   have hrange : v1.rangeAt TB 0 (ncells x (.slice AA x.args.length aac)) := fun k v hv => by
    rw [hB0.cell (0 + k), Nat.zero_add, List.getElem?_toArray]
    exact hv
   obtain ⟨NC, hNC⟩ : ∃ NC, (ncells x (.slice AA x.args.length aac)).toArray = NC := ⟨_, rfl⟩
   have hal2 := Hal.out x hxm
   have hreads := reads_own v1.drew x (.slice AA x.args.length aac) w.heap.size hbv.drew.size (hav.below hbv.drew) (by omega)
   rw [hNC] at hreads
   have hsn : (g.nodes.take (j + 1)).any usesN = usesN x := by
    rw [List.take_add_one, hx, Option.toList_some, List.any_append, hno.out]; simp
   obtain ⟨Hx, Hxm, Hav, Hbv, HB0, HTB, Hv1, HV1E⟩ := hd8 hx hxm hav hbv hB0 hTB hv1 hv1'
   obtain ⟨HNC, Hreads, Hsn⟩ := hd3 hNC hreads hsn
   clear hsn hreads hNC hv1' hv1 hTB hB0 hbv hav hxm hx
   go_upto_region 4 with fail
   rw [HV1E.out, ← HTB.out]
   clear n0 n1 n2 n3 n4 n5 n6 n7 n8 n9 n10 n11
   refine wp_region_lateM (S := fun W => W.rangeAt TB 0 (ncells x (.slice AA x.args.length aac))) #[false, false, false, false, true, false, false] (by kernel_rfl) hrange (fun hHeld => ?_)
   refine wpAnyM_take (i := 0) rfl (by kernel_rfl) (by kernel_rfl) (by kernel_rfl) (by kernel_rfl) (fun _ _ _ h => h) (yieldsIf_load_mid (by rfl) 55 _ rfl TB 0 rfl (ncells x (.slice AA x.args.length aac)) _ (fun w h => h) Tryd.underlying55 rfl (by kernel_rfl)) (by assumption) ?_
   try simp only [Act.put, List.getElem_toArray, List.getElem_cons_zero, List.getElem_cons_succ, List.setIfInBounds_toArray, List.set_cons_zero, List.set_cons_succ]
   refine wpAnyM_take (i := 2) rfl (by kernel_rfl) (by kernel_rfl) (by kernel_rfl) (by kernel_rfl) (fun _ _ _ h => h) (yieldsIf_load_mid (by rfl) 55 _ rfl TB 0 rfl (ncells x (.slice AA x.args.length aac)) _ (fun w h => h) Tryd.underlying55 rfl (by kernel_rfl)) (by assumption) ?_
   try simp only [Act.put, List.getElem_toArray, List.getElem_cons_zero, List.getElem_cons_succ, List.setIfInBounds_toArray, List.set_cons_zero, List.set_cons_succ]
   refine wpAnyM_pure (i := 6) (v := ?_) rfl (by kernel_rfl) (by kernel_rfl) (by kernel_rfl) (by kernel_rfl) (fun _ _ _ h => h) (Or.inl ⟨by rfl, ?_⟩) (by first | assumption | exact Or.inr (by assumption)) ?_
   rotate_left
   ·intro w hSw; (try dsimp only at hSw); go_simp; try with_reducible rfl
   simp only [Act.put, List.getElem_toArray, List.getElem_cons_zero, List.getElem_cons_succ, List.setIfInBounds_toArray, List.set_cons_zero, List.set_cons_succ]
   refine wpAnyM_op (i := 1) (by kernel_rfl) rfl (fun K hK => ?_)
   go_simp
   rw [HNC.out]
   refine Hreads.out.mono ?_
   rintro e v2 ⟨⟨rv, rfl, hLr⟩, hb2⟩
   unfold OwnL at hLr
   obtain ⟨RA, rc, rfl, hrc1, hrc2, _⟩ := own_any hLr
   have hB2 := HB0.out.below (w := v1) (w' := v2) (Below.of_drew hb2) HB0.out.lt
   have hrange2 : v2.rangeAt TB 0 (ncells x (.slice AA x.args.length aac)) := fun k v hv => by
    rw [hB2.cell (0 + k), Nat.zero_add, List.getElem?_toArray]
    exact hv
   have hwrites := writes_own v2 x (.slice AA x.args.length aac)
   rw [HNC.out] at hwrites
   obtain ⟨m1, hm1⟩ : ∃ m1, (readsL x).length = m1 := ⟨_, rfl⟩
   rw [hm1] at hLr hrc1
   rw [hm1]
   refine hK.out _ _ hrange2 (fun hHeld2 => ?_)
   clear hK K hHeld
   try simp only [Act.put, List.getElem_toArray, List.getElem_cons_zero, List.getElem_cons_succ, List.setIfInBounds_toArray, List.set_cons_zero, List.set_cons_succ]
   refine wpAnyM_op (i := 3) (by kernel_rfl) rfl (fun K hK => ?_)
   go_simp
   try rw [HNC.out]
   refine hwrites.mono ?_
   rintro e v3 ⟨⟨wv, rfl, hLw⟩, hb3⟩
   unfold OwnL at hLw
   obtain ⟨WA, wc, rfl, hwc1, hwc2, _⟩ := own_any hLw
   have hB3 := hB2.below hb3 hB2.lt
   have hrange3 : v3.rangeAt TB 0 (ncells x (.slice AA x.args.length aac)) := fun k v hv => by
    rw [hB3.cell (0 + k), Nat.zero_add, List.getElem?_toArray]
    exact hv
   obtain ⟨m2, hm2⟩ : ∃ m2, (writesL x).length = m2 := ⟨_, rfl⟩
   rw [hm2] at hLw hwc1
   rw [hm2]
   refine hK.out _ _ hrange3 (fun hHeld3 => ?_)
   clear hK K hHeld2
   try simp only [Act.put, List.getElem_toArray, List.getElem_cons_zero, List.getElem_cons_succ, List.setIfInBounds_toArray, List.set_cons_zero, List.set_cons_succ]
   refine wpAnyM_last (i := 4) (by kernel_rfl) rfl ⟨4, by kernel_rfl, by kernel_rfl⟩ (fun K hK => ?_)
   have hLr3 : v3.ownsRow v1.drew.heap.size 3 1 (.slice RA m1 rc) m1 ((readsL x).map (Value.int .i64)) := It.At.kept (x := .row (.slice RA m1 rc) 3 1 m1 ((readsL x).map (Value.int .i64))) hLr (only_of_below hb3 none) (fun b hb => nofun)
   have hb2s := hb2.size
   have hb3s := hb3.size
   have hm1s : m1 ≤ 1048576 := by rw [← hm1]; exact Hrl.out x Hxm.out
   have hm2s : m2 ≤ 1048576 := by
    have := writes_len x
    omega
   refine step_append_any _ rfl (.tmp 17) (.tmp 19) _ rfl v1.drew.heap.size 3 iI _ 1 8 Tryd.underlying40 hiI iz0 iz1 iz2 rfl (by omega) (.slice RA m1 rc) m1 ((readsL x).map (Value.int .i64)) rfl hLr3 v3.heap.size WA m2 wc ((writesL x).map (Value.int .i64)) rfl (Reads.of_own hLw) ?c1 ?c2 ?c3 ?c4 ?_
   case c1 => exact nums_one _ _
   case c2 => simp only [maxLen]; omega
   case c3 => omega
   case c4 => omega
   intro v4 w4 hown4 hg4 hat4
   obtain ⟨LA, lc, rfl, hlc1, hlc2, _⟩ := own_any hown4
   have hbf : Below w.heap.size w w4 := by
    have h1 := ((Hbv.out.drew).trans (hb2.mono Hbv.out.drew.size)).trans (hb3.mono (Nat.le_trans Hbv.out.drew.size hb2s))
    exact h1.grown hg4 (Nat.le_trans Hbv.out.drew.size (Nat.le_trans hb2s hb3s)) (fun b e => Nat.le_trans Hbv.out.drew.size (hLr3.lt b e).1)
   rw [← List.map_append] at hown4
   obtain ⟨l, hl⟩ : ∃ l, readsL x ++ writesL x = l := ⟨_, rfl⟩
   rw [hl] at hown4
   obtain ⟨m, hm⟩ : ∃ m, m1 + m2 = m := ⟨_, rfl⟩
   rw [hm] at hown4 hlc1
   have hll : l.length = m := by rw [← hl, List.length_append, hm1, hm2, hm]
   have hul : usesN x = l.any keptP := by unfold usesN; rw [hl]
   have hmm : (m : Int) ≤ 2097152 := by omega
   rw [hm]
   refine hK.out _ _ ?_
   clear hK K
   try simp only [Act.put, List.getElem_toArray, List.getElem_cons_zero, List.getElem_cons_succ, List.setIfInBounds_toArray, List.set_cons_zero, List.set_cons_succ]
   refine wpAnyM_pure (i := 5) (v := ?_) rfl (by kernel_rfl) (by kernel_rfl) (by kernel_rfl) (by kernel_rfl) (fun _ _ _ h => h) (Or.inl ⟨by rfl, ?_⟩) (Or.inl ⟨4, by kernel_rfl, by kernel_rfl⟩) ?_
   rotate_left
   ·intro w hSw; (try dsimp only at hSw); go_simp; try with_reducible rfl
   simp only [Act.put, List.getElem_toArray, List.getElem_cons_zero, List.getElem_cons_succ, List.setIfInBounds_toArray, List.set_cons_zero, List.set_cons_succ]
   refine wpAnyM_done (by kernel_rfl) ?_ _
   obtain ⟨HLr3, Hbf, Hown4, Hl, Hm, Hll, Hul, HLw⟩ := hd8 hLr3 hbf hown4 hl hm hll hul hLw
   obtain ⟨HLr, Hg4, Hat4, Hb2, Hb3, HB2, HB3, Hm1⟩ := hd8 hLr hg4 hat4 hb2 hb3 hB2 hB3 hm1
   obtain ⟨Hm2, Hrange2, Hrange3⟩ := hd3 hm2 hrange2 hrange3
   clear hrange3 hrange2 hm2 hm1 hB3 hB2 hb3 hb2 hat4 hg4 hLr hLw hul hll hm hl hown4 hbf hLr3
   clear hHeld3
   go_wp2_with fail
   obtain ⟨g1, rfl⟩ : ∃ g1 : Nat, g1 = gk := ⟨_, rfl⟩
   go_loopg [22] m (fun gk iv wz => ∃ k : Nat, k + gk = m ∧ iv = .int .i64 k ∧ wz = w4 ∧ Hid ((l.take k).any keptP = false))
   case atStart => exact ⟨0, by omega, rfl, rfl, Lib.hid (by simp)⟩
   case round =>
    obtain ⟨k, hk, rfl, hwz, hnk⟩ := hrel
    subst hwz
    by_cases hkm : k < m
    ·obtain ⟨ad, u, hA, _, hu, hcu⟩ := (Reads.of_own Hown4.out).at_ hkm
     subst hA
     obtain ⟨p, hp⟩ : ∃ p, l[k]? = some p := ⟨_, List.getElem?_eq_getElem (by rw [Hll.out]; exact hkm)⟩
     have hu2 : u = .int .i64 p := by
      rw [List.getElem?_map, hp] at hu
      injection hu with hu
      exact hu.symm
     subst hu2
     have hkI : (k : Int) < m := by omega
     by_cases hp1 : 13 ≤ p ∧ p < 16
     ·obtain ⟨hp13, hp16⟩ := hp1
      have hyes : R = true := by
       rw [← HR.out]
       unfold usesB
       rw [List.any_eq_true]
       refine ⟨x, Hxm.out, ?_⟩
       rw [Hul.out, List.any_eq_true]
       exact ⟨p, List.mem_of_getElem? hp, by unfold keptP; simp [hp13, hp16]⟩
      obtain ⟨Hp, Hu, Hyes⟩ := hd3 hp hu hyes
      clear hyes hu hp
      go_wp2_with fail
      go_ret
      rw [Hyes.out]
      exact ⟨rfl, Hbf.out⟩
     ·have hnk2 : (l.take (k + 1)).any keptP = false := by
       rw [List.take_add_one, hp, Option.toList_some, List.any_append, hnk.out]
       unfold keptP
       simp; omega
      obtain ⟨Hp, Hu, Hnk2⟩ := hd3 hp hu hnk2
      clear hnk2 hu hp
      by_cases hp13 : 13 ≤ p
      ·have hp16 : ¬ p < 16 := fun h => hp1 ⟨hp13, h⟩
       clear hp1
       go_wp2_with fail
       go_roundg (gk - 1)
       case measure => omega
       case rel => exact ⟨k + 1, by omega, by simp, rfl, Hnk2⟩
      ·clear hp1
       go_wp2_with fail
       go_roundg (gk - 1)
       case measure => omega
       case rel => exact ⟨k + 1, by omega, by simp, rfl, Hnk2⟩
    ·obtain rfl : m = k := by omega
     have hmI : ¬ (m : Int) < m := by omega
     have hno2 : (g.nodes.take (j + 1)).any usesN = false := by
      rw [Hsn.out, Hul.out]
      have := hnk.out
      rwa [List.take_of_length_le (by rw [Hll.out]; exact Nat.le_refl _)] at this
     obtain ⟨Hno2, Hnk⟩ := hd2 hno2 hnk
     clear hnk hno2
     go_wp2_with fail
     go_roundg (g1 - 1)
     case measure => omega
     case rel => exact ⟨j + 1, by omega, by simp, Hno2, Hbf⟩
  ·obtain rfl : N = j := by omega
   have hNI : ¬ (N : Int) < N := by omega
   have hnoR : R = false := by
    have := hno.out
    rw [List.take_of_length_le (by rw [HNN.out]; exact Nat.le_refl _)] at this
    rw [← HR.out]; exact this
   obtain ⟨Hno, HnoR⟩ := hd2 hno hnoR
   clear hnoR hno
   go_wp2_with fail
   go_ret
   rw [HnoR.out]
   exact ⟨rfl, hbj.out⟩
end Go.Proofs.YtnfjjliiajaijaaDoor
namespace Go.Proofs.YtnfjjliiajaijaaDoor
open Go.RowKit
theorem once_mem (l : List Int) : ∀ p ∈ onceL l, p ∈ l := by
 have h : ∀ (l o : List Int), ∀ p ∈ l.foldl addStep o, p ∈ o ∨ p ∈ l := by
  intro l
  induction l with
  | nil => intro o p hp; exact .inl hp
  | cons x l ih =>
   intro o p hp
   rcases ih (addStep o x) p hp with h | h
   ·unfold addStep at h
    split at h
    ·rcases List.mem_append.1 h with h | h
     ·exact .inl h
     ·rw [List.mem_singleton] at h
      exact .inr (by rw [h]; exact List.mem_cons_self)
    ·exact .inl h
   ·exact .inr (List.mem_cons_of_mem _ h)
 intro p hp
 rcases h l [] p hp with h | h
 ·cases h
 ·exact h
theorem argsB_args {gs : List GraphD} {g : GraphD} {x : NodeD} (h : argsB gs g true x = true) (hp : ∀ f ∈ gs, f.params.length ≤ 4) : x.args.length ≤ 4 ∧ ∀ p ∈ x.args, 0 ≤ p ∧ p < 4 := by
 unfold argsB at h
 rw [Bool.and_eq_true] at h
 obtain ⟨_, h2⟩ := h
 rcases hf : gs[x.f.toNat]? with _ | f
 ·rw [hf] at h2; cases h2
 ·rw [hf] at h2
  simp only [Bool.and_eq_true, decide_eq_true_eq] at h2
  have hl := hp f (List.mem_of_getElem? hf)
  refine ⟨by omega, fun p hp => ?_⟩
  obtain ⟨i, hi, rfl⟩ := List.getElem_of_mem hp
  have := List.all_eq_true.1 h2.2 i (List.mem_range.2 hi)
  unfold argB at this
  simp only [if_true, decide_eq_true_eq, List.getD_eq_getElem?_getD, List.getElem?_eq_getElem hi, Option.getD_some] at this
  omega
section
variable {gs : List GraphD} {g : GraphD} {x : NodeD}
theorem opB_args (h : opB gs g true x = true) (ho : x.op = 11 ∨ x.op = 13) : argsB gs g true x = true := by
 unfold opB at h
 rcases ho with ho | ho
 ·rw [if_neg (by omega), if_neg (by omega), if_neg (by omega), if_neg (by omega), if_neg (by omega), if_neg (by omega), if_neg (by omega), if_neg (by omega), if_neg (by omega), if_neg (by omega), if_neg (by omega), if_neg (by omega), if_pos ho, Bool.and_eq_true] at h
  exact h.1
 ·rw [if_neg (by omega), if_neg (by omega), if_neg (by omega), if_neg (by omega), if_neg (by omega), if_neg (by omega), if_neg (by omega), if_neg (by omega), if_neg (by omega), if_neg (by omega), if_neg (by omega), if_pos ho] at h
  exact h
theorem reads_bd (h : nodeB gs g true x = true) (hp : ∀ f ∈ gs, f.params.length ≤ 4) (hk : 16 ≤ g.kinds.length) : (∀ t ∈ readsL x, 0 ≤ t ∧ t < (g.kinds.length : Int)) ∧ (readsL x).length ≤ 4 := by
 have ok := NdOk.of h
 unfold nodeB at h
 rw [Bool.and_eq_true] at h
 unfold readsL
 by_cases e1 : x.op = 2 ∨ x.op = 5 ∨ x.op = 7 ∨ x.op = 9 ∨ x.op = 12 ∨ x.op = 14 ∨ x.op = 17 ∨ x.op = 18
 ·rw [if_pos e1]
  refine ⟨fun t ht => ?_, by have := once_len [x.a]; simp only [List.length_cons, List.length_nil] at this; omega⟩
  have h1 := once_mem _ t ht
  have h2 := once_pos _ t ht
  rw [List.mem_singleton] at h1
  subst h1
  by_cases h12 : x.op = 12
  ·rcases ok.ret h12 with h | h
   ·omega
   ·exact h.2
  ·exact ok.a (by omega)
 rw [if_neg e1]
 by_cases e2 : x.op = 3 ∨ x.op = 8
 ·rw [if_pos e2]
  refine ⟨fun t ht => ?_, by have := once_len [x.a, x.b]; simp only [List.length_cons, List.length_nil] at this; omega⟩
  have h1 := once_mem _ t ht
  have ha := ok.a (by omega)
  have hb := ok.b (by omega)
  simp only [List.mem_cons, List.not_mem_nil, or_false] at h1
  rcases h1 with rfl | rfl
  ·exact ha
  ·exact hb
 rw [if_neg e2]
 by_cases e3 : x.op = 11 ∨ x.op = 13
 ·rw [if_pos e3]
  obtain ⟨h1, h2⟩ := argsB_args (opB_args h.2 e3) hp
  refine ⟨fun t ht => ?_, by have := once_len x.args; omega⟩
  have := h2 t (once_mem _ t ht)
  omega
 rw [if_neg e3]
 exact ⟨fun t ht => (by cases ht), by simp⟩
theorem writes_bd (h : nodeB gs g true x = true) : ∀ t ∈ writesL x, 0 ≤ t ∧ t < (g.kinds.length : Int) := by
 have ok := NdOk.of h
 intro t ht
 have hpos := writes_pos x t ht
 unfold writesL at ht
 by_cases e1 : x.op = 1 ∨ x.op = 2 ∨ x.op = 3 ∨ x.op = 4 ∨ x.op = 6 ∨ x.op = 7 ∨ x.op = 11 ∨ x.op = 16
 ·rw [if_pos e1] at ht
  have h1 := once_mem _ t ht
  rw [List.mem_singleton] at h1
  subst h1
  by_cases h11 : x.op = 11
  ·rcases ok.cd h11 with h | h
   ·omega
   ·exact h
  ·exact ok.d (by omega)
 rw [if_neg e1] at ht
 by_cases e2 : x.op = 15
 ·rw [if_pos e2] at ht
  have h1 := once_mem _ t ht
  have hd := ok.d (by omega)
  have he := ok.e e2
  simp only [List.mem_cons, List.not_mem_nil, or_false] at h1
  rcases h1 with rfl | rfl
  ·exact hd
  ·exact he
 rw [if_neg e2] at ht
 cases ht
end
theorem headB_more {g : GraphD} (h : headB g true = true) : g.init.length = g.params.length ∧ 0 ≤ g.cells ∧ (∀ c ∈ g.init, c < g.cells) ∧ g.keep < g.cells ∧ (∀ k ∈ g.kinds, k ≤ 1) := by
 unfold headB head1 head2 at h
 simp only [Bool.and_eq_true, Bool.not_eq_true', Bool.or_eq_false_iff, decide_eq_false_iff_not, Bool.true_and] at h
 obtain ⟨⟨⟨h1, h2⟩, h3⟩, h4⟩ := h
 obtain ⟨⟨⟨⟨q1, q2⟩, q3⟩, q4⟩, q5⟩ := h2
 have hil : g.init.length = g.params.length := by omega
 refine ⟨hil, by omega, fun c hc => ?_, ?_, fun k hk => ?_⟩
 ·obtain ⟨i, hi, rfl⟩ := List.getElem_of_mem hc
  have := List.all_eq_true.1 h3 i (List.mem_range.2 (by omega))
  unfold parB at this
  simp only [Bool.and_eq_true, Bool.not_eq_true', Bool.and_eq_false_iff, Bool.or_eq_false_iff, decide_eq_false_iff_not, List.getD_eq_getElem?_getD, List.getElem?_eq_getElem hi, Option.getD_some] at this
  rcases this.2 with h | h
  ·simp only [ne_eq, Decidable.not_not] at h; omega
  ·have := cellB_of (show cellB g _ = true by simpa using h.1)
   omega
 ·rcases Bool.and_eq_false_iff.1 q5 with h | h
  ·simp at h; omega
  ·have := cellB_of (show cellB g _ = true by simpa using h)
   omega
 ·have hall := h1.2
  rw [List.any_eq_false] at hall
  have := hall k hk
  simp at this; omega
/-- all that the emitter asks -/
theorem FnOk.of {gs : List GraphD} {g : GraphD} (h : checkB gs true = true) (hg : g ∈ gs) (himm : ∀ x ∈ g.nodes, U64 x.imm) (hargs : ∀ x ∈ g.nodes, x.args.length * 8 ≤ 140737488351232) : FnOk gs g := by
 obtain ⟨hh, hn⟩ := check_each h hg
 have hr := right_of h g hg
 obtain ⟨p1, p2, p3, p4⟩ := head_par hh
 obtain ⟨m1, m2, m3, m4, m5⟩ := headB_more hh
 have hp : ∀ f ∈ gs, f.params.length ≤ 4 := fun f hf => (head_par (check_each h hf).1).2.1
 exact ⟨hr, (check_len h).2, fun x hx => NdOk.of (hn x hx), himm, hargs, fun x hx => (reads_bd (hn x hx) hp hr.k0).1, fun x hx => writes_bd (hn x hx), p1, p2, m1, m3, m4⟩
section
variable {gs : List GraphD} {g : GraphD}
/-- a node of the line is one of the graph's, but for its ways, or a jump -/
theorem line_node (hns : NsOk g.nodes) (he : 0 ≤ g.entry ∧ g.entry < g.nodes.length) {x : NodeD} (hx : x ∈ (lineG g).nodes) : (∃ n ∈ g.nodes, ∃ a b, x = { n with next := a, els := b }) ∨ (∃ a b, x = { nopD 0 with next := a, els := b }) := by
 have hL := line_good hns (entry := g.entry.toNat) (by omega)
 obtain ⟨c, hc, rfl⟩ := List.getElem_of_mem hx
 have hx' : (lineN g.nodes g.entry.toNat)[c]? = some (lineN g.nodes g.entry.toNat)[c] := List.getElem?_eq_getElem hc
 unfold lineN at hx'
 rw [List.getElem?_mapIdx] at hx'
 rcases ho : (lineS g.nodes g.entry.toNat).out[c]? with _ | y
 ·rw [ho] at hx'; cases hx'
 ·rw [ho] at hx'
  injection hx' with hx'
  have hfix : ∃ a b, fixN (lineS g.nodes g.entry.toNat).at_ c y = { y with next := a, els := b } := by
   unfold fixN
   dsimp only
   split <;> split
   ·exact ⟨_, _, rfl⟩
   ·split <;> exact ⟨_, _, rfl⟩
   ·exact ⟨_, _, rfl⟩
   ·split <;> exact ⟨_, _, rfl⟩
  obtain ⟨a, b, hab⟩ := hfix
  rw [hab] at hx'
  have e : (lineG g).nodes[c] = { y with next := a, els := b } := hx'.symm
  rw [e]
  rcases hL.out c y ho with ⟨j, hj⟩ | ⟨t, rfl, _⟩
  ·obtain ⟨h1, h2, _⟩ := hL.at_ j c hj
   rw [ho] at h2
   injection h2 with h2
   refine .inl ⟨nd g.nodes j, nd_mem h1, a, b, ?_⟩
   rw [h2]
   unfold laid turned
   split
   ·rfl
   ·split <;> rfl
  ·exact .inr ⟨a, b, rfl⟩
theorem next_cases {x : NodeD} {t : Int} (h : t ∈ nextL x) : t = x.next ∨ (x.op = 9 ∧ t = x.els) := by
 unfold nextL at h
 split at h
 ·cases h
 ·split at h
  ·next h9 =>
   simp only [List.mem_cons, List.not_mem_nil, or_false] at h
   rcases h with h | h
   ·exact .inl h
   ·exact .inr ⟨h9.1, h⟩
  ·split at h
   ·cases h
   ·simp only [List.mem_cons, List.not_mem_nil, or_false] at h
    exact .inl h
theorem line_next (hns : NsOk g.nodes) (he : 0 ≤ g.entry ∧ g.entry < g.nodes.length) {c : Nat} {x : NodeD} (hx : (lineG g).nodes[c]? = some x) : ∀ t ∈ nextL x, 0 ≤ t ∧ t < ((lineG g).nodes.length : Int) := by
 have hL := line_good hns (entry := g.entry.toNat) (by omega)
 have hlen : (lineG g).nodes.length = (lineS g.nodes g.entry.toNat).out.length := by
  show (lineN g.nodes g.entry.toNat).length = _
  unfold lineN; simp
 rw [hlen]
 have hx' : (lineN g.nodes g.entry.toNat)[c]? = some x := hx
 unfold lineN at hx'
 rw [List.getElem?_mapIdx] at hx'
 obtain ⟨s, hs⟩ : ∃ s, lineS g.nodes g.entry.toNat = s := ⟨_, rfl⟩
 rw [hs] at hL hx' ⊢
 have hat : ∀ j v, s.at_ j = some v → v < s.out.length := fun j v h => (List.getElem?_eq_some_iff.1 (hL.at_ j v h).2.1).1
 rcases ho : s.out[c]? with _ | y
 ·rw [ho] at hx'; cases hx'
 ·rw [ho] at hx'
  injection hx' with hx'
  intro t ht
  by_cases h10 : y.op = 10
  ·obtain ⟨u, v, h1, h2, h3⟩ := hL.nop ho h10
   have hv := hat _ _ h3
   have hxe : x = { y with next := (v : Nat) } := by
    rw [← hx']
    unfold fixN
    dsimp only
    rw [if_pos h10, if_neg (by omega), h1, Int.toNat_natCast, h3]; rfl
   rcases next_cases ht with h | ⟨h, _⟩
   ·rw [h, hxe]; show 0 ≤ (v : Int) ∧ (v : Int) < _; omega
   ·rw [hxe] at h
    have : y.op = 9 := h
    omega
  ·rcases hL.out c y ho with ⟨j, hj⟩ | ⟨u, rfl, _⟩
   ·obtain ⟨a1, a2, a3, a4⟩ := hL.at_ j c hj
    rw [ho] at a2
    injection a2 with a2
    have hop : (nd g.nodes j).op ≠ 10 := by
     intro e
     rw [laid_nop e] at a2
     rw [a2] at h10
     exact h10 e
    rw [laid_not hop] at a2
    by_cases hn : nextL y = []
    ·have h9 : y.op ≠ 9 := fun e => br_next e hn
     have hxe : x = y := by
      rw [← hx']
      unfold fixN
      dsimp only
      rw [if_neg h10, if_neg h9, if_pos hn]
     rw [hxe, hn] at ht
     cases ht
    ·have hn2 : nextL (nd g.nodes j) ≠ [] := fun e => by
      rw [a2] at hn
      exact hn (turned_next.2 e)
     have hc1 : c + 1 < s.out.length := by
      rcases a3 hop hn2 with h | ⟨h, _⟩
      ·exact hat _ _ h
      ·exact (List.getElem?_eq_some_iff.1 h).1
     by_cases h9 : y.op = 9
     ·obtain ⟨u, v, h1, h2, h3⟩ := hL.br ho h9
      have hv := hat _ _ h3
      have hxe : x = { y with next := (c : Int) + 1, els := (v : Nat) } := by
       rw [← hx']
       unfold fixN
       dsimp only
       rw [if_neg h10, if_neg hn, if_pos h9, h1, Int.toNat_natCast, h3]; rfl
      rcases next_cases ht with h | ⟨_, h⟩
      ·rw [h, hxe]; show 0 ≤ (c : Int) + 1 ∧ (c : Int) + 1 < _; omega
      ·rw [h, hxe]; show 0 ≤ (v : Int) ∧ (v : Int) < _; omega
     ·have hxe : x = { y with next := (c : Int) + 1 } := by
       rw [← hx']
       unfold fixN
       dsimp only
       rw [if_neg h10, if_neg hn, if_neg h9]
      rcases next_cases ht with h | ⟨h, _⟩
      ·rw [h, hxe]; show 0 ≤ (c : Int) + 1 ∧ (c : Int) + 1 < _; omega
      ·rw [hxe] at h
       exact absurd h h9
   ·exact absurd rfl h10
theorem opB_line (x : NodeD) (a b : Int) : opB (gs.map lineG) (lineG g) true { x with next := a, els := b } = opB gs g true x := by
 have hA : argsB (gs.map lineG) (lineG g) true { x with next := a, els := b } = argsB gs g true x := by
  unfold argsB
  dsimp only
  rw [List.getElem?_map]
  rcases gs[x.f.toNat]? with _ | f
  ·rfl
  ·rfl
 unfold opB
 dsimp only
 rw [hA, List.getElem?_map]
 rcases gs[x.f.toNat]? with _ | f <;> rfl
/-- graphs in a line are right -/
theorem line_check (h : checkB gs true = true) (hs : GsSmall gs) (ho : linOver gs = false) : checkB (gs.map lineG) true = true := by
 have hl := check_len h
 have hall : ∀ g ∈ gs, headB (lineG g) true = true ∧ ∀ x ∈ (lineG g).nodes, nodeB (gs.map lineG) (lineG g) true x = true := by
  intro g hg
  obtain ⟨hh, hn⟩ := check_each h hg
  obtain ⟨hns, he⟩ := lin_ok h hs hg
  have hL := line_good hns (entry := g.entry.toNat) (by omega)
  have hlen : (lineG g).nodes.length = (lineS g.nodes g.entry.toNat).out.length := by
   show (lineN g.nodes g.entry.toNat).length = _
   unfold lineN; simp
  have hov : (lineG g).nodes.length ≤ 4096 := by
   unfold linOver at ho
   rw [List.any_eq_false] at ho
   have := ho g hg
   simpa using this
  refine ⟨?_, fun x hx => ?_⟩
  ·unfold headB at hh ⊢
   rw [Bool.and_eq_true] at hh ⊢
   refine ⟨hh.1, ?_⟩
   unfold head3
   simp only [Bool.and_eq_true, decide_eq_true_eq]
   have := hL.pos
   refine ⟨⟨⟨by omega, hov⟩, by show (0 : Int) ≤ 0; omega⟩, by show (0 : Int) < _; omega⟩
  ·unfold nodeB
   rw [Bool.and_eq_true]
   constructor
   ·obtain ⟨c, hc, rfl⟩ := List.getElem_of_mem hx
    refine List.all_eq_true.2 fun t ht => ?_
    have := line_next hns he (List.getElem?_eq_getElem hc) t ht
    simp [this.1, this.2]
   ·rcases line_node hns he hx with ⟨n, hnm, a, b, rfl⟩ | ⟨a, b, rfl⟩
    ·rw [opB_line]
     have := hn n hnm
     unfold nodeB at this
     rw [Bool.and_eq_true] at this
     exact this.2
    ·unfold opB
     simp [nopD]
 unfold checkB at h ⊢
 rw [Bool.and_eq_true, Bool.and_eq_true] at h ⊢
 refine ⟨⟨?_, ?_⟩, ?_⟩
 ·rw [List.getElem?_map]
  have h1 := h.1.1
  rcases hg0 : gs[0]? with _ | g0
  ·rw [hg0] at h1; cases h1
  ·rw [hg0] at h1
   show _ = true
   simp only [Option.map_some, List.length_map]
   exact h1
 ·refine List.all_eq_true.2 fun g' hg' => ?_
  obtain ⟨g, hg, rfl⟩ := List.mem_map.1 hg'
  exact (hall g hg).1
 ·refine List.all_eq_true.2 fun g' hg' => ?_
  obtain ⟨g, hg, rfl⟩ := List.mem_map.1 hg'
  exact List.all_eq_true.2 fun x hx => (hall g hg).2 x hx
end
end Go.Proofs.YtnfjjliiajaijaaDoor
namespace Go.Proofs.YtnfjjliiajaijaaDoor
open Go.RowKit
theorem perm_four3 (l rest : List It) (x y z : It) : (x :: y :: z :: (l ++ rest)).Perm (l ++ x :: y :: z :: rest) := by
 have h1 : (z :: (l ++ rest)).Perm (l ++ z :: rest) := List.perm_middle.symm
 have h2 : (y :: (l ++ z :: rest)).Perm (l ++ y :: z :: rest) := List.perm_middle.symm
 have h3 : (x :: (l ++ y :: z :: rest)).Perm (l ++ x :: y :: z :: rest) := List.perm_middle.symm
 exact (((h1.cons y).trans h2).cons x).trans h3
theorem made_perm (f s t m b c : It) : [f, s, t, m, b, c].Perm [b, m, c, t, s, f] := by
 refine perm_both (l1 := []) (m1 := [b, m, c, t, s]) ?_
 refine perm_both (l1 := []) (m1 := [b, m, c, t]) ?_
 refine perm_both (l1 := []) (m1 := [b, m, c]) ?_
 refine perm_both (l1 := []) (m1 := [b]) ?_
 exact List.Perm.refl _
def topZ : TopS := ⟨[], fun _ => none, 0, [], [], []⟩
def TopS.put (T : TopS) (l : List MInstD) : TopS := { T with code := T.code ++ l }
def top2 : TopS := topZ.put [⟨13, 0, 0, 0, 0⟩, ⟨13, 0, 0, 0, 1⟩]
def emitN (gs : List GraphD) : TopS := gs.foldl TopS.fn top2
def emitCode (T : TopS) : List MInstD := patch T.code T.calls (fun f => T.start[f]?) (fun _ => false)
def emitErr (gs : List GraphD) : Int :=
 if checkB gs true = false then 70
 else if gs.any usesB = true then 160
 else if linOver gs = true then 31
 else if (emitCode (emitN (gs.map lineG))).all goodP = false ∨ 1048576 < (emitCode (emitN (gs.map lineG))).length then 31 else 0
theorem emitN_snoc (gs : List GraphD) (g : GraphD) : emitN (gs ++ [g]) = (emitN gs).fn g := by unfold emitN; rw [List.foldl_append]; rfl
theorem fn_rows (T : TopS) (g : GraphD) : (T.fn g).rows.length = T.rows.length + 1 ∧ (T.fn g).start.length = T.start.length + 1 := by
 unfold TopS.fn; simp
theorem emitN_rows (gs : List GraphD) : (emitN gs).rows.length = gs.length ∧ (emitN gs).start.length = gs.length := by
 suffices h : ∀ n, n ≤ gs.length → (emitN (gs.take n)).rows.length = n ∧ (emitN (gs.take n)).start.length = n by
  have := h gs.length (Nat.le_refl _)
  rwa [List.take_length] at this
 intro n
 induction n with
 | zero => intro _; exact ⟨rfl, rfl⟩
 | succ n ih =>
  intro hn
  rw [List.take_add_one, List.getElem?_eq_getElem (by omega), Option.toList_some, emitN_snoc]
  obtain ⟨h1, h2⟩ := ih (by omega)
  obtain ⟨h3, h4⟩ := fn_rows (emitN (gs.take n)) gs[n]
  omega
def TopS.sz (T : TopS) : Nat := T.code.length + T.cn + T.sites.length
theorem fn_sz {gs : List GraphD} {g : GraphD} (T : TopS) (ok : FnOk gs g) : (T.fn g).sz ≤ T.sz + 50000 := by
 have hszs : (startE T).sz = T.sz := by unfold EmS.sz startE TopS.sz; simp
 have h1 := sz_begin (startE T) (xOf g) g.init
 have h2 := sz_nodes ((startE T).begin (xOf g) g.init) (nSlots g) (resL g) (liveOf g) g.nodes
 have h3 := sz_end (bodyE T g) (xOf g) g.result g.keep
 have hk := ok.right.k1
 have hc0 := ok.right.c0
 have hc1 := ok.right.c1
 have hn := ok.right.n1
 have hil := ok.il
 have hpl := ok.pl
 have hrk : (xOf g).saves.length ≤ 6 := by
  show (savesOf g).length ≤ 6
  rw [savesOf_len]; exact regsK_len _ _
 have e1 : (xOf g).ns ≤ 1008 := by show nSlots g ≤ 1008; unfold nSlots; omega
 have e2 : (xOf g).nc ≤ 64 := by show nCells g ≤ 64; unfold nCells; omega
 have e3 : bodyE T g = ((startE T).begin (xOf g) g.init).nodes (nSlots g) (resL g) (liveOf g) g.nodes := rfl
 have e4 : (T.fn g).sz = (endE T g).code.length + (endE T g).cn + (endE T g).sites.length := by
  unfold TopS.sz TopS.fn; simp only [patch_len]
 have e5 : (endE T g).code.length + (endE T g).cn + (endE T g).sites.length ≤ (endE T g).sz := by unfold EmS.sz; omega
 have e6 : (endE T g).sz = ((bodyE T g).end_ (xOf g) g.result g.keep).sz := rfl
 rw [← e3] at h2
 omega
theorem emitN_sz {gs : List GraphD} (l : List GraphD) (ok : ∀ g ∈ l, FnOk gs g) : (emitN l).sz ≤ 50000 * l.length + 2 := by
 suffices h : ∀ n, n ≤ l.length → (emitN (l.take n)).sz ≤ 50000 * n + 2 by
  have := h l.length (Nat.le_refl _)
  rwa [List.take_length] at this
 intro n
 induction n with
 | zero => intro _; exact Nat.le_refl _
 | succ n ih =>
  intro hn
  rw [List.take_add_one, List.getElem?_eq_getElem (by omega), Option.toList_some, emitN_snoc]
  have h1 := ih (by omega)
  have h2 := fn_sz (emitN (l.take n)) (ok l[n] (List.getElem_mem _))
  omega
section
variable {w w' : World} {base ep : Nat} {T : TopS} {rest rest' : List It} {x : It}
theorem TopAt.size (h : TopAt w base ep T rest) : base ≤ ep ∧ ep < w.heap.size := by
 obtain ⟨cv, stv, fv, sv, Mc, lvs, ps, _, _, hI⟩ := h
 exact (hI.at_ (i := 0) rfl).lt ep rfl
theorem TopAt.keep (h : TopAt w base ep T rest) (hg : w.grownBy w' none) : TopAt w' base ep T rest := by
 obtain ⟨cv, stv, fv, sv, Mc, lvs, ps, h1, h2, hI⟩ := h
 exact ⟨cv, stv, fv, sv, Mc, lvs, ps, h1, h2, hI.keep hg⟩
theorem TopAt.alloc (h : TopAt w base ep T rest) (o : Obj) : TopAt (w.alloc o) base ep T rest := h.keep (World.grownBy_alloc w o none)
theorem TopAt.drew (h : TopAt w base ep T rest) : TopAt w.drew base ep T rest := h.keep (only_drew (World.grownBy.refl w none))
theorem TopAt.below (h : TopAt w base ep T rest) (hb : Below w.heap.size w w') : TopAt w' base ep T rest := h.keep (only_of_below hb none)
/-- three rows that came anew -/
theorem TopAt.extend3 {x y z : It} (h : TopAt w base ep T rest) (hg : w.grownBy w' none) (hx : x.At w' base) (hy : y.At w' base) (hz : z.At w' base) (hbx : ∀ b, x.block = some b → w.heap.size ≤ b) (hby : ∀ b, y.block = some b → w.heap.size ≤ b) (hbz : ∀ b, z.block = some b → w.heap.size ≤ b)
  (hxy : ∀ b, x.block = some b → y.block ≠ some b) (hxz : ∀ b, x.block = some b → z.block ≠ some b) (hyz : ∀ b, y.block = some b → z.block ≠ some b) : TopAt w' base ep T (x :: y :: z :: rest) := by
 obtain ⟨cv, stv, fv, sv, Mc, lvs, ps, h1, h2, hI⟩ := h
 obtain ⟨l, hle⟩ : ∃ l, topItems ep T cv stv fv sv Mc lvs ps ++ rest = l := ⟨_, rfl⟩
 rw [hle] at hI
 have hold : ∀ q ∈ l, ∀ b, w.heap.size ≤ b → q.block ≠ some b := fun q hq b hb e => by
  have := ((hI.each q hq).lt b e).2
  omega
 have hI1 : Items w' base (z :: l) := hI.new hg hz hbz
 have hI2 : Items w' base (y :: z :: l) := hI1.cons hy fun b hb q hq => by
  rcases List.mem_cons.1 hq with rfl | hq
  ·exact hyz b hb
  ·exact hold q hq b (hby b hb)
 have hI3 : Items w' base (x :: y :: z :: l) := hI2.cons hx fun b hb q hq => by
  rcases List.mem_cons.1 hq with rfl | hq
  ·exact hxy b hb
  ·rcases List.mem_cons.1 hq with rfl | hq
   ·exact hxz b hb
   ·exact hold q hq b (hbx b hb)
 refine ⟨cv, stv, fv, sv, Mc, lvs, ps, h1, h2, hI3.perm ?_⟩
 rw [← hle]
 exact ((perm_four3 (topItems ep T cv stv fv sv Mc lvs ps) rest x y z))
/-- instructions are laid between functions -/
theorem put_top {A : Option Addr} {m c B : Nat} {ms : List MInstD} (h : TopAt w base ep T rest) (hR : Reads w B 5 A m (ms.flatMap mcells)) (hm : ms.length = m) (hsz : T.code.length + m ≤ 1099511627776) :
  Calls Tryd.prog 18 #[.pointer (some ⟨ep, 0, none⟩), .slice A m c] w fun e w' => e = .returned (.tuple #[]) ∧ TopAt w' base ep (T.put ms) rest ∧ Below base w w' := by
 have hbase : base ≤ w.heap.size := by have := h.size; omega
 obtain ⟨cv, stv, fv, sv, Mc, lvs, ps, h1, h2, hI⟩ := h
 refine (put_raw (i := 0) (j := 1) (n := T.code.length) (code := T.code) (c := c) hI rfl rfl (by omega) hR hsz hbase).mono ?_
 rintro e w' ⟨he, ⟨cv', h3⟩, hb⟩
 refine ⟨he, ⟨cv', stv, fv, sv, Mc, lvs, ps, h1, h2, ?_⟩, hb⟩
 have hl : T.code.length + m = (T.code ++ ms).length := by rw [List.length_append, hm]
 rw [hl] at h3
 exact h3
end
/-- the emitter as it is made -/
theorem TopAt.made (w : World) : TopAt ((w.alloc (.map #[] 0)).alloc (.cells #[.slice none 0 0, .slice none 0 0, .map (some w.heap.size), .slice none 0 0, .slice none 0 0] 67)) w.heap.size (w.heap.size + 1) topZ [] := by
 refine ⟨.slice none 0 0, .slice none 0 0, .slice none 0 0, .slice none 0 0, w.heap.size, [], [], rfl, rfl, ?_⟩
 have i0 := Items.nil w w.heap.size
 have i1 : Items (w.alloc (.map #[] 0)) w.heap.size [.map w.heap.size 0 (fun _ => none)] := i0.new (World.grownBy_alloc _ _ none) (x := .map w.heap.size 0 (fun _ => none)) ⟨Nat.le_refl _, IMap.made w⟩ (fun b e => by injection e with e; omega)
 have i2 := i1.newBlk (by simp) 67 #[.slice none 0 0, .slice none 0 0, .map (some w.heap.size), .slice none 0 0, .slice none 0 0]
 have e1 : (w.alloc (.map #[] 0)).heap.size = w.heap.size + 1 := by simp
 rw [e1] at i2
 have nilr : ∀ (e : TypeId) (s : Nat), It.At ((w.alloc (.map #[] 0)).alloc (.cells #[.slice none 0 0, .slice none 0 0, .map (some w.heap.size), .slice none 0 0, .slice none 0 0] 67)) w.heap.size (.row (.slice none 0 0) e s 0 []) := fun e s => World.ownsRow_nil _ _ _ _
 have i3 := ((((i2.cons (x := .row (.slice none 0 0) 71 5 0 []) (nilr _ _) (fun b e => by cases e)).cons (x := .row (.slice none 0 0) 112 2 0 []) (nilr _ _) (fun b e => by cases e)).cons (x := .row (.slice none 0 0) 3 1 0 []) (nilr _ _) (fun b e => by cases e)).cons (x := .row (.slice none 0 0) 48 6 0 []) (nilr _ _) (fun b e => by cases e))
 refine i3.perm ?_
 exact made_perm _ _ _ _ _ _
end Go.Proofs.YtnfjjliiajaijaaDoor
