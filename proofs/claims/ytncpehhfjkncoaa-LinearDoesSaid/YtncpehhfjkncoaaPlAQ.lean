/- Walk of Linear. Conditions: the graphs lie in memory, rows within the reach. Two runs side by side: of graphs, and of the same graphs in line. Conditions: nodes lead to nodes. -/
import Derived.Test.YtncpehhfjkncoaaPlAA
import Derived.Test.YtncpehhfjkncoaaPlAO
import Derived.Test.YtncpehhfjkncoaaPlAP
import Derived.Test.YtncpehhfjkncoaaPlAC
set_option linter.unusedVariables false
set_option linter.unusedSimpArgs false
set_option maxRecDepth 100000
set_option maxHeartbeats 16000000
namespace Go.Proofs.Ytncpehhfjkncoaa
open Go.RowKit

def linOver (gs : List GraphD) : Bool := gs.any fun g => decide (4096 < (lineG g).nodes.length)
def linErr (gs : List GraphD) : Int := if checkB gs true = true then if linOver gs = true then 31 else 0 else 70
def LinPost (gs : List GraphD) (w : World) (e : Ending) (w' : World) : Prop :=
 Below w.heap.size w w' /\ ((linErr gs ≠ 0 /\ e = .returned (.tuple #[.agg #[.slice none 0 0], .int .i64 (linErr gs)])) ∨
  (linErr gs = 0 /\ ∃ pv css, e = .returned (.tuple #[.agg #[pv], .int .i64 0]) /\ w'.ownsRow w.heap.size 48 8 pv gs.length css.flatten /\ GsOwn w' w.heap.size css (gs.map lineG)))
theorem check_len {gs : List GraphD} {b : Bool} (h : checkB gs b = true) : 0 < gs.length /\ gs.length <= 16 := by
 unfold checkB at h
 rcases hg : gs[0]? with _ | g
 ·rw [hg] at h; simp at h
 ·rw [hg] at h;simp only [Bool.and_eq_true, decide_eq_true_eq] at h;exact ⟨(List.getElem?_eq_some_iff.1 hg).1, h.1.1.1.1⟩
theorem check_each {gs : List GraphD} {b : Bool} (h : checkB gs b = true) {g : GraphD} (hg : g ∈ gs) : headB g b = true /\ ∀ x ∈ g.nodes, nodeB gs g b x = true := by
 unfold checkB at h;simp only [Bool.and_eq_true] at h;exact ⟨List.all_eq_true.1 h.1.2 g hg, fun x hx => List.all_eq_true.1 (List.all_eq_true.1 h.2 g hg) x hx⟩
theorem head_entry {g : GraphD} {b : Bool} (h : headB g b = true) : 0 <= g.entry /\ g.entry < g.nodes.length := by
 unfold headB head3 at h;simp only [Bool.and_eq_true, decide_eq_true_eq] at h;exact ⟨h.2.1.2, h.2.2⟩
theorem node_next {gs : List GraphD} {g : GraphD} {b : Bool} {x : NodeD} (h : nodeB gs g b x = true) : ∀ t ∈ nextL x, 0 <= t /\ t < g.nodes.length := fun t ht => by
 unfold nodeB at h;simp only [Bool.and_eq_true] at h;have := List.all_eq_true.1 h.1 t ht
 simpa using this
theorem lin_ok {gs : List GraphD} (h : checkB gs true = true) (hs : GsSmall gs) {g : GraphD} (hg : g ∈ gs) : NsOk g.nodes /\ 0 <= g.entry /\ g.entry < g.nodes.length :=
 ⟨⟨(head_par (check_each h hg).1).2.2.2, fun x hx => node_next ((check_each h hg).2 x hx), fun x hx => (hs.each g hg).2.2.2.2 x hx⟩, head_entry (check_each h hg).1⟩
def LinRel (w : World) (R P U : Nat) (gsv : Value) (gs : List GraphD) (j : Nat) (wr : World) : Prop :=
 ∃ (css : List (List Value)) (pv : Value), wr.ownsRow w.heap.size 48 8 pv j css.flatten /\ GsOwn wr w.heap.size css ((gs.take j).map lineG) /\ Blk wr U 24 #[pv] /\ Blk wr R 24 #[.slice none 0 0] /\ Blk wr P 24 #[gsv] /\ Below w.heap.size w wr
theorem GraphOwn.forms {w : World} {base : Nat} {g : GraphD} {pv kv iv nv : Value} (h : GraphOwn w base (gcells g pv kv iv nv) g) : ∃ PA pc KA kc IA ic NA nc, pv = .slice PA g.params.length pc /\ kv = .slice KA g.kinds.length kc /\ iv = .slice IA g.init.length ic /\ nv = .slice NA g.nodes.length nc := by
 obtain ⟨pv', kv', iv', nv', he, h1, h2, h3, css, _, h4, _⟩ := h;unfold gcells at he;injection he with e1 he;injection he with e2 he;injection he with _ he;injection he with e3 he;injection he with _ he;injection he with _ he;injection he with e4 _;subst e1 e2 e3 e4;obtain ⟨PA, pc, e1, _⟩ := own_any h1;obtain ⟨KA, kc, e2, _⟩ := own_any h2;obtain ⟨IA, ic, e3, _⟩ := own_any h3;obtain ⟨NA, nc, e4, _⟩ := own_any h4;exact ⟨PA, pc, KA, kc, IA, ic, NA, nc, e1, e2, e3, e4⟩
theorem linear_any {w : World} {B : Nat} {gsv : Value} {gs : List GraphD} (h : GraphsAt w B gsv gs) (hB : B <= w.heap.size) (hs : GsSmall gs) :
  Calls Try.prog 6 #[.agg #[gsv]] w fun e w' => LinPost gs w e w' := by
 obtain ⟨P, hP⟩ := nm (w.heap.size);obtain ⟨R, hR⟩ := nm (w.heap.size + 1);obtain ⟨w2, hw2⟩ := nm ((w.alloc (.cells #[gsv] 24)).alloc (.cells #[.slice none 0 0] 24))
 have hP2 : Blk w2 P 24 #[gsv] := by rw [hw2, hP]; exact (Blk.new w _ _).alloc _
 have hR2 : Blk w2 R 24 #[.slice none 0 0] := by rw [hw2, hR]; exact Blk.new2 w _ _ _
 have hb2 : Below w.heap.size w w2 := by rw [hw2]; exact ((Below.refl _ _).alloc (Nat.le_refl _) _).alloc (by simp) _
 have hA2 := h.below (hb2.mono hB);have hsz2 := hb2.size;have hchk := check_any hA2 (by omega) ⟨fun g hg => (hs.each g hg).2.1, fun g hg x hx => by have := (hs.each g hg).2.2.2.2 x hx; omega⟩ true;obtain ⟨GA, gc, rfl, hgc1, hgc2⟩ := hA2.slice;obtain ⟨Z, hZ⟩ := mn (gs.length);obtain ⟨iG, hiG, nz0, nz1, nz2⟩ := info_parts infoGraph;rw [hZ] at hP2 hchk hA2 hgc1 h;rw [hZ] at hw2 ⊢;have kp0 := bc hP2 0;have kr0 := bc hR2 0;have fr0 := Blk.frozen hR2 0;obtain ⟨HP2, HR2, Hb2, HA2, HZ, Hs, H, Hw2⟩ := hd8 hP2 hR2 hb2 hA2 hZ hs h hw2;have Hchk := Lib.hid hchk;clear hchk hw2 h hs hZ hA2 hb2 hR2 hP2;go_enter Try.func6, Try.ntmps6;go_upto_region 1 with fail;rw [<- Hw2.out, <- hR, <- hP];obtain ⟨HPe, HRe⟩ := hd2 hP hR;clear hR hP;go_wp2_with fail;refine Hchk.out.mono ?_;rintro e w3 ⟨rfl, hb23⟩;have hP3 := HP2.out.below hb23 HP2.out.lt;have hR3 := HR2.out.below hb23 HR2.out.lt;have hb3 := Hb2.out.trans (hb23.mono (by omega));have hA3 := HA2.out.below (hb23.mono (by omega));have hsz3 := hb3.size;clear kp0 kr0 fr0;have kp0 := bc hP3 0;have kr0 := bc hR3 0;have fr0 := Blk.frozen hR3 0
 by_cases hc : checkB gs true = true
 case neg =>
  rw [if_neg hc];have hR4 := hR3.set_ 0 (.slice none 0 0);simp only [List.setIfInBounds_toArray, List.set_cons_zero] at hR4
  have hpost : LinPost gs w (.returned (.tuple #[.agg #[.slice none 0 0], .int .i64 70])) (w3.setCell ⟨R, 0, none⟩ (.slice none 0 0)) := by
   refine ⟨hb3.setCell (p := ⟨R, 0, none⟩) (by rw [HRe.out]; simp) _, .inl ?_⟩;unfold linErr;rw [if_neg hc];exact ⟨by decide, rfl⟩
  obtain ⟨HP3, HR3, Hb3, HA3, Hb23, HR4, Hpost, Hc⟩ := hd8 hP3 hR3 hb3 hA3 hb23 hR4 hpost hc;clear hc hpost hR4 hb23 hA3 hb3 hR3 hP3;go_wp2_with fail;refine bodyPost_ret (results_row_tmp rfl _ _ R 24 _ (0, 0) _ rfl HR4.out Try.underlying24 (by kernel_rfl)) rfl ?_;exact Hpost.out
 case pos =>
  rw [if_pos hc];have hZ16 := (check_len hc).2;rw [HZ.out] at hZ16;obtain ⟨U, hU⟩ := nm (w3.heap.size)
  have hrel0 : LinRel w R P U (.slice GA Z gc) gs 0 (w3.alloc (.cells #[.slice none 0 0] 24)) := by
   refine ⟨[], .slice none 0 0, World.ownsRow_nil _ _ _ _, GsOwn.nil _ _, by rw [hU]; exact Blk.new _ _ _, hR3.alloc _, hP3.alloc _, hb3.alloc (by omega) _⟩
  have hP4 := hP3.alloc (.cells #[.slice none 0 0] 24);clear kp0 kr0 fr0;have kp0 := bc hP4 0
  have hUw : w.heap.size <= U := by omega
  obtain ⟨HP3, HR3, Hb3, HA3, Hb23, Hc, Hrel0, HP4⟩ := hd8 hP3 hR3 hb3 hA3 hb23 hc hrel0 hP4;clear hP4 hrel0 hc hb23 hA3 hb3 hR3 hP3;go_wp2_with fail;rw [<- hU];have HU := Lib.hid hU;clear hU
  go_loopg [17] Z (fun gk iv wr => ∃ j : Nat, j + gk = Z /\ iv = .int .i64 j /\ Hid (LinRel w R P U (.slice GA Z gc) gs j wr) /\ Hid (∀ g ∈ gs.take j, ¬ 4096 < (lineG g).nodes.length))
  case atStart => exact ⟨0, by omega, rfl, Hrel0, Lib.hid (by simp)⟩
  case round =>
   obtain ⟨j, hj, rfl, hrj, hno⟩ := hrel;clear kp0;obtain ⟨css, pv, hown, hgs, hUj, hRj, hPj, hbj⟩ := hrj.out;have hszj := hbj.size;have kp0 := bc hPj 0
   by_cases hjZ : j < Z
   ·obtain ⟨g, hg⟩ : ∃ g, gs[j]? = some g := ⟨_, List.getElem?_eq_getElem (by rw [HZ.out]; exact hjZ)⟩
    have hgm : g ∈ gs := List.mem_of_getElem? hg;obtain ⟨ad, pv0, kv0, iv0, nv0, hGA, _, hM⟩ := (H.out.below (hbj.mono hB)).at_ hg;subst hGA;obtain ⟨k1, k2, k3⟩ := lin_ok Hc.out Hs.out hgm;have hsm := Hs.out.each g hgm;have hline := line_any hM (by omega) k1 ⟨k2, k3⟩ hsm.1 hsm.2.1 hsm.2.2.1;obtain ⟨Hown, Hgs, HUj, HRj, HPj, Hbj, Hg, Hgm⟩ := hd8 hown hgs hUj hRj hPj hbj hg hgm;obtain ⟨HM, Hk1, Hk2, Hk3, Hsm, Hline⟩ := hd6 hM k1 k2 k3 hsm hline;clear hline hsm k3 k2 k1 hM hgm hg hbj hPj hRj hUj hgs hown;go_wp2_with fail;refine Hline.out.mono ?_;rintro e w5 ⟨pv5, kv5, iv5, nv5, rfl, hgo, hb5⟩;obtain ⟨PA, pc, KA, kc, IA, ic, NA, nc, rfl, rfl, rfl, rfl⟩ := hgo.forms;obtain ⟨X, hX⟩ := nm (w5.heap.size);obtain ⟨lg, hlg⟩ := mn (lineG g);rw [hlg] at hgo ⊢;obtain ⟨nl, hnl⟩ := mn (lg.nodes.length);obtain ⟨pl, hpl⟩ := mn (lg.params.length);obtain ⟨kl, hkl⟩ := mn (lg.kinds.length);obtain ⟨il, hil⟩ := mn (lg.init.length);rw [hnl, hpl, hkl, hil] at hgo ⊢;have hb5w := Hbj.out.trans (hb5.mono hszj);have hsz5 := hb5.size;have hU6 := (HUj.out.below hb5 HUj.out.lt).alloc (.cells (gcells lg (.slice PA pl pc) (.slice KA kl kc) (.slice IA il ic) (.slice NA nl nc)).toArray 48);have hR6 := (HRj.out.below hb5 HRj.out.lt).alloc (.cells (gcells lg (.slice PA pl pc) (.slice KA kl kc) (.slice IA il ic) (.slice NA nl nc)).toArray 48);have hP6 := (HPj.out.below hb5 HPj.out.lt).alloc (.cells (gcells lg (.slice PA pl pc) (.slice KA kl kc) (.slice IA il ic) (.slice NA nl nc)).toArray 48);have hX6 := Blk.new w5 48 (gcells lg (.slice PA pl pc) (.slice KA kl kc) (.slice IA il ic) (.slice NA nl nc)).toArray;have hb6 := hb5w.alloc (by omega) (.cells (gcells lg (.slice PA pl pc) (.slice KA kl kc) (.slice IA il ic) (.slice NA nl nc)).toArray 48);have hg5 := (only_of_below hb5 none).trans (World.grownBy_alloc w5 (.cells (gcells lg (.slice PA pl pc) (.slice KA kl kc) (.slice IA il ic) (.slice NA nl nc)).toArray 48) none);have hown6 := own_kept' Hown.out hg5 nofun;have hgs6 := Hgs.out.kept hg5 (Far.none_ _);have hgo6 := hgo.kept (World.grownBy_alloc w5 (.cells (gcells lg (.slice PA pl pc) (.slice KA kl kc) (.slice IA il ic) (.slice NA nl nc)).toArray 48) none) (Far.none_ _);obtain ⟨w6, hw6⟩ := nm (w5.alloc (.cells (gcells lg (.slice PA pl pc) (.slice KA kl kc) (.slice IA il ic) (.slice NA nl nc)).toArray 48));rw [<- hw6] at hU6 hR6 hP6 hX6 hb6 hg5 hown6 hgs6 hgo6;rw [<- hX] at hX6;simp only [gcells] at hw6 hX6 ⊢;have kx0 := bc hX6 0;have kx1 := bc hX6 1;have kx2 := bc hX6 2;have kx3 := bc hX6 3;have kx4 := bc hX6 4;have kx5 := bc hX6 5;have kx6 := bc hX6 6;have kx7 := bc hX6 7;have ku0 := bc hU6 0;have kr0 := bc hR6 0;have fr0 := Blk.frozen hR6 0;have fu0 := Blk.frozen hU6 0;obtain ⟨PV, pvc, hpv, hpvc1, hpvc2, _⟩ := own_any hown6;obtain ⟨Hgo, Hlg, Hnl, Hpl, Hkl, Hil, Hb5w, HU6⟩ := hd8 hgo hlg hnl hpl hkl hil hb5w hU6;obtain ⟨HR6, HP6, HX6, Hb6, Hg5, Hown6, Hgs6, Hgo6⟩ := hd8 hR6 hP6 hX6 hb6 hg5 hown6 hgs6 hgo6;obtain ⟨Hw6, Hb5, HX⟩ := hd3 hw6 hb5 hX;clear hX hb5 hw6 hgo6 hgs6 hown6 hg5 hb6 hX6 hP6 hR6 hU6 hb5w hil hkl hpl hnl hlg hgo
    by_cases ho : 4096 < nl
    ·have hover : linErr gs = 31 := by
      unfold linErr;rw [if_pos Hc.out, if_pos];unfold linOver;rw [List.any_eq_true];refine ⟨g, Hgm.out, ?_⟩;rw [Hlg.out, Hnl.out];exact decide_eq_true ho
     have hoz : (4096 : Int) < nl := by omega
     have hR7 := HR6.out.set_ 0 (.slice none 0 0);simp only [List.setIfInBounds_toArray, List.set_cons_zero] at hR7
     have hpost : LinPost gs w (.returned (.tuple #[.agg #[.slice none 0 0], .int .i64 31])) (w6.setCell ⟨R, 0, none⟩ (.slice none 0 0)) := by
      refine ⟨Hb6.out.setCell (p := ⟨R, 0, none⟩) (by rw [HRe.out]; simp) _, .inl ?_⟩;rw [hover];exact ⟨by decide, rfl⟩
     obtain ⟨HR7, Hpost, Hover⟩ := hd3 hR7 hpost hover;clear hover hpost hR7;go_upto_region 9 with fail;rw [<- HX.out, <- Hw6.out];go_wp2_with fail;refine bodyPost_ret (results_row_tmp rfl _ _ R 24 _ (0, 0) _ rfl HR7.out Try.underlying24 (by kernel_rfl)) rfl ?_;exact Hpost.out
    ·have hoz : ¬ (4096 : Int) < nl := by omega
     subst hpv;go_upto_region 9 with fail;rw [<- HX.out, <- Hw6.out]
     go_wp2_with (first
      | (at_builtin
         refine wpList_append_any _ rfl (.tmp 31) (.tmp 33) _ rfl w.heap.size 48 iG _ 8 128 Try.underlying22 hiG nz0 nz1 nz2 rfl (by omega) (.slice PV j pvc) j css.flatten rfl (Hown6.out.alloc _) (w6.heap.size + 1) (some ⟨w6.heap.size, 0, none⟩) 1 1 (gcells lg (.slice PA pl pc) (.slice KA kl kc) (.slice IA il ic) (.slice NA nl nc)) rfl (Reads.newS _ rfl _ _ _ _ _ rfl rfl) ?c1 ?c2 ?c3 ?c4 ?_
         case c1 => intro u hu; simp only [gcells, List.mem_cons, List.not_mem_nil, or_false] at hu; rcases hu with rfl | rfl | rfl | rfl | rfl | rfl | rfl | rfl <;> rfl
         case c2 => simp only [maxLen]; omega
         case c3 => omega
         case c4 => have := Hb6.out.size; simp; omega
         intro v8 w8 hown8 hg8 hat8;obtain ⟨A8, x8, rfl, _⟩ := own_any hown8;have hU8 := (HU6.out.alloc _).grown hg8 (fun e => own_blk_ne Hown6.out HU6.out (by decide) e.symm);have k80 := Blk.cell hU8 0;have f80 := Blk.frozen hU8 0;simp only [List.getElem?_toArray, List.getElem?_cons_zero] at k80;have Hown8 := Lib.hid hown8;have Hg8 := Lib.hid hg8;have HU8 := Lib.hid hU8
         clear hU8 hat8 hg8 hown8))
     have hg68 : w6.grownBy w8 (Value.slice PV j pvc).ownBlock := (World.grownBy_alloc w6 _ _).trans Hg8.out
     have hfar : Far w6 (Value.slice PV j pvc).ownBlock := fun b e => by
      obtain ⟨cs', h'⟩ := own_blk Hown6.out e;exact .inr ⟨_, cs', h', by decide, by decide, by decide⟩
     have hfU : Far w8 (some U) := Far.blk HU8.out (by decide) (by decide) (by decide);have hgsU := grown_setCell w8 ⟨U, 0, none⟩ (.slice A8 (j + 1) x8)
     have hnPR : some R ≠ (Value.slice PV j pvc).ownBlock := fun e => own_blk_ne Hown6.out HR6.out (by decide) e.symm
     have hnPP : some P ≠ (Value.slice PV j pvc).ownBlock := fun e => own_blk_ne Hown6.out HP6.out (by decide) e.symm
     have hRU : R ≠ U := by rw [HRe.out, HU.out]; have := HR3.out.lt; have := HRe.out; omega
     have hPU : P ≠ U := by rw [HPe.out, HU.out]; have := HP3.out.lt; have := HPe.out; omega
     have hU9 := HU8.out.set_ 0 (.slice A8 (j + 1) x8);simp only [List.setIfInBounds_toArray, List.set_cons_zero] at hU9;have hR9 := (HR6.out.grown hg68 hnPR).far (p := ⟨U, 0, none⟩) hRU (.slice A8 (j + 1) x8);have hP9 := (HP6.out.grown hg68 hnPP).far (p := ⟨U, 0, none⟩) hPU (.slice A8 (j + 1) x8);have hb8 := Hb6.out.grown hg68 (by have := Hb6.out.size; omega) (fun k e => (Hown6.out.lt k e).1);have hb9 := hb8.setCell (p := ⟨U, 0, none⟩) hUw (.slice A8 (j + 1) x8);have hown9 := ownsRow_setCell_other Hown8.out (a := ⟨U, 0, none⟩) (own_blk_ne Hown8.out HU8.out (by decide)) (.slice A8 (j + 1) x8);have hgs9 := (Hgs6.out.kept hg68 hfar).kept hgsU hfU;have hgo9 := ((Hgo6.out.base hszj).kept hg68 hfar).kept hgsU hfU
     have htk : (gs.take (j + 1)).map lineG = (gs.take j).map lineG ++ [lg] := by
      rw [List.take_add_one, Hg.out, List.map_append, <- Hlg.out]; rfl
     have hrel9 : LinRel w R P U (.slice (some ad) Z gc) gs (j + 1) (w8.setCell ⟨U, 0, none⟩ (.slice A8 (j + 1) x8)) := by
      refine ⟨css ++ [gcells lg (.slice PA pl pc) (.slice KA kl kc) (.slice IA il ic) (.slice NA nl nc)], .slice A8 (j + 1) x8, ?_, ?_, hU9, hR9, hP9, hb9⟩
      ·rw [List.flatten_append]; simpa using hown9
      ·rw [htk]; exact hgs9.snoc hgo9
     have hno9 : ∀ g ∈ gs.take (j + 1), ¬ 4096 < (lineG g).nodes.length := by
      intro g' hg';rw [List.take_add_one, Hg.out] at hg'
      rcases List.mem_append.1 hg' with h' | h'
      ·exact hno.out g' h'
      ·have e : g' = g := by simpa using h'
       rw [e, Hlg.out, Hnl.out]; exact ho
     obtain ⟨Hrel9, Hno9⟩ := hd2 hrel9 hno9;clear hno9 hrel9
     go_roundg (gk - 1)
     case measure => omega
     case rel => exact ⟨j + 1, by omega, by simp, Hrel9, Hno9⟩
   ·obtain rfl : j = Z := by omega
    have herr : linErr gs = 0 := by
     unfold linErr;rw [if_pos Hc.out, if_neg];intro h0;unfold linOver at h0;rw [List.any_eq_true] at h0;obtain ⟨g, h1, h2⟩ := h0;refine hno.out g ?_ (of_decide_eq_true h2);rw [<- HZ.out, List.take_length]; exact h1
    have hR4 := hRj.set_ 0 pv;simp only [List.setIfInBounds_toArray, List.set_cons_zero] at hR4;have hfR : Far wr (some R) := Far.blk hRj (by decide) (by decide) (by decide)
    have hpost : LinPost gs w (.returned (.tuple #[.agg #[pv], .int .i64 0])) (wr.setCell ⟨R, 0, none⟩ pv) := by
     refine ⟨hbj.setCell (p := ⟨R, 0, none⟩) (by rw [HRe.out]; simp) _, .inr ⟨herr, pv, css, rfl, ?_, ?_⟩⟩
     ·rw [HZ.out];exact ownsRow_setCell_other hown (a := ⟨R, 0, none⟩) (own_blk_ne hown hRj (by decide)) pv
     ·have h1 := hgs.kept (grown_setCell wr ⟨R, 0, none⟩ pv) hfR;rw [<- HZ.out, List.take_length] at h1;exact h1
    have ku0 := bc hUj 0;have kr0 := bc hRj 0;have fr0 := Blk.frozen hRj 0;obtain ⟨PV, pvc, hpv, _⟩ := own_any hown;subst hpv;obtain ⟨Hown, Hgs, HUj, HRj, HPj, Hbj, Herr, HR4⟩ := hd8 hown hgs hUj hRj hPj hbj herr hR4;obtain ⟨HfR, Hpost⟩ := hd2 hfR hpost;clear hpost hfR hR4 herr hbj hPj hRj hUj hgs hown;go_wp2_with fail;refine bodyPost_ret (results_row_tmp rfl _ _ R 24 _ (0, 0) _ rfl HR4.out Try.underlying24 (by kernel_rfl)) rfl ?_;exact Hpost.out
end Go.Proofs.Ytncpehhfjkncoaa
namespace Go.Proofs.Ytncpehhfjkncoaa

/-- two frames alike, but for where they are -/
structure Like (x y : FrD) : Prop where
 f : y.f = x.f
 why : y.why = x.why
 places : y.places = x.places
 cells : y.cells = x.cells
 waits : y.waits = x.waits
 ends : y.ends = x.ends
 ret : y.ret = x.ret
 kept : y.kept = x.kept
def lsOf (gs : List GraphD) (f : Int) : LS := lineS (gAt gs f).nodes (gAt gs f).entry.toNat
def nsOf (gs : List GraphD) (f : Int) : List NodeD := (gAt gs f).nodes
/-- where the two are, between nodes -/
def AtTop (gs : List GraphD) (x y : FrD) : Prop := ∃ i c : Nat, x.at_ = i /\ y.at_ = c /\ i < (nsOf gs x.f).length /\
 ((lsOf gs x.f).at_ (thru (nsOf gs x.f) i) = some c ∨ ((lsOf gs x.f).out[c]? = some (nopD (thru (nsOf gs x.f) i)) /\ ((lsOf gs x.f).at_ (thru (nsOf gs x.f) i)).isSome))
/-- where the two are, at a call -/
def AtCall (gs : List GraphD) (x y : FrD) : Prop := ∃ i c : Nat, x.at_ = i /\ y.at_ = c /\ i < (nsOf gs x.f).length /\ (lsOf gs x.f).at_ i = some c /\ (nd (nsOf gs x.f) i).op = 11
/-- k: why the frame above was called; -1: there is none -/
def AtK (gs : List GraphD) (k : Int) (x y : FrD) : Prop := if k = -1 then x.ends = true ∨ AtTop gs x y else if k = 0 then AtCall gs x y else if k = 1 then x.ends = true else True
/-- its function and those that wait are there -/
def FrIn (gs : List GraphD) (x : FrD) : Prop := (0 <= x.f /\ x.f < gs.length) /\ ∀ d ∈ x.waits, 0 <= d.1 /\ d.1 < gs.length
def Rows2 (gs : List GraphD) : Int -> List FrD -> List FrD -> Prop
 | _, [], [] => True
 | k, x :: r, y :: s => Like x y /\ FrIn gs x /\ (x.why = 0 ∨ x.why = 1 ∨ x.why = 2) /\ AtK gs k x y /\ Rows2 gs x.why r s
 | _, _, _ => False
structure Sim (gs : List GraphD) (k : Int) (R S : RunD) : Prop where
 regs : S.regs = R.regs
 row : Rows2 gs k R.row S.row
 list : S.list = R.list
 tape : S.tape = R.tape
 events : S.events = R.events
 endK : S.endK = R.endK
 endV : S.endV = R.endV
 depth : S.depth = R.depth
 defers : S.defers = R.defers
 panics : S.panics = R.panics
section
variable {gs : List GraphD} {k : Int} {R S : RunD}
theorem Rows2.len : ∀ {k : Int} {r s : List FrD}, Rows2 gs k r s -> s.length = r.length
 | _, [], [], _ => rfl
 | _, _ :: _, _ :: _, h => by rw [List.length_cons, List.length_cons, h.2.2.2.2.len]
theorem Rows2.waits : ∀ {k : Int} {r s : List FrD}, Rows2 gs k r s -> s.map (fun x => x.waits.length) = r.map (fun x => x.waits.length)
 | _, [], [], _ => rfl
 | _, x :: _, y :: _, h => by rw [List.map_cons, List.map_cons, h.2.2.2.2.waits, h.1.waits]
theorem Rows2.getC : ∀ {k : Int} {r s : List FrD} (i : Nat), Rows2 gs k r s -> (s.getD i frZ).cells = (r.getD i frZ).cells
 | _, [], [], _, _ => rfl
 | _, x :: r, y :: s, 0, h => h.1.cells
 | _, x :: r, y :: s, i + 1, h => by
  have := h.2.2.2.2.getC i
  simpa using this
theorem Rows2.weak : ∀ {k : Int} {r s : List FrD}, Rows2 gs k r s -> Rows2 gs 2 r s
 | _, [], [], h => h
 | _, x :: r, y :: s, h => ⟨h.1, h.2.1, h.2.2.1, by unfold AtK; simp, h.2.2.2.2⟩
theorem Rows2.setC (c : Nat) (v : Int) : ∀ {k : Int} {r s : List FrD} (i : Nat), Rows2 gs k r s -> Rows2 gs k (r.modify i fun x => { x with cells := x.cells.set c v }) (s.modify i fun x => { x with cells := x.cells.set c v })
 | _, [], [], i, h => by simpa using h
 | k, x :: r, y :: s, 0, h => by
  refine ⟨⟨h.1.f, h.1.why, h.1.places, ?_, h.1.waits, h.1.ends, h.1.ret, h.1.kept⟩, h.2.1, h.2.2.1, h.2.2.2.1, h.2.2.2.2⟩;show y.cells.set c v = x.cells.set c v;rw [h.1.cells]
 | k, x :: r, y :: s, i + 1, h => ⟨h.1, h.2.1, h.2.2.1, h.2.2.2.1, Rows2.setC c v i h.2.2.2.2⟩
theorem Sim.weak (h : Sim gs k R S) : Sim gs 2 R S := { h with row := h.row.weak }
theorem Sim.len (h : Sim gs k R S) : S.row.length = R.row.length := h.row.len
/-- the last frames -/
theorem Sim.cases (h : Sim gs k R S) (hne : R.row ≠ []) : ∃ x r y s, R.row = x :: r /\ S.row = y :: s /\ Like x y /\ FrIn gs x /\ (x.why = 0 ∨ x.why = 1 ∨ x.why = 2) /\ AtK gs k x y /\ Rows2 gs x.why r s := by
 have hr := h.row
 rcases hx : R.row with _ | ⟨x, r⟩
 ·exact absurd hx hne
 ·rcases hy : S.row with _ | ⟨y, s⟩
  ·rw [hx, hy] at hr; exact hr.elim
  ·rw [hx, hy] at hr;exact ⟨x, r, y, s, rfl, rfl, hr.1, hr.2.1, hr.2.2.1, hr.2.2.2.1, hr.2.2.2.2⟩
theorem Sim.like (h : Sim gs k R S) : Like R.top S.top := by
 unfold RunD.top
 by_cases hne : R.row = []
 ·have := h.len;rw [hne] at this;rw [hne, List.eq_nil_of_length_eq_zero this];exact ⟨rfl, rfl, rfl, rfl, rfl, rfl, rfl, rfl⟩
 ·obtain ⟨x, r, y, s, h1, h2, h3, _⟩ := h.cases hne;rw [h1, h2];exact h3
theorem Sim.get (h : Sim gs k R S) (p : Int) : S.get p = R.get p := by
 unfold RunD.get;rw [h.regs, h.like.places]
theorem Sim.args (h : Sim gs k R S) {n m : NodeD} (hn : m.args = n.args) : S.args m = R.args n := by
 unfold RunD.args;rw [hn]
 exact List.map_congr_left fun p _ => h.get p
theorem Sim.last (h : Sim gs k R S) : S.last = R.last := by unfold RunD.last; rw [h.list]
/-- the last frames turned alike -/
theorem Sim.setTop (h : Sim gs k R S) (hne : R.row ≠ []) {x' y' : FrD} (hl : Like x' y') (hf : x'.f = R.top.f) (hw : x'.why = R.top.why) (hwt : ∀ d ∈ x'.waits, 0 <= d.1 /\ d.1 < gs.length) {k' : Int} (hk : AtK gs k' x' y') : Sim gs k' (R.setTop x') (S.setTop y') := by
 obtain ⟨x, r, y, s, h1, h2, h3, h4, h5, h6, h7⟩ := h.cases hne
 have hx : R.top = x := by unfold RunD.top; rw [h1]; rfl
 rw [hx] at hf hw;refine { h with row := ?_ };show Rows2 gs k' (x' :: R.row.tail) (y' :: S.row.tail);rw [h1, h2];exact ⟨hl, ⟨by rw [hf]; exact h4.1, hwt⟩, by rw [hw]; exact h5, hk, by rw [hw]; exact h7⟩
theorem AtK.turn {x y x' y' : FrD} (h : AtK gs k x y) (hf : x'.f = x.f) (ha : x'.at_ = x.at_) (hb : y'.at_ = y.at_) (he : x.ends = true -> x'.ends = true) : AtK gs k x' y' := by
 unfold AtK at h ⊢
 by_cases q1 : k = -1
 ·rw [if_pos q1] at h ⊢
  rcases h with h | h
  ·exact .inl (he h)
  ·refine .inr ?_;unfold AtTop at h ⊢;rw [hf, ha, hb]; exact h
 ·rw [if_neg q1] at h ⊢
  by_cases q2 : k = 0
  ·rw [if_pos q2] at h ⊢;unfold AtCall at h ⊢;rw [hf, ha, hb]; exact h
  ·rw [if_neg q2] at h ⊢
   by_cases q3 : k = 1
   ·rw [if_pos q3] at h ⊢;exact he h
   ·rw [if_neg q3]; trivial
theorem Sim.atK (h : Sim gs k R S) (hne : R.row ≠ []) : AtK gs k R.top S.top := by
 obtain ⟨x, r, y, s, h1, h2, h3, h4, h5, h6, h7⟩ := h.cases hne;unfold RunD.top;rw [h1, h2];exact h6
theorem Sim.frIn (h : Sim gs k R S) (hne : R.row ≠ []) : FrIn gs R.top := by
 obtain ⟨x, r, y, s, h1, h2, h3, h4, h5, h6, h7⟩ := h.cases hne;unfold RunD.top;rw [h1];exact h4
/-- one field of the last frames turned alike -/
theorem Sim.turn (h : Sim gs k R S) (hne : R.row ≠ []) {x' y' : FrD} (hl : Like x' y') (hf : x'.f = R.top.f) (hw : x'.why = R.top.why) (ha : x'.at_ = R.top.at_) (hb : y'.at_ = S.top.at_) (he : R.top.ends = true -> x'.ends = true) (hwt : x'.waits = R.top.waits) : Sim gs k (R.setTop x') (S.setTop y') :=
 h.setTop hne hl hf hw (by rw [hwt]; exact (h.frIn hne).2) ((h.atK hne).turn hf ha hb he)
theorem Sim.set (h : Sim gs k R S) (hne : R.row ≠ []) (p v : Int) : Sim gs k (R.set p v) (S.set p v) := by
 unfold RunD.set
 by_cases h1 : p < 0
 ·rw [if_pos h1, if_pos h1]; exact h
 ·rw [if_neg h1, if_neg h1]
  by_cases h2 : p < 16
  ·rw [if_pos h2, if_pos h2];exact { h with regs := by show S.regs.set _ _ = R.regs.set _ _; rw [h.regs] }
  ·rw [if_neg h2, if_neg h2];have hl := h.like;exact h.turn hne ⟨hl.f, hl.why, by show S.top.places.set _ _ = R.top.places.set _ _; rw [hl.places], hl.cells, hl.waits, hl.ends, hl.ret, hl.kept⟩ rfl rfl rfl rfl id rfl
theorem set_row (R : RunD) (p v : Int) (hne : R.row ≠ []) : (R.set p v).row ≠ [] := by
 unfold RunD.set
 split
 ·exact hne
 ·split
  ·exact hne
  ·unfold RunD.setTop; simp
theorem par_row (g : GraphD) (args : List Int) (hne : R.row ≠ []) : ∀ n, (R.par g args n).row ≠ []
 | 0 => hne
 | n + 1 => by
  unfold RunD.par;dsimp only
  split
  ·unfold RunD.setTop; simp
  ·exact set_row _ _ _ (par_row g args hne n)
theorem Sim.par (h : Sim gs k R S) (hne : R.row ≠ []) {g g' : GraphD} (hp : g'.params = g.params) (hi : g'.init = g.init) (args : List Int) : ∀ n, Sim gs k (R.par g args n) (S.par g' args n)
 | 0 => h
 | n + 1 => by
  have ih := h.par hne hp hi args n;have hr := par_row g args hne n;unfold RunD.par;dsimp only;rw [hp, hi];have hs := ih.set hr (g.params.getD n 0) (args.getD n 0);have hsr := set_row (R.par g args n) (g.params.getD n 0) (args.getD n 0) hr
  split
  ·have hl := hs.like;exact hs.turn hsr ⟨hl.f, hl.why, hl.places, by rw [hl.cells], hl.waits, hl.ends, hl.ret, hl.kept⟩ rfl rfl rfl rfl id rfl
  ·exact hs
end
/-- graphs that may be laid in line -/
def GsL (gs : List GraphD) : Prop := ∀ g ∈ gs, NsOk g.nodes /\ 0 <= g.entry /\ g.entry < g.nodes.length
theorem gAt_in {gs : List GraphD} {f : Int} (h0 : 0 <= f) (h1 : f < gs.length) : gs[f.toNat]? = some (gAt gs f) := by
 have hl : f.toNat < gs.length := by omega
 unfold gAt;rw [List.getD_eq_getElem?_getD, List.getElem?_eq_getElem hl]; rfl
theorem gAt_mem {gs : List GraphD} {f : Int} (h0 : 0 <= f) (h1 : f < gs.length) : gAt gs f ∈ gs := List.mem_of_getElem? (gAt_in h0 h1)
theorem gAt_line {gs : List GraphD} {f : Int} (h0 : 0 <= f) (h1 : f < gs.length) : gAt (gs.map lineG) f = lineG (gAt gs f) := by
 have h := gAt_in h0 h1
 have h2 : (gs.map lineG)[f.toNat]? = some (lineG (gAt gs f)) := by rw [List.getElem?_map, h]; rfl
 show (gs.map lineG).getD f.toNat gZ = _;rw [List.getD_eq_getElem?_getD, h2]; rfl
theorem gAt_same (gs : List GraphD) (f : Int) : (gAt (gs.map lineG) f).result = (gAt gs f).result /\ (gAt (gs.map lineG) f).keep = (gAt gs f).keep /\ (gAt (gs.map lineG) f).params = (gAt gs f).params /\ (gAt (gs.map lineG) f).init = (gAt gs f).init /\ (gAt (gs.map lineG) f).kinds = (gAt gs f).kinds /\ (gAt (gs.map lineG) f).cells = (gAt gs f).cells := by
 unfold gAt;rw [List.getD_eq_getElem?_getD, List.getD_eq_getElem?_getD, List.getElem?_map]
 rcases gs[f.toNat]? with _ | g
 ·exact ⟨rfl, rfl, rfl, rfl, rfl, rfl⟩
 ·exact ⟨rfl, rfl, rfl, rfl, rfl, rfl⟩
section
variable {gs : List GraphD} {k : Int} {R S : RunD}
theorem push_row (f why : Int) (args : List Int) : (R.push gs f args why).row ≠ [] := by
 unfold RunD.push;exact par_row _ _ (by simp) _
theorem top_par (R : RunD) (g : GraphD) (args : List Int) : ∀ n, (R.par g args n).top.ends = R.top.ends /\ (R.par g args n).endK = R.endK /\ ((R.par g args n).row.length = R.row.length ∨ R.row = [])
 | 0 => ⟨rfl, rfl, .inl rfl⟩
 | n + 1 => by
  obtain ⟨h1, h2, h3⟩ := top_par R g args n
  have hs : ∀ (Q : RunD) p v, (Q.set p v).top.ends = Q.top.ends /\ (Q.set p v).endK = Q.endK /\ ((Q.set p v).row.length = Q.row.length ∨ Q.row = []) := fun Q p v => by
   unfold RunD.set
   split
   ·exact ⟨rfl, rfl, .inl rfl⟩
   ·split
    ·exact ⟨rfl, rfl, .inl rfl⟩
    ·refine ⟨rfl, rfl, ?_⟩;unfold RunD.setTop
     rcases Q.row with _ | ⟨x, r⟩
     ·exact .inr rfl
     ·exact .inl rfl
  obtain ⟨q1, q2, q3⟩ := hs (R.par g args n) (g.params.getD n 0) (args.getD n 0);unfold RunD.par;dsimp only
  split
  ·refine ⟨q1.trans h1, q2.trans h2, ?_⟩
   rcases h3 with h3 | h3
   ·rcases q3 with q3 | q3
    ·rcases hr : ((R.par g args n).set (g.params.getD n 0) (args.getD n 0)).row with _ | ⟨x, r⟩
     ·rw [hr] at q3
      right
      rw [<- q3] at h3;exact List.eq_nil_of_length_eq_zero h3.symm
     ·left
      unfold RunD.setTop;rw [hr] at q3 ⊢;rw [<- h3, <- q3]; rfl
    ·right
     rw [q3] at h3;exact List.eq_nil_of_length_eq_zero h3.symm
   ·exact .inr h3
  ·refine ⟨q1.trans h1, q2.trans h2, ?_⟩
   rcases h3 with h3 | h3
   ·rcases q3 with q3 | q3
    ·exact .inl (q3.trans h3)
    ·right
     rw [q3] at h3;exact List.eq_nil_of_length_eq_zero h3.symm
   ·exact .inr h3
/-- between steps: the last frame is not at its end -/
def Up (R : RunD) : Prop := R.endK = 0 -> R.row ≠ [] /\ R.top.ends = false
theorem push_up (f why : Int) (args : List Int) : Up (R.push gs f args why) := fun _ => ⟨push_row f why args, by
 unfold RunD.push
 rw [(top_par _ _ _ _).1]; rfl⟩
theorem Sim.push (hg : GsL gs) {f why : Int} (h : Sim gs why R S) (h0 : 0 <= f) (h1 : f < gs.length) (hw : why = 0 ∨ why = 1 ∨ why = 2) (args : List Int) : Sim gs (-1) (R.push gs f args why) (S.push (gs.map lineG) f args why) := by
 obtain ⟨q1, q2, q3, q4, q5, q6⟩ := gAt_same gs f;unfold RunD.push;rw [q3];refine Sim.par ?_ (by simp) q3 q4 args _;have hgm := gAt_mem h0 h1;obtain ⟨hns, he0, he1⟩ := hg _ hgm;refine { h with row := ⟨⟨rfl, rfl, ?_, ?_, rfl, rfl, rfl, rfl⟩, ⟨⟨h0, h1⟩, nofun⟩, hw, ?_, h.row⟩, depth := ?_ }
 ·show List.replicate _ _ = List.replicate _ _;rw [q5]
 ·show List.replicate _ _ = List.replicate _ _;rw [q6]
 ·unfold AtK;rw [if_pos rfl];refine .inr ⟨(gAt gs f).entry.toNat, 0, ?_, ?_, ?_, ?_⟩
  ·show (gAt gs f).entry = _
   omega
  ·show (gAt (gs.map lineG) f).entry = _;rw [gAt_line h0 h1]; rfl
  ·show (gAt gs f).entry.toNat < (gAt gs f).nodes.length
   omega
  ·exact .inl (line_good hns (entry := (gAt gs f).entry.toNat) (by omega)).entry
 ·show max S.depth _ = max R.depth _;rw [h.depth, h.len]
theorem Sim.next (hg : GsL gs) (h : Sim gs k R S) (hne : R.row ≠ []) {why : Int} (hk : why = 2 ∨ (why = 1 /\ R.top.ends = true)) :
  (R.next gs why = none /\ S.next (gs.map lineG) why = none) ∨ ∃ R' S', R.next gs why = some R' /\ S.next (gs.map lineG) why = some S' /\ Sim gs (-1) R' S' /\ Up R' := by
 unfold RunD.next;have hl := h.like;rw [hl.waits]
 rcases hd : R.top.waits.getLast? with _ | d
 ·exact .inl ⟨rfl, rfl⟩
 ·right
  have hdm : d ∈ R.top.waits := List.mem_of_getLast? hd;obtain ⟨h0, h1⟩ := (h.frIn hne).2 d hdm
  have hat : AtK gs why { R.top with waits := R.top.waits.dropLast } { S.top with waits := R.top.waits.dropLast } := by
   rcases hk with rfl | ⟨rfl, he⟩
   ·unfold AtK;rw [if_neg (by omega), if_neg (by omega), if_neg (by omega)]; trivial
   ·unfold AtK;rw [if_neg (by omega), if_neg (by omega), if_pos rfl];exact he
  have hs := h.setTop hne (x' := { R.top with waits := R.top.waits.dropLast }) (y' := { S.top with waits := R.top.waits.dropLast }) ⟨hl.f, hl.why, hl.places, hl.cells, rfl, hl.ends, hl.ret, hl.kept⟩ rfl rfl (fun e he => (h.frIn hne).2 e (List.dropLast_subset _ he)) hat;exact ⟨_, _, rfl, rfl, Sim.push hg hs h0 h1 (by omega) _, push_up _ _ _⟩
/-- what lies in the line for a node -/
theorem line_at {ns : List NodeD} {entry i c : Nat} (hL : Line ns entry (lineS ns entry)) (h : (lineS ns entry).at_ i = some c) : (lineN ns entry).getD c nodeZ = fixN (lineS ns entry).at_ c (laid ns i) := by
 obtain ⟨_, h2, _⟩ := hL.at_ i c h;unfold lineN;rw [List.getD_eq_getElem?_getD, List.getElem?_mapIdx, h2]; rfl
theorem line_jump {ns : List NodeD} {entry t c : Nat} (h : (lineS ns entry).out[c]? = some (nopD t)) : (lineN ns entry).getD c nodeZ = { nopD t with next := (((lineS ns entry).at_ t).getD 0 : Nat) } := by
 unfold lineN;rw [List.getD_eq_getElem?_getD, List.getElem?_mapIdx, h, Option.map_some, Option.getD_some];unfold fixN;dsimp only;rw [if_pos (show (nopD t).op = 10 from rfl), if_neg (show ¬ (nopD t).op = 9 by show ¬ (10 : Int) = 9; omega)];show _ = _;unfold nopD;dsimp only;rw [Int.toNat_natCast]
/-- a node that is no jump, in the line -/
theorem fix_real {ns : List NodeD} {at_ : Nat -> Option Nat} {i c : Nat} (h10 : (nd ns i).op ≠ 10) : ∃ a b, fixN at_ c (laid ns i) = { nd ns i with next := a, els := b } /\ (nextL (nd ns i) ≠ [] -> a = c + 1) /\ ((nd ns i).op = 9 -> b = ((at_ (el ns i)).getD 0 : Nat)) := by
 rw [laid_not h10];unfold fixN turned
 by_cases h9 : (nd ns i).op = 9
 ·have hn := br_next h9;have hn' : nextL { nd ns i with els := ((thru ns (nd ns i).els.toNat : Nat) : Int) } ≠ [] := br_next h9;simp only [if_pos h9];rw [if_neg (by omega), if_neg hn'];refine ⟨c + 1, _, rfl, fun _ => rfl, fun _ => ?_⟩;rw [Int.toNat_natCast]; rfl
 ·simp only [if_neg h9];rw [if_neg h10]
  by_cases hn : nextL (nd ns i) = []
  ·rw [if_pos hn];exact ⟨_, _, rfl, fun h => absurd hn h, fun h => absurd h h9⟩
  ·rw [if_neg hn];exact ⟨_, _, rfl, fun _ => rfl, fun h => absurd h h9⟩
end
end Go.Proofs.Ytncpehhfjkncoaa
