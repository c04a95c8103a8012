/- Part of the proof, named by its texts: EmitW EmFirst EmOut EmSvP. No condition of its own. -/
import Derived.Test.YtnfjjliiajaijaaDoorPfAA
import Derived.Test.YtnfjjliiajaijaaDoorPfAV
import Derived.Laws.ResultCell
set_option linter.unusedVariables false
set_option linter.unusedSimpArgs false
set_option maxRecDepth 100000
set_option maxHeartbeats 16000000
namespace Go.Proofs.YtnfjjliiajaijaaDoor
open Go.RowKit
def zbE (T : zco) (fv sv : Value) (lvs : List Value) (ps : List (Value × Value)) : List It :=
 [.row sv 112 2 T.sites.length (zaC T.sites lvs)] ++ (zaM T.sites lvs ++ ([.row fv 48 6 T.rows.length (zaQ T.rows ps)] ++ zdX T.rows ps))
def zdU (gs : List zad) (w : World) (e : Ending) (w' : World) : Prop :=
 Below w.heap.size w w' /\ ((zbC gs ≠ 0 /\ e = .returned (.tuple #[.agg #[.slice none 0 0, .slice none 0 0, .slice none 0 0], .int .i64 (zbC gs)])) ∨
  (zbC gs = 0 /\ ∃ (bv fv sv : Value) (lvs : List Value) (ps : List (Value × Value)), e = .returned (.tuple #[.agg #[bv, fv, sv], .int .i64 0]) /\ lvs.length = (zav (gs.map zaK)).sites.length /\ ps.length = (zav (gs.map zaK)).rows.length /\
   zaA w' w.heap.size (.row bv 5 1 (8 * (zay (zav (gs.map zaK))).length) (zbd ((zay (zav (gs.map zaK))).flatMap zbo)) :: zbE (zav (gs.map zaK)) fv sv lvs ps)))
theorem zgO (gs : List zad) (h : za3 gs true = false) : zbC gs = 70 := by unfold zbC; rw [if_pos h]
theorem zfI (gs : List zad) (h : za3 gs true = true) (hu : gs.any zcA = true) : zbC gs = 160 := by unfold zbC; rw [if_neg (by rw [h]; simp), if_pos hu]
theorem zfJ (gs : List zad) (h : za3 gs true = true) (hu : gs.any zcA = false) (ho : zbk gs = true) : zbC gs = 31 := by unfold zbC; rw [if_neg (by rw [h]; simp), if_neg (by rw [hu]; simp), if_pos ho]
theorem zfK (gs : List zad) (h : za3 gs true = true) (hu : gs.any zcA = false) (ho : zbk gs = false) (ha : (zay (zav (gs.map zaK))).all zaP = true) (hl : ¬ 1048576 < (zay (zav (gs.map zaK))).length) : zbC gs = 0 := by unfold zbC; rw [if_neg (by rw [h]; simp), if_neg (by rw [hu]; simp), if_neg (by rw [ho]; simp), if_neg (by rintro (h | h); (· rw [ha] at h; cases h); exact hl h)]
theorem zgF {gs : List zad} (h : za3 gs true = true) (hs : zcO gs) (ho : zbk gs = false) (himm : ∀ g ∈ gs, ∀ x ∈ g.nodes, U64 x.imm) : ∀ g' ∈ gs.map zaK, zd1 (gs.map zaK) g' := by
 intro g' hg';obtain ⟨g, hg, rfl⟩ := List.mem_map.1 hg';obtain ⟨hns, he⟩ := zge h hs hg;refine zd1.of (zgd h hs ho) hg' (fun x hx => ?_) (fun x hx => ?_)
 ·rcases zet hns he hx with ⟨n, hn, a, b, rfl⟩ | ⟨a, b, rfl⟩
  ·exact himm g hg n hn
  ·show U64 0;unfold U64; omega
 ·rcases zet hns he hx with ⟨n, hn, a, b, rfl⟩ | ⟨a, b, rfl⟩
  ·exact hns.args n hn
  ·show ([] : List Int).length * 8 <= _;simp
theorem zmY {w : World} {base GB n c k : Nat} {gs : List zad} {g : zad} (h : zaI w base (.slice (some ⟨GB, 0, none⟩) n c) gs) (hk : gs[k]? = some g) : GrF w base GB (k * 8) g := by
 obtain ⟨ad, cs, e, hlt, hkn, hsz, hR, h0, hj⟩ := zaE.at_ h hk;injection e with e;subst e;obtain ⟨pv, kv, iv, nv, rfl, h1, h2, h3, h4⟩ := hR;rw [Addr.add_mid, Nat.zero_add] at h0 hj;refine ⟨hlt, pv, kv, iv, nv, fun j v hv => ?_, h1, h2, h3, h4⟩
 rcases Nat.eq_zero_or_pos j with rfl | hj0
 ·exact h0 v hv
 ·exact hj j v hj0 hv
theorem zhc {w : World} {b1 b2 s1 s2 n1 n2 : Nat} {e1 e2 : TypeId} {v1 v2 : Value} {x1 x2 : List Value} (h1 : w.ownsRow b1 e1 s1 v1 n1 x1) (h2 : w.ownsRow b2 e2 s2 v2 n2 x2) (hne : e1 ≠ e2) : ∀ b, v1.ownBlock = some b -> v2.ownBlock ≠ some b := fun b a1 a2 => by
 obtain ⟨c1, k1⟩ := zci h1 a1;obtain ⟨c2, k2⟩ := zci h2 a2;exact (k1.ne_ k2 hne) rfl
theorem zmx (a1 a2 a3 c1 st fr : It) (LR RI : List It) : ([c1] ++ (LR ++ ([fr] ++ RI))).Sublist (([a1, a2, a3] ++ ([c1] ++ (LR ++ ([st, fr] ++ RI)))) ++ []) := by
 rw [List.append_nil];refine List.Sublist.trans ?_ (List.sublist_append_right [a1, a2, a3] _);refine (List.Sublist.refl [c1]).append ((List.Sublist.refl LR).append ?_);exact (List.sublist_cons_self st [fr]).append (List.Sublist.refl RI)
theorem ziM {w : World} {B : Nat} {gsv : Value} {gs : List zad} (h : zaI w B gsv gs) (hB : B <= w.heap.size) (hs : zcO gs) (himm : ∀ g ∈ gs, ∀ x ∈ g.nodes, U64 x.imm) (ht : TabX w) :
  Calls Tryd.prog 8 #[.agg #[gsv]] w fun e w' => zdU gs w e w' := by
 obtain ⟨P, hP⟩ := nm (w.heap.size);obtain ⟨R, hR⟩ := nm (w.heap.size + 1);obtain ⟨w2, hw2⟩ := nm ((w.alloc (.cells #[gsv] 24)).alloc (.cells #[.slice none 0 0, .slice none 0 0, .slice none 0 0] 33))
 have hP2 : Blk w2 P 24 #[gsv] := by rw [hw2, hP]; exact (Blk.new w _ _).alloc _
 have hR2 : Blk w2 R 33 #[.slice none 0 0, .slice none 0 0, .slice none 0 0] := by rw [hw2, hR]; exact Blk.new2 w _ _ _
 have hb2 : Below w.heap.size w w2 := by rw [hw2]; exact ((Below.refl _ _).alloc (Nat.le_refl _) _).alloc (by simp) _
 have hA2 := h.below (hb2.mono hB);have hsz2 := hb2.size;have hchk := zfL hA2 (by omega) ⟨fun g hg => (hs.each g hg).2.1, fun g hg x hx => by have := (hs.each g hg).2.2.2.2 x hx; omega⟩ true;obtain ⟨GA, gc, rfl, hgc1, hgc2⟩ := hA2.slice;obtain ⟨Z, hZ⟩ := mn (gs.length);rw [hZ] at hP2 hchk hA2 hgc1 h;rw [hZ] at hw2 ⊢;have kp0 := bc hP2 0;have hmm := @run_makeMap Tryd.prog;obtain ⟨HP2, HR2, Hb2, HA2, HZ, Hs, H, Hw2⟩ := hd8 hP2 hR2 hb2 hA2 hZ hs h hw2;obtain ⟨Hchk, Himm, Ht⟩ := hd3 hchk himm ht;clear ht himm hchk hw2 h hs hZ hA2 hb2 hR2 hP2;go_enter Tryd.func8, Tryd.ntmps8;go_upto_region 1 with fail;rw [<- Hw2.out, <- hR, <- hP];obtain ⟨HPe, HRe, Hmm⟩ := hd3 hP hR hmm;clear hmm hR hP;go_wp2_with fail;refine Hchk.out.mono ?_;rintro e w3 ⟨rfl, hb23⟩;have hb3 := Hb2.out.trans (hb23.mono hsz2);have hP3 := HP2.out.below hb23 HP2.out.lt;have hR3 := HR2.out.below hb23 HR2.out.lt;have hsz3 := hb3.size;clear kp0;have kp0 := bc hP3 0;have kr0 := bc hR3 0;have kr1 := bc hR3 1;have kr2 := bc hR3 2;have fr0 := Blk.frozen hR3 0;have fr1 := Blk.frozen hR3 1;have fr2 := Blk.frozen hR3 2
 have hRw : w.heap.size <= R := by rw [HRe.out]; omega
 by_cases hc : za3 gs true = true
 case neg =>
  rw [if_neg hc];have hR4 := ((hR3.set_ 0 (.slice none 0 0)).set_ 1 (.slice none 0 0)).set_ 2 (.slice none 0 0);simp only [List.setIfInBounds_toArray, List.set_cons_zero, List.set_cons_succ] at hR4;have hb4 := ((hb3.setCell (p := ⟨R, 0, none⟩) hRw (.slice none 0 0)).setCell (p := ⟨R, 1, none⟩) hRw (.slice none 0 0)).setCell (p := ⟨R, 2, none⟩) hRw (.slice none 0 0)
  have hcf : za3 gs true = false := by simpa using hc
  have hpost : ∀ W', Below w.heap.size w W' -> zdU gs w (.returned (.tuple #[.agg #[.slice none 0 0, .slice none 0 0, .slice none 0 0], .int .i64 70])) W' := fun W' hb => by
   refine ⟨hb, .inl ?_⟩;rw [zgO gs hcf];exact ⟨by decide, rfl⟩
  obtain ⟨HP3, HR3, Hb3, Hb23, HR4, Hb4, Hpost, Hc⟩ := hd8 hP3 hR3 hb3 hb23 hR4 hb4 hpost hc;have Hcf := Lib.hid hcf;clear hcf hc hpost hb4 hR4 hb23 hb3 hR3 hP3;go_wp2_with fail;refine bodyPost_ret (za5 rfl _ _ R 33 _ (0, 0) _ rfl HR4.out Tryd.underlying33 (by kernel_rfl)) rfl ?_;exact Hpost.out _ Hb4.out
 case pos =>
  rw [if_pos hc];have hZ16 := (zbI hc).2;rw [HZ.out] at hZ16
  have hp4 : ∀ f ∈ gs, f.params.length <= 4 := fun f hf => (zby (zbu hc hf).1).2.1
  obtain ⟨HP3, HR3, Hb3, Hb23, Hc, Hp4⟩ := hd6 hP3 hR3 hb3 hb23 hc hp4;clear hp4 hc hb23 hb3 hR3 hP3;go_wp2_with fail;clear kp0 kr0 kr1 kr2 fr0 fr1 fr2
  go_loopg [23] Z (fun gk iv wr => ∃ j : Nat, j + gk = Z /\ iv = .int .i64 j /\ Hid ((gs.take j).any zcA = false) /\ Hid (Blk wr P 24 #[.slice GA Z gc]) /\ Hid (Blk wr R 33 #[.slice none 0 0, .slice none 0 0, .slice none 0 0]) /\ Hid (Below w.heap.size w wr))
  case atStart => exact ⟨0, by omega, rfl, Lib.hid (by simp), HP3, HR3, Hb3⟩
  case round =>
   obtain ⟨j, hj, rfl, hno, hPj, hRj, hbj⟩ := hrel;have hszj := hbj.out.size
   by_cases hjZ : j < Z
   ·obtain ⟨g, hg⟩ : ∃ g, gs[j]? = some g := ⟨_, List.getElem?_eq_getElem (by rw [HZ.out]; exact hjZ)⟩
    have hgm : g ∈ gs := List.mem_of_getElem? hg;obtain ⟨ad, pv0, kv0, iv0, nv0, hGA, _, hM⟩ := (H.out.below (hbj.out.mono hB)).at_ hg;subst hGA;have hPk := hPj.out;have kp0 := bc hPk 0;have hce := zbu Hc.out hgm;have hus := zk1 (ga := ad.add (j * 8)) (g := g) hM.c6 (hM.nodes.more (by omega) fun cs x h => by obtain ⟨av, h1, h2⟩ := h; exact ⟨av, h1, h2.more (by omega)⟩) (by have := (zby hce.1).2.2.2; omega) (fun x hx => (Hs.out.each g hgm).2.2.2.2 x hx) (fun x hx => by have := (zgy (hce.2 x hx) Hp4.out (zfd Hc.out g hgm).k0).2; omega)
    have hjI : (j : Int) < Z := by omega
    have hsn : (gs.take (j + 1)).any zcA = zcA g := by
     rw [List.take_add_one, hg, Option.toList_some, List.any_append, hno.out]; simp
    obtain ⟨ub, hub⟩ := mn (zcA g);rw [hub] at hus hsn;obtain ⟨Hg, Hgm, HM, HPk, Hce, Hus, Hsn, Hub⟩ := hd8 hg hgm hM hPk hce hus hsn hub;clear hub hsn hus hce hPk hM hgm hg;go_wp2_with fail;refine Hus.out.mono ?_;rintro e w4 ⟨rfl, hb4⟩;have hP5 := hPj.out.below hb4 hPj.out.lt;have hR5 := hRj.out.below hb4 hRj.out.lt;have hb5 := hbj.out.trans (hb4.mono hszj);clear kp0
    cases ub
    case true =>
     have kr0 := bc hR5 0;have kr1 := bc hR5 1;have kr2 := bc hR5 2;have fr0 := Blk.frozen hR5 0;have fr1 := Blk.frozen hR5 1;have fr2 := Blk.frozen hR5 2;have hR4 := ((hR5.set_ 0 (.slice none 0 0)).set_ 1 (.slice none 0 0)).set_ 2 (.slice none 0 0);simp only [List.setIfInBounds_toArray, List.set_cons_zero, List.set_cons_succ] at hR4;have hb6 := ((hb5.setCell (p := ⟨R, 0, none⟩) hRw (.slice none 0 0)).setCell (p := ⟨R, 1, none⟩) hRw (.slice none 0 0)).setCell (p := ⟨R, 2, none⟩) hRw (.slice none 0 0)
     have hpost : ∀ W', Below w.heap.size w W' -> zdU gs w (.returned (.tuple #[.agg #[.slice none 0 0, .slice none 0 0, .slice none 0 0], .int .i64 160])) W' := fun W' hb => by
      refine ⟨hb, .inl ?_⟩;have hu : gs.any zcA = true := List.any_eq_true.2 ⟨g, Hgm.out, Hub.out⟩;rw [zfI gs Hc.out hu];exact ⟨by decide, rfl⟩
     obtain ⟨HP5, HR5, Hb4, Hb5, HR4, Hb6, Hpost⟩ := hd7 hP5 hR5 hb4 hb5 hR4 hb6 hpost;clear hpost hb6 hR4 hb5 hb4 hR5 hP5;go_wp2_with fail;refine bodyPost_ret (za5 rfl _ _ R 33 _ (0, 0) _ rfl HR4.out Tryd.underlying33 (by kernel_rfl)) rfl ?_;exact Hpost.out _ Hb6.out
    case false =>
     obtain ⟨HP5, HR5, Hb4, Hb5⟩ := hd4 hP5 hR5 hb4 hb5;clear hb5 hb4 hR5 hP5;go_wp2_with fail
     go_roundg (gk - 1)
     case measure => omega
     case rel => exact ⟨j + 1, by omega, by simp, Hsn, HP5, HR5, Hb5⟩
   ·obtain rfl : Z = j := by omega
    have hZI : ¬ (Z : Int) < Z := by omega
    rw [List.take_of_length_le (by rw [HZ.out]; exact Nat.le_refl _)] at hno;have hPk := hPj.out;have kp0 := bc hPk 0;have hlin := zjl (w := wr) (H.out.below (hbj.out.mono hB)) (by omega) Hs.out
    have hle : zdH gs = if zbk gs = true then 31 else 0 := by unfold zdH; rw [if_pos Hc.out]
    obtain ⟨le, hle2⟩ := mn (zdH gs);obtain ⟨HPk, Hlin, Hle, Hle2⟩ := hd4 hPk hlin hle hle2;clear hle2 hle hlin hPk;go_wp2_with fail;refine Hlin.out.mono ?_;intro e w6 hpl;unfold zfP at hpl;rw [Hle2.out] at hpl;obtain ⟨hb6, hcase⟩ := hpl
    have hP7 := (hPj.out.below hb6 hPj.out.lt)
    have hR7 := (hRj.out.below hb6 hRj.out.lt)
    have hb7 := hbj.out.trans (hb6.mono hszj)
    have hPw : w.heap.size <= P := by rw [HPe.out]; exact Nat.le_refl _
    have hPR : P ≠ R := by rw [HPe.out, HRe.out]; omega
    clear kp0;have kp0 := bc hP7 0;have fp0 := Blk.frozen hP7 0;have kr0 := bc hR7 0;have kr1 := bc hR7 1;have kr2 := bc hR7 2;have fr0 := Blk.frozen hR7 0;have fr1 := Blk.frozen hR7 1;have fr2 := Blk.frozen hR7 2;have hu0 : gs.any zcA = false := hno.out
    rcases hcase with ⟨hne, rfl⟩ | ⟨hz, pv, css, rfl, hown, hgs⟩
    ·have hov : zbk gs = true := by
      rcases ho : zbk gs with _ | _
      ·exfalso
       have h1 := Hle.out;rw [ho, Hle2.out] at h1;exact hne h1
      ·rfl
     have hl31 : le = 31 := by rw [<- Hle2.out, Hle.out, hov]; rfl
     subst hl31;have hR8 := (((hR7.far (p := ⟨P, 0, none⟩) (Ne.symm hPR) (.slice none 0 0)).set_ 0 (.slice none 0 0)).set_ 1 (.slice none 0 0)).set_ 2 (.slice none 0 0);simp only [List.setIfInBounds_toArray, List.set_cons_zero, List.set_cons_succ] at hR8;have hb8 := (((hb7.setCell (p := ⟨P, 0, none⟩) hPw (.slice none 0 0)).setCell (p := ⟨R, 0, none⟩) hRw (.slice none 0 0)).setCell (p := ⟨R, 1, none⟩) hRw (.slice none 0 0)).setCell (p := ⟨R, 2, none⟩) hRw (.slice none 0 0)
     have hpost : ∀ W', Below w.heap.size w W' -> zdU gs w (.returned (.tuple #[.agg #[.slice none 0 0, .slice none 0 0, .slice none 0 0], .int .i64 31])) W' := fun W' hb => by
      refine ⟨hb, .inl ?_⟩;rw [zfJ gs Hc.out hu0 hov];exact ⟨by decide, rfl⟩
     obtain ⟨HP7, HR7, Hb7, Hb6, HR8, Hb8, Hpost, Hov⟩ := hd8 hP7 hR7 hb7 hb6 hR8 hb8 hpost hov;obtain ⟨Hne, Hu0⟩ := hd2 hne hu0;clear hu0 hne hov hpost hb8 hR8 hb6 hb7 hR7 hP7;go_wp2_with fail;refine bodyPost_ret (za5 rfl _ _ R 33 _ (0, 0) _ rfl HR8.out Tryd.underlying33 (by kernel_rfl)) rfl ?_;exact Hpost.out _ Hb8.out
    ·subst hz
     have hov : zbk gs = false := by
      rcases ho : zbk gs with _ | _
      ·rfl
      ·exfalso
       have h1 := Hle.out;rw [ho, Hle2.out] at h1
       cases h1
     obtain ⟨gsl, hgsl⟩ := mn (gs.map zaK);have hck := zgd Hc.out Hs.out hov;rw [hgsl] at hck hgs
     have hgll : gsl.length = Z := by rw [<- hgsl, List.length_map, HZ.out]
     rw [HZ.out] at hown;have hA6 := hgs.at_ (by rw [hgll]; exact hown);obtain ⟨GB, gvc, hpv, _, _, _, _⟩ := zbn hown (by have := (zbI Hc.out).1; rw [HZ.out] at this; exact this);subst hpv
     have hZ0 : 0 < Z := by have := (zbI Hc.out).1; rw [HZ.out] at this; exact this
     have hP8 := hP7.set_ 0 (.slice (some ⟨GB, 0, none⟩) Z gvc);simp only [List.setIfInBounds_toArray, List.set_cons_zero] at hP8;have hR8 := hR7.far (p := ⟨P, 0, none⟩) (Ne.symm hPR) (.slice (some ⟨GB, 0, none⟩) Z gvc);have hb8 := hb7.setCell (p := ⟨P, 0, none⟩) hPw (.slice (some ⟨GB, 0, none⟩) Z gvc);have hgs8 := hgs.kept (zar w6 ⟨P, 0, none⟩ (.slice (some ⟨GB, 0, none⟩) Z gvc)) (Far.blk hP7 (by decide) (by decide) (by decide));have hown8 := ownsRow_setCell_other hown (a := ⟨P, 0, none⟩) (zaq hown hP7 (by decide)) (.slice (some ⟨GB, 0, none⟩) Z gvc);have hA8 := hgs8.at_ (by rw [hgll]; exact hown8);obtain ⟨w8, hw8⟩ := nm (w6.setCell ⟨P, 0, none⟩ (.slice (some ⟨GB, 0, none⟩) Z gvc));rw [<- hw8] at hP8 hR8 hb8 hA8;obtain ⟨base, hbase⟩ := nm (w8.heap.size)
     have hw6s : w6.heap.size = base := by rw [hbase, hw8]; simp
     have htop := zbZ.made w8;rw [<- hbase] at htop;have hbm := ((Below.refl base w8).alloc (Nat.le_of_eq hbase) (.map #[] 0)).alloc (by rw [hbase]; simp) (.cells #[.slice none 0 0, .slice none 0 0, .map (some base), .slice none 0 0, .slice none 0 0] 67);obtain ⟨w9, hw9⟩ := nm ((w8.alloc (.map #[] 0)).alloc (.cells #[.slice none 0 0, .slice none 0 0, .map (some base), .slice none 0 0, .slice none 0 0] 67));rw [<- hw9] at htop hbm;rw [<- hbase] at hA8
     have hPb : P < base := by rw [hbase]; exact hP8.lt
     have hRb : R < base := by rw [hbase]; exact hR8.lt
     have htb : 1 < base := by have := Ht.out.1; have := hb8.size; rw [<- hbase] at this; omega
     have hput := zmj (htop.alloc (.cells #[.int .u8 13, .int .i64 0, .int .i64 0, .int .i64 0, .int .i32 0, .int .u8 13, .int .i64 0, .int .i64 0, .int .i64 0, .int .i32 1] 71)) (ms := [⟨13, 0, 0, 0, 0⟩, ⟨13, 0, 0, 0, 1⟩]) (m := 2) (c := 2) (zal.newS _ rfl _ _ _ _ _ rfl rfl) rfl (by show 0 + 2 <= _; omega);have hba := hbm.alloc (by have := htop.size; omega) (.cells #[.int .u8 13, .int .i64 0, .int .i64 0, .int .i64 0, .int .i32 0, .int .u8 13, .int .i64 0, .int .i64 0, .int .i64 0, .int .i32 1] 71);have hmm := Hmm.out;obtain ⟨HP7, HR7, Hb7, Hb6, Hov, Hu0, Hgsl, Hck⟩ := hd8 hP7 hR7 hb7 hb6 hov hu0 hgsl hck;obtain ⟨Hgs, Hown, Hgll, HA6, HP8, HR8, Hb8, Hgs8⟩ := hd8 hgs hown hgll hA6 hP8 hR8 hb8 hgs8;obtain ⟨Hown8, HA8, Hw8, Htop, Hbm, Hw9, Hput, Hba⟩ := hd8 hown8 hA8 hw8 htop hbm hw9 hput hba;obtain ⟨HPb', HRb', Hbase, Hw6s⟩ := hd4 hPb hRb hbase hw6s;clear hw6s hbase hRb hPb hba hput hw9 hbm htop hw8 hA8 hown8 hgs8 hb8 hR8 hP8 hA6 hgll hown hgs hck hgsl hu0 hov hb6 hb7 hR7 hP7;go_upto_region 14 with fail;rw [<- Hw8.out, Hw6s.out, <- Hw9.out];clear hmm;go_wp2_with fail;refine Hput.out.mono ?_;rintro e w10 ⟨rfl, ht10, hb10⟩;have hb11 := Hba.out.trans hb10;have hP9 := HP8.out.below hb11 HPb'.out;have kq0 := bc hP9 0;obtain ⟨Ht10, Hb10, Hb11, HP9⟩ := hd4 ht10 hb10 hb11 hP9;clear hP9 hb11 hb10 ht10;go_wp2_with fail;clear kp0 kq0 kr0 kr1 kr2 fp0 fr0 fr1 fr2;have hfn := zgF Hc.out Hs.out Hov.out Himm.out;rw [Hgsl.out] at hfn
     have hsub : ∀ n, ∀ g ∈ gsl.take n, zd1 gsl g := fun n g hg => hfn g (List.mem_of_mem_take hg)
     obtain ⟨Hfn, Hsub⟩ := hd2 hfn hsub;clear hsub hfn
     go_loopg [53] Z (fun gk iv wr => ∃ j : Nat, j + gk = Z /\ iv = .int .i64 j /\ Hid (zbZ wr base (base + 1) (zav (gsl.take j)) []) /\ Hid (Below base w8 wr))
     case atStart => exact ⟨0, by omega, rfl, Ht10, Hb11⟩
     case round =>
      obtain ⟨j, hj, rfl, htj, hbj2⟩ := hrel
      by_cases hjZ : j < Z
      ·obtain ⟨g, hg⟩ : ∃ g, gsl[j]? = some g := ⟨_, List.getElem?_eq_getElem (by rw [Hgll.out]; exact hjZ)⟩
       have hgm : g ∈ gsl := List.mem_of_getElem? hg;have hgok := Hfn.out g hgm;have hPq := HP8.out.below hbj2.out HPb'.out;have kq0 := bc hPq 0
       have hbsz : base <= wr.heap.size := by have := htj.out.size; omega
       have hlay := zib wr base (.slice (some ⟨GB, 0, none⟩) Z gvc) gsl j g (HA8.out.below hbj2.out) hbsz ⟨fun g hg => by have := (Hfn.out g hg).right.k1; omega, fun g hg x hx => by have := (Hfn.out g hg).args x hx; omega⟩ Hck.out hg
       have hjI : (j : Int) < Z := by omega
       have htk : gsl.take (j + 1) = gsl.take j ++ [g] := by rw [List.take_add_one, hg]; rfl
       obtain ⟨Hg, Hgm, Hgok, HPq, Hlay, Htk⟩ := hd6 hg hgm hgok hPq hlay htk;clear htk hlay hPq hgok hgm hg;go_wp2_with fail;refine Hlay.out.mono ?_;rintro e w12 ⟨hb12, v, rfl, ⟨slv, clv, svv, rfl, ho1, ho2, ho3⟩, z0, sv0, cv0, vv0, r0, hve, hap⟩;injection hve with hve;injection hve with hve;injection hve with e0 hve;injection hve with e1 hve;injection hve with e2 hve;injection hve with e3 hve;injection hve with e4 hve;subst e0 e1 e2 e3 e4;clear hve;obtain ⟨SLA, slc, hsl, _⟩ := zak ho1;obtain ⟨CLA, clc, hcl, _⟩ := zak ho2;obtain ⟨SVA, svc, hsvv, _⟩ := zak ho3
       have ho3' : It.At w12 wr.heap.size (zi2 g svv) := by
        show w12.ownsRow wr.heap.size _ 2 svv (zbG g).length (za9 (zbG g));rw [zcJ]; exact ho3
       have ht12 := htj.out.extend3 (x := zjY g slv) (y := zjZ g clv) (z := zi2 g svv) (zah hb12 none) (It.At.lower (x := zjY g slv) ho1 hbsz) (It.At.lower (x := zjZ g clv) ho2 hbsz) (It.At.lower ho3' hbsz) (fun b e => (ho1.lt b e).1) (fun b e => (ho2.lt b e).1) (fun b e => (ho3.lt b e).1) hap (zhc ho1 ho3 (by decide)) (zhc ho2 ho3 (by decide));have hb13 := hbj2.out.trans (hb12.mono hbsz);subst hsl hcl hsvv
       have hnse : (zav (gsl.take (j + 1))) = (zav (gsl.take j)).fn g := by rw [Htk.out, zck]
       have hrow := zcH (gsl.take j);have hsze := zgP (gsl.take j) (Hsub.out j)
       have htl : (gsl.take j).length = j := by rw [List.length_take, Hgll.out]; omega
       rw [htl] at hrow hsze;unfold zco.sz at hsze;obtain ⟨LB, hLB⟩ := nm (w12.heap.size);obtain ⟨w13, hw13⟩ := nm (w12.alloc (.cells #[.int .i64 (zaF g), .slice SLA (zaG g) slc, .slice CLA (zaU g) clc, .slice SVA (zb9 g) svc, .int .i64 (zdB g)] 73));have ht13 := ht12.alloc (.cells #[.int .i64 (zaF g), .slice SLA (zaG g) slc, .slice CLA (zaU g) clc, .slice SVA (zb9 g) svc, .int .i64 (zdB g)] 73);have hb14 := hb13.alloc (by have := ht12.size; omega) (.cells #[.int .i64 (zaF g), .slice SLA (zaG g) slc, .slice CLA (zaU g) clc, .slice SVA (zb9 g) svc, .int .i64 (zdB g)] 73);have hLBb := Blk.new w12 73 #[.int .i64 (zaF g), .slice SLA (zaG g) slc, .slice CLA (zaU g) clc, .slice SVA (zb9 g) svc, .int .i64 (zdB g)];rw [<- hw13] at ht13 hb14 hLBb;rw [<- hLB] at hLBb
       have hTf : ∀ W, Below base w8 W -> TabX W := fun W hW => by
        have hbW : Below w.heap.size w W := Hb8.out.trans (hW.mono (by rw [Hbase.out]; exact Hb8.out.size));exact Ht.out.below hbW Ht.out.1
       have hfc : Calls Tryd.prog 20 #[.pointer (some ⟨base + 1, 0, none⟩), .pointer (some ⟨GB, j * 8, none⟩), .agg #[.int .i64 (zaF g), .slice SLA (zaG g) slc, .slice CLA (zaU g) clc, .slice SVA (zb9 g) svc, .int .i64 (zdB g)]] w13.drew fun e w' => e = .returned (.tuple #[]) /\ zbZ w' base (base + 1) (zav (gsl.take (j + 1))) [] /\ Below base w13.drew w' := by
        have := zig (gs := gsl) ht13.drew (zmY (HA8.out.below hb14.drew) Hg.out) Hgok.out (fun W hW => hTf W (hb14.drew.trans hW)) htb (by omega);rw [hnse];exact this
       have hP13 := HP8.out.below hb14 HPb'.out;have hkP := hP13.cell 0;simp only [List.getElem?_toArray, List.getElem?_cons_zero] at hkP;have kl0 := bc hLBb 0;have kl1 := bc hLBb 1;have kl2 := bc hLBb 2;have kl3 := bc hLBb 3;have kl4 := bc hLBb 4;clear kq0;obtain ⟨Ho1, Ho2, Ho3, Ho3', Ht12, Hb13, Hap, Hnse⟩ := hd8 ho1 ho2 ho3 ho3' ht12 hb13 hap hnse;obtain ⟨Hrow, HLB, Hw13, Ht13, Hb14, HLBb, HTf, Hfc⟩ := hd8 hrow hLB hw13 ht13 hb14 hLBb hTf hfc;obtain ⟨HP13, Hb12⟩ := hd2 hP13 hb12;clear hb12 hP13 hfc hTf hLBb hb14 ht13 hw13 hLB hrow hnse hap hb13 ht12 ho3' ho3 ho2 ho1;go_upto_region 19 with fail;rw [<- Hw13.out, <- HLB.out];refine zbh (S := fun W => W.cell? ⟨P, 0, none⟩ = some (.slice (some ⟨GB, 0, none⟩) Z gvc) /\ W.cell? ⟨LB, 0, none⟩ = some (.int .i64 (zaF g)) /\ W.cell? ⟨LB, 1, none⟩ = some (.slice SLA (zaG g) slc) /\ W.cell? ⟨LB, 2, none⟩ = some (.slice CLA (zaU g) clc) /\ W.cell? ⟨LB, 3, none⟩ = some (.slice SVA (zb9 g) svc) /\ W.cell? ⟨LB, 4, none⟩ = some (.int .i64 (zdB g))) #[false, false, false, false, false, false, true] (by kernel_rfl) ⟨hkP, kl0, kl1, kl2, kl3, kl4⟩ (fun hHeld => ?_);refine zaj 0 ?_;refine zaj 1 ?_;refine zaj 2 ?_;refine zaj 3 ?_;refine zaj 4 ?_;refine zaj 5 ?_;refine zbF (i := 6) (by kernel_rfl) rfl ⟨6, by kernel_rfl, by kernel_rfl⟩ (fun K hK => ?_);go_simp;refine Hfc.out.mono ?_;rintro e w15 ⟨rfl, ht15, hb15⟩;refine hK.out _ _ ?_;clear hK K;refine lay ?_;refine zbY (by kernel_rfl) ?_ _;have hb16 := (Hb14.out.drew).trans hb15;clear hkP kl0 kl1 kl2 kl3 kl4 hHeld;obtain ⟨Ht15, Hb15, Hb16⟩ := hd3 ht15 hb15 hb16;clear hb16 hb15 ht15;go_wp2_with fail
       go_roundg (gk - 1)
       case measure => omega
       case rel => exact ⟨j + 1, by omega, by simp, Ht15, Hb16⟩
      ·obtain rfl : Z = j := by omega
       have hZI2 : ¬ (Z : Int) < Z := by omega
       rw [List.take_of_length_le (by rw [Hgll.out]; exact Nat.le_refl _)] at htj;obtain ⟨T, hT⟩ := mn (zav gsl);rw [hT] at htj;have hinv := zda gsl Hfn.out;have hrows := zcH gsl;have hsze := zgP gsl Hfn.out;rw [hT] at hinv hrows hsze;rw [Hgll.out] at hinv hrows hsze;unfold zco.sz at hsze;have htj2 := htj.out;obtain ⟨cv, stv, fv, sv, Mc, lvs, ps, hl1, hl2, hI⟩ := htj2;obtain ⟨IL, hIL⟩ := mn (zcn (base + 1) T cv stv fv sv Mc lvs ps ++ [])
       have hil0 : IL[0]? = some (.blk (base + 1) 67 #[cv, stv, .map (some Mc), fv, sv]) := by rw [<- hIL]; rfl
       have hil1 : IL[1]? = some (.row cv 71 5 T.code.length (T.code.flatMap zaW)) := by rw [<- hIL]; rfl
       have hil2 : IL[2]? = some (.map Mc T.cn T.calls) := by rw [<- hIL]; rfl
       obtain ⟨si, hsi1, hsi⟩ : ∃ si, si ≠ 1 /\ IL[si]? = some (.row stv 3 1 T.start.length (zd9 T.start)) := by
        refine ⟨4 + (zaM T.sites lvs).length, by omega, ?_⟩;rw [<- hIL];unfold zcn;rw [List.append_nil, List.getElem?_append_right (by simp; omega), List.getElem?_append_right (by simp; omega), List.getElem?_append_right (by simp; omega)];simp only [List.length_cons, List.length_nil];rw [show 4 + (zaM T.sites lvs).length - (0 + 1 + 1 + 1) - (0 + 1) - (zaM T.sites lvs).length = 0 by omega]; rfl
       rw [hIL] at hI;have hlI := (List.getElem?_eq_some_iff.1 hil1).1;obtain ⟨nC, hnC⟩ := mn (T.code.length)
       have hcpos : 0 < nC := by
        have := zkL gsl Hfn.out;rw [hT, hnC] at this
        omega
       rw [hnC] at hil1 hsze;obtain ⟨CB, vc, hcv, _, _, hvc1, hvc2⟩ := zbn (hI.own hil1) hcpos;subst hcv;have hso := hI.own hsi;rw [hrows.2] at hso hsi;obtain ⟨SB, stc, hstv, _, _, _, _⟩ := zbn hso hZ0;subst hstv;obtain ⟨D, hown, hget, hkeys⟩ := hI.imap hil2
       have hstart : ∀ i : Nat, T.calls i ≠ none -> Maps.has D (.int .i64 (i : Int)) = true := fun i hi => by
        rcases h : T.calls i with _ | l
        ·exact absurd h hi
        ·exact ((hget i).1 l h).1
       have hpatR : zcw wr base IL CB nC vc (zcd T.code T.calls (fun f => T.start[f]?) (fun i => Maps.has D (.int .i64 (i : Int)))) := by
        unfold zcw;rw [zen _ _ _ _ hstart]
        have e : IL.set 1 (.row (.slice (some ⟨CB, 0, none⟩) nC vc) 71 5 nC (T.code.flatMap zaW)) = IL := by
         refine List.ext_getElem? fun k => ?_
         rw [List.getElem?_set]
         by_cases hk : 1 = k
         ·subst hk; rw [if_pos rfl, if_pos hlI, hil1]
         ·rw [if_neg hk]
        rw [e]; exact hI
       have hfree : ∀ x ∈ IL, x.block ≠ some wr.heap.size := fun x hx e => by
        have := ((hI.each x hx).lt _ e).2
        omega
       obtain ⟨r, hr⟩ := nm (wr.heap.size)
       have hCBr : CB ≠ r := by
        have := ((hI.at_ hil1).lt CB rfl).2
        omega
       rw [<- hr] at hfree
       have hCBJ : CB ≠ Mc := fun e => hI.apart 2 1 _ _ (by omega) hil2 hil1 Mc rfl (by rw [<- e]; rfl)
       have fJ : wr.cell? ⟨base + 1, 2, none⟩ = some (.map (some Mc)) := (hI.blk hil0).cell 2
       have hbzr : base <= r := by rw [hr]; have := htj.out.size; omega
       obtain ⟨Hinv, Hrows, Hl1, Hl2, HIL, Hil0, Hil1, Hil2⟩ := hd8 hinv hrows hl1 hl2 hIL hil0 hil1 hil2;obtain ⟨Hsi, HI, HlI, HnC, Hcpos, HpatR, Hown, Hget⟩ := hd8 hsi hI hlI hnC hcpos hpatR hown hget;obtain ⟨Hkeys, Hfree, Hr, Hstart, HT, Htj, Hso⟩ := hd7 hkeys hfree hr hstart hT htj hso;clear hso htj hT hstart hr hfree hkeys hget hown hpatR hcpos hnC hlI hI hsi hil2 hil1 hil0 hIL hl2 hl1 hrows hinv;go_wp2_with (first | (at_range; refine wpList_range_own _ rfl _ 64 rfl 3 3 zic Tryd.underlying64 _ Mc _ D rfl Hown.out ?_; intro w18 hrg0 hg0 hs0))
       try go_frame
       rw [<- Hr.out];rw [<- Hr.out] at hrg0;have hb19 : Below base w8 w18 := hbj2.out.trans (Below.grown (Below.refl base wr) hg0 (by have := Htj.out.size; omega) (fun k e => by cases e));have hpat0 := HpatR.out.keep hg0;obtain ⟨Hrg0, Hg0, Hb19, Hpat0⟩ := hd4 hrg0 hg0 hb19 hpat0;clear hpat0 hb19 hg0 hrg0;clear fJ;obtain ⟨w17, hw17⟩ := nm (wr)
       go_loopw [11, 12] (fun _ _ wr => ∃ (left : Lit -> Bool) (cnt : Nat), Hid (wr.ranges Tryd.prog 3 (plainElem Tryd.prog 3) Mc r T.cn D left cnt) /\ Hid (zcw wr base IL CB nC vc (zcd T.code T.calls (fun f => T.start[f]?) (fun i => left (.int .i64 (i : Int))))) /\ Hid (Below base w8 wr)) (fun _ _ wr => wr.rangeLeft Mc r)
       case atStart => exact ⟨Maps.has D, Maps.size D, Hrg0, Hpat0, Hb19⟩
       case round =>
        obtain ⟨left, cnt, hrg, hpt, hbr⟩ := hrel;go_wp2_with (first | (at_next; refine wpList_next_ranges_ii _ rfl _ rfl 3 3 .i64 .i64 zic Tryd.underlying3 Tryd.underlying3 Mc r _ D left cnt rfl hrg.out ?_ ?_))
        ·intro _ hl0
         have hpf : zcw wr base IL CB nC vc (zay T) := by
          have e : (fun i : Nat => left (.int .i64 (i : Int))) = fun _ => false := funext fun i => hl0 _
          unfold zay;rw [<- e]; exact hpt.out
         have e0 : wr.cell? ⟨base + 1, 0, none⟩ = some (.slice (some ⟨CB, 0, none⟩) nC vc) := (hpf.other (i := 0) (by omega) Hil0.out).2.cell 0
         have hImg : zaA wr base (zbE T fv sv lvs ps) := by
          have h1 := hpf;unfold zcw at h1;rw [<- HIL.out] at h1
          have h2 : zaA wr base (zcn (base + 1) { T with code := zay T } (.slice (some ⟨CB, 0, none⟩) nC vc) (.slice (some ⟨SB, 0, none⟩) Z stc) fv sv Mc lvs ps ++ []) := by
           have e2 : nC = (zay T).length := by unfold zay; rw [zbH]; exact HnC.out.symm
           have e3 : zcn (base + 1) { T with code := zay T } (.slice (some ⟨CB, 0, none⟩) nC vc) (.slice (some ⟨SB, 0, none⟩) Z stc) fv sv Mc lvs ps ++ [] = (zcn (base + 1) T (.slice (some ⟨CB, 0, none⟩) nC vc) (.slice (some ⟨SB, 0, none⟩) Z stc) fv sv Mc lvs ps ++ []).set 1 (.row (.slice (some ⟨CB, 0, none⟩) nC vc) 71 5 nC ((zay T).flatMap zaW)) := by
            unfold zcn;rw [List.append_nil, List.append_nil, List.set_append_left _ _ (by simp)];simp only [List.set_cons_succ, List.set_cons_zero];rw [<- e2]
           rw [e3]; exact h1
          exact h2.sub (zmx _ _ _ _ _ _ _ _)
         obtain ⟨FV, fvc, hfv, _⟩ := zak (show wr.ownsRow base 48 6 fv T.rows.length (zaQ T.rows ps) from hImg.each (.row fv 48 6 T.rows.length (zaQ T.rows ps)) (by unfold zbE; simp));obtain ⟨SV, svc, hsvv, _⟩ := zak (show wr.ownsRow base 112 2 sv T.sites.length (zaC T.sites lvs) from hImg.each (.row sv 112 2 T.sites.length (zaC T.sites lvs)) (by unfold zbE; simp));obtain ⟨rn, hrn⟩ := mn (T.rows.length);obtain ⟨sn, hsn⟩ := mn (T.sites.length);rw [hrn] at hfv;rw [hsn] at hsvv;subst hfv hsvv;have hgood := zdo gsl Hfn.out;rw [HT.out] at hgood
         have hcl : (zay T).length = nC := by unfold zay; rw [zbH]; exact HnC.out
         have hEnc := zjx (some ⟨CB, 0, none⟩) nC vc (zay T) wr wr.heap.size (zal.of_own (hpf.row HlI.out)) hcl (by omega) (Nat.le_refl _) (fun i hi => (hgood i hi).1)
         have hall : (zay T).all zaP = true := List.all_eq_true.2 fun i hi => (hgood i hi).2
         have hbe : base <= wr.heap.size := by
          have := ((zaA.at_ hpf (i := 0) (by rw [List.getElem?_set_ne (by omega)]; exact Hil0.out)).lt (base + 1) rfl).2
          omega
         have hb8w := hbr.out;obtain ⟨Hl0, Hpf, Hrg, Hpt, HImg, Hgood, Hcl, HEnc⟩ := hd8 hl0 hpf hrg hpt hImg hgood hcl hEnc;obtain ⟨Hall, Hrn, Hsn⟩ := hd3 hall hrn hsn;clear hsn hrn hall hEnc hcl hgood hImg hpt hrg hpf hl0;go_wp2_with fail;refine HEnc.out.mono ?_;rintro e w20 ⟨hcase, hb20⟩
         rcases hcase with ⟨_, bv, rfl, hbo⟩ | ⟨hbad, _⟩
         case inr => rw [Hall.out] at hbad; cases hbad
         obtain ⟨BA, bqc, hbv, _⟩ := zak hbo;subst hbv;have hE20 := ((Hpf.out.other (i := 0) (by omega) Hil0.out).2).below hb20 ((Hpf.out.other (i := 0) (by omega) Hil0.out).2).lt;have ke0 := bc hE20 0;have ke3 := bc hE20 3;have ke4 := bc hE20 4;have hb8n := hb8w.trans (hb20.mono hbe);have hR20 := HR8.out.below hb8n HRb'.out;have kr0 := bc hR20 0;have kr1 := bc hR20 1;have kr2 := bc hR20 2;have fr0 := Blk.frozen hR20 0;have fr1 := Blk.frozen hR20 1;have fr2 := Blk.frozen hR20 2;have hb20n : Below w.heap.size w w20 := Hb8.out.trans (hb8n.mono (by rw [Hbase.out]; exact Hb8.out.size));have hI20 := HImg.out.new (zah hb20 none) (x := .row (.slice BA (8 * nC) bqc) 5 1 (8 * nC) (zbd ((zay T).flatMap zbo))) (It.At.lower hbo hbe) (fun b e => (hbo.lt b e).1)
         have hfar : ∀ x : It, x ∈ _ -> ∀ b, x.block = some b -> some R ≠ some b := fun x hx b e ee => by
          have h1 := ((hI20.each x hx).lt b e).1;have h2 := HRb'.out;injection ee with ee
          omega
         have hbig : ¬ (1048576 : Int) < nC := by omega
         have hR4 := ((hR20.set_ 0 (.slice BA (8 * nC) bqc)).set_ 1 (.slice FV rn fvc)).set_ 2 (.slice SV sn svc);simp only [List.setIfInBounds_toArray, List.set_cons_zero, List.set_cons_succ] at hR4;have hb21 := ((hb20n.setCell (p := ⟨R, 0, none⟩) hRw (.slice BA (8 * nC) bqc)).setCell (p := ⟨R, 1, none⟩) hRw (.slice FV rn fvc)).setCell (p := ⟨R, 2, none⟩) hRw (.slice SV sn svc);have hI23 := ((hI20.kept (zar _ ⟨R, 0, none⟩ (.slice BA (8 * nC) bqc)) hfar).kept (zar _ ⟨R, 1, none⟩ (.slice FV rn fvc)) hfar).kept (zar _ ⟨R, 2, none⟩ (.slice SV sn svc)) hfar;obtain ⟨HE20, Hb8n, HR20, Hb20n, HI20, Hfar, HR4, Hb21⟩ := hd8 hE20 hb8n hR20 hb20n hI20 hfar hR4 hb21;obtain ⟨Hb20, Hbo, HI23⟩ := hd3 hb20 hbo hI23;clear hI23 hbo hb20 hb21 hR4 hfar hI20 hb20n hR20 hb8n hE20;go_wp2_with fail;refine bodyPost_ret (za5 rfl _ _ R 33 _ (0, 0) _ rfl HR4.out Tryd.underlying33 (by kernel_rfl)) rfl ?_;have hfit := zfK gs Hc.out Hu0.out Hov.out (by rw [Hgsl.out, HT.out]; exact Hall.out) (by rw [Hgsl.out, HT.out, Hcl.out]; omega);refine ⟨Hb21.out, .inr ⟨hfit, .slice BA (8 * nC) bqc, .slice FV rn fvc, .slice SV sn svc, lvs, ps, rfl, ?_, ?_, ?_⟩⟩
         ·rw [Hgsl.out, HT.out]; exact Hl1.out
         ·rw [Hgsl.out, HT.out]; exact Hl2.out
         ·rw [Hgsl.out, HT.out, Hcl.out];exact HI23.out.lower (by rw [Hbase.out]; exact Hb8.out.size)
        ·intro xk ck v1 cnt1 hwx hwc hlx hat hrg1 hlt hg1 hs1 hen
         have hhas : Maps.has D (.int .i64 xk) = true := by
          rcases hh : Maps.has D (.int .i64 xk) with _ | _
          ·have h1 := hat (.lit (.int .i64 (ck + 1)));rw [Maps.atKey_of_not_has hh] at h1;have := zdD h1
           omega
          ·rfl
         obtain ⟨k, hk⟩ := Hkeys.out _ hhas;injection hk with _ hk;subst hk
         obtain ⟨l, hl⟩ : ∃ l, T.calls k = some l := by
          rcases hj : T.calls k with _ | l
          ·rw [(Hget.out k).2 hj] at hhas; cases hhas
          ·exact ⟨l, rfl⟩
         have hcl : ck = (l : Nat) := by
          have h1 := ((Hget.out k).1 l hl).2 (.lit (.int .i64 0));rw [hat] at h1;exact zdD h1
         subst hcl;obtain ⟨hlZ, hm⟩ := Hinv.out.calls k l hl;obtain ⟨m, hmm2⟩ := nm (⟨9, 0, 0, 0, 0⟩ : zaw);rw [<- hmm2] at hm
         have hkn : k < nC := by have := (List.getElem?_eq_some_iff.1 hm).1; rw [HnC.out] at this; exact this
         have hpm : (zcd T.code T.calls (fun f => T.start[f]?) (fun i => left (.int .i64 (i : Int))))[k]? = some m := by
          rw [zbR, hm];show some (zaV _ _ _ k m) = some m;unfold zaV;rw [hl];simp [hlx]
         obtain ⟨lv, hlv⟩ : ∃ lv : Nat, T.start[l]? = some lv := ⟨_, List.getElem?_eq_getElem (by rw [Hrows.out.2]; exact hlZ)⟩
         have hpt1 := (hpt.out.kept Hfree.out hCBr hg1).drew;have hso1 : v1.drew.ownsRow base 3 1 (.slice (some ⟨SB, 0, none⟩) Z stc) Z (zd9 T.start) := hpt1.other (i := si) hsi1 Hsi.out;obtain ⟨ad, u, hA, _, hu, hcu⟩ := (zal.of_own hso1).at_ hlZ;injection hA with hA;subst hA
         have hu2 : u = .int .i64 (lv : Nat) := by
          unfold zd9 at hu;rw [List.getElem?_map, hlv] at hu;injection hu with hu;exact hu.symm
         subst hu2;obtain ⟨o, ho⟩ := mn (w32 (lv : Int));have how : IntKind.i32.wrap (lv : Int) = o := ho;obtain ⟨hpn, hCBb, s4, r4, hCBl⟩ := hpt1.put HlI.out hpm hkn o;have hps := zf7 T.code T.calls (fun f => T.start[f]?) (fun i => left (.int .i64 (i : Int))) hl hm;rw [hlv] at hps;rw [show ((some lv : Option Nat).getD 0) = lv from rfl, ho] at hps;rw [hps] at hpn
         have hlf : (fun i : Nat => left (.int .i64 (i : Int)) && decide (i ≠ k)) = fun i : Nat => left (.int .i64 (i : Int)) && !(Lit.int .i64 (i : Int)).sameKey (.int .i64 (k : Int)) := by
          funext i
          rw [zfr];simp
         rw [hlf] at hpn;have e0 : v1.cell? ⟨base + 1, 0, none⟩ = some (.slice (some ⟨CB, 0, none⟩) nC vc) := (hpt1.other (i := 0) (by omega) Hil0.out).2.cell 0;have e1 : v1.cell? ⟨base + 1, 1, none⟩ = some (.slice (some ⟨SB, 0, none⟩) Z stc) := (hpt1.other (i := 0) (by omega) Hil0.out).2.cell 1
         have es : v1.cell? ⟨SB, l, none⟩ = some (.int .i64 (lv : Nat)) := by
          rw [Addr.add_mid, Nat.zero_add] at hcu;exact hcu
         have hb1 : Below base w8 v1 := hbr.out.grown hg1 (by have := hs1; have := hrg.out.lt; omega) (fun b e => by injection e with e; omega);have hbn := (hb1.drew).setCell (p := ⟨CB, k * 5 + 4, none⟩) hCBb (.int .i32 o)
         have hrg2 := (World.ranges.kept (w := v1) (w' := v1.drew.setCell ⟨CB, k * 5 + 4, none⟩ (.int .i32 o)) hrg1 (row := some CB) (by exact (zb8 (World.grownBy.refl v1 _)).trans (zar v1.drew ⟨CB, k * 5 + 4, none⟩ (.int .i32 o))) (fun e => by injection e with e; exact hCBJ e.symm) (fun e => by injection e with e; exact hCBr e.symm))
         have hkI : (k : Int) < nC := by omega
         have hlI2 : (l : Int) < Z := by omega
         obtain ⟨Hpt1, Hlv, Ho, Hpn, Hps, Hlf, Hb1, Hbn⟩ := hd8 hpt1 hlv ho hpn hps hlf hb1 hbn;obtain ⟨Hrg1, Hrg2, Hm, Hpm, Hhas, Hl, Hat, Hpt⟩ := hd8 hrg1 hrg2 hm hpm hhas hl hat hpt;obtain ⟨Hrg, Hbr, Hmm2, Hu, Hcu, Hso1⟩ := hd6 hrg hbr hmm2 hu hcu hso1;clear hso1 hcu hu hmm2 hbr hrg hpt hat hl hhas hpm hm hrg2 hrg1 hbn hb1 hlf hps hpn ho hlv hpt1;go_upto_region 24 with fail;refine zbh (S := fun W => W.cell? ⟨base + 1, 0, none⟩ = some (.slice (some ⟨CB, 0, none⟩) nC vc) /\ W.cell? ⟨base + 1, 1, none⟩ = some (.slice (some ⟨SB, 0, none⟩) Z stc) /\ W.cell? ⟨SB, l, none⟩ = some (.int .i64 (lv : Nat))) #[false, false, false, false, false, false, false, false, false, false, false, false, false, false, false, true] (by kernel_rfl) ⟨e0, e1, es⟩ (fun hHeld => ?_);refine zaj 0 ?_;refine zaj 1 ?_;refine zaj 2 ?_;refine zaj 3 ?_;refine zaj 4 ?_;refine zaj 5 ?_;refine zaj 6 ?_;refine zaj 7 ?_;refine zaj 8 ?_;refine zaj 9 ?_;refine zaj 10 ?_;refine zaj 11 ?_;refine zaj 12 ?_;refine zaj 13 ?_;refine zaj 14 ?_;refine zbF (i := 15) (by kernel_rfl) rfl ⟨15, by kernel_rfl, by kernel_rfl⟩ (fun K hK => ?_);go_simp;refine hK.out _ _ ?_;clear hK K;refine lay ?_;refine zbY (by kernel_rfl) ?_ _;go_wp2_with fail;have hrg3 : ((v1.setCell ⟨CB, k * 5 + 4, none⟩ (.int .i32 o)).drew).ranges Tryd.prog 3 (plainElem Tryd.prog 3) Mc r T.cn D (fun z => left z && !z.sameKey (.int .i64 (k : Int))) cnt1 := Hrg2.out;refine ⟨⟨fun z => left z && !z.sameKey (.int .i64 (k : Int)), cnt1, Lib.hid hrg3, Lib.hid Hpn.out, Lib.hid Hbn.out⟩, ?_⟩;rw [hrg3.left_eq, Hrg.out.left_eq];exact hlt
theorem zkz : (Tryd.prog.info? 87).map (fun i => (i.zero, i.size, i.bytes)) = some (some (.int .u8 0), 1, 1) := by kernel_rfl
def zjo (n : Nat) : Array Value := madeCells #[.int .u8 0] n
theorem zjn (n : Nat) : (zjo n).toList = (List.replicate n (0 : Int)).map (Value.int .u8) := by
 unfold zjo;rw [toList_madeCells_one]; simp
theorem zi8 {w : World} {K n : Nat} {t : TypeId} (h : Blk w K t (zjo n)) (hn : n <= maxLen) : zaO .u8 w w.heap.size (.slice (some ⟨K, 0, none⟩) n n) (List.replicate n 0) :=
 ⟨_, _, _, rfl, Nat.le_refl _, hn, by simp, zal.of_blk h (zjn n) (by simp)⟩
theorem zjh (n : Nat) (hn : n <= 1000000) (W : World) : (Instr.makeSlice 41 (.int .i64 (n : Int)) (.int .i64 (n : Int))).run Tryd.prog W = .ok (.slice (some ⟨W.heap.size, 0, none⟩) n n) (W.alloc (.cells (zjo n) 87)) := by
 obtain ⟨ik, hik, hkz0, hkz1, hkz2⟩ := info_parts zkz;have h := zdf (P := Tryd.prog) 41 87 ik _ Tryd.underlying41 hik hkz0 .i64 .i64 n n (Nat.le_refl _) (by rw [hkz2]; omega) (by omega) W;rw [hkz1, Nat.mul_one] at h;exact h
theorem zfv (k : IntKind) (w : World) (B : Nat) : zaO k w B (.slice none 0 0) [] := ⟨none, 0, 0, rfl, Nat.le_refl _, by unfold maxLen; omega, rfl, zal.none_⟩
def ndE : zam := ⟨12, 0, 0, 0, -1, 0, 0, 0, 0, [], 0, 0⟩
def grE : zad := ⟨[], List.replicate 16 0, 0, [], false, -1, [ndE], 0⟩
theorem zmv : zaK grE = grE := by rfl
theorem zm6 : za3 [grE] true = true := by decide
theorem zng : [grE].any zcA = false := by decide
theorem zni : zbk [grE] = false := by decide
theorem zm5 : 5 <= (zay (zav [grE])).length /\ (zay (zav [grE])).length <= 1000 := by decide
theorem znp : (zay (zav [grE])).all zaP = true := by decide
theorem errE : zbC [grE] = 0 := zfK [grE] zm6 zng zni (by rw [List.map_cons, zmv]; exact znp) (by rw [List.map_cons, zmv]; show ¬ 1048576 < (zay (zav [grE])).length; have := zm5; omega)
theorem znh : ∃ r, (zav [grE]).rows = [r] /\ r.start = 2 := ⟨_, rfl, rfl⟩
theorem zkF (w : World) (ht : TabX w) : Calls Tryd.prog 6 #[] w fun e w' => e = .returned (.bool true) /\ Below w.heap.size w w' := by
 have hmk : ∀ W : World, (Instr.makeSlice 41 (.int .i64 16) (.int .i64 16)).run Tryd.prog W = .ok (.slice (some ⟨W.heap.size, 0, none⟩) 16 16) (W.alloc (.cells (zjo 16) 87)) := zjh 16 (by omega);obtain ⟨ka, hka⟩ := nm (zjo 16);obtain ⟨na, hna⟩ := nm ((zae ndE (.slice none 0 0)).toArray : Array Value);obtain ⟨H, hH⟩ := nm (w.heap.size);obtain ⟨ga, hga⟩ := nm ((zaH grE (.slice none 0 0) (.slice (some ⟨H, 0, none⟩) 16 16) (.slice none 0 0) (.slice (some ⟨H + 1, 0, none⟩) 1 1)).toArray : Array Value)
 have hK := (((Blk.new w 87 ka).alloc (.cells na 55)).alloc (.cells ga 44))
 have hN := ((Blk.new2 w (.cells ka 87) 55 na).alloc (.cells ga 44))
 have hG := (Blk.new ((w.alloc (.cells ka 87)).alloc (.cells na 55)) 44 ga)
 have hb := (((Below.refl w.heap.size w).alloc (Nat.le_refl _) (.cells ka 87)).alloc (by simp) (.cells na 55)).alloc (by simp; omega) (.cells ga 44);simp only [World.size_alloc] at hG;obtain ⟨V, hV⟩ := nm (((w.alloc (.cells ka 87)).alloc (.cells na 55)).alloc (.cells ga 44));rw [<- hV] at hK hN hG hb;rw [<- hH] at hK hN hG
 have hgs : zaI V V.heap.size (.slice (some ⟨H + 1 + 1, 0, none⟩) 1 1) [grE] := by
  refine ⟨_, _, _, [zaH grE (.slice none 0 0) (.slice (some ⟨H, 0, none⟩) 16 16) (.slice none 0 0) (.slice (some ⟨H + 1, 0, none⟩) 1 1)], rfl, Nat.le_refl _, by unfold maxLen; omega, rfl, rfl, by simp [zaH], zal.of_blk hG (by rw [hga]; simp) (by simp [zaH]), fun i z hz => ?_⟩
  match i, hz with
  | 0, hz =>
   simp only [List.getElem?_cons_zero, Option.some.injEq] at hz;subst hz;refine ⟨_, rfl, _, _, _, _, rfl, zfv _ _ _, zi8 (by rw [<- hka]; exact hK) (by unfold maxLen; omega), zfv _ _ _, ?_⟩;refine ⟨_, _, _, [zae ndE (.slice none 0 0)], rfl, Nat.le_refl _, by unfold maxLen; omega, rfl, rfl, by simp [zae], zal.of_blk hN (by rw [hna]; simp) (by simp [zae]), fun i z hz => ?_⟩
   match i, hz with
   | 0, hz =>
    simp only [grE, List.getElem?_cons_zero, Option.some.injEq] at hz;subst hz;exact ⟨_, rfl, _, rfl, zfv _ _ _⟩
 have hem := ziM hgs (Nat.le_refl _) ⟨by intro g hg; simp at hg; rw [hg]; simp [grE]; simp [ndE], by simp⟩ (by intro g hg x hx; simp at hg; rw [hg] at hx; simp [grE] at hx; rw [hx]; unfold U64; simp [ndE]) (ht.below hb ht.1)
 have hna' : (#[.int .u8 12, .int .u8 0, .int .i64 0, .int .i64 0, .int .i64 (-1), .int .i64 0, .int .i64 0, .int .i64 0, .int .u64 0, .slice none 0 0, .int .i64 0, .int .i64 0] : Array Value) = na := by rw [hna]; rfl
 have hga' : (#[.slice none 0 0, .slice (some ⟨H, 0, none⟩) 16 16, .int .i64 0, .slice none 0 0, .bool false, .int .i64 (-1), .slice (some ⟨H + 1, 0, none⟩) 1 1, .int .i64 0] : Array Value) = ga := by rw [hga]; rfl
 have hzV := hb.size;obtain ⟨HK, HN, HG, Hb, Hgs, Hem, Hka, Hna⟩ := hd8 hK hN hG hb hgs hem hka hna;obtain ⟨Hga, HV, HHH, HNA, HGA, Ht⟩ := hd6 hga hV hH hna' hga' ht;clear ht hga' hna' hH hV hga hna hka hem hgs hb hG hN hK;go_enter Tryd.func6, Tryd.ntmps6;go_wp2_with fail;rw [<- HHH.out, <- Hka.out, HNA.out, HGA.out, <- HV.out];refine Hem.out.mono ?_;intro e w2 hp;unfold zdU at hp;rw [errE, List.map_cons, zmv, List.map_nil] at hp;obtain ⟨hb2, hp⟩ := hp
 rcases hp with ⟨h0, _⟩ | ⟨_, bv, fv, sv, lvs, ps, rfl, hl1, hl2, hI⟩
 ·exact absurd rfl h0
 obtain ⟨r, hr, hr2⟩ := znh;have hbv := hI.own (i := 0) rfl;have hfv : w2.ownsRow V.heap.size 48 6 fv (zav [grE]).rows.length (zaQ (zav [grE]).rows ps) := hI.each (.row fv 48 6 (zav [grE]).rows.length (zaQ (zav [grE]).rows ps)) (by unfold zbE; simp);obtain ⟨SA, sc, hsv, _⟩ := zak (show w2.ownsRow V.heap.size 112 2 sv (zav [grE]).sites.length (zaC (zav [grE]).sites lvs) from hI.each (.row sv 112 2 (zav [grE]).sites.length (zaC (zav [grE]).sites lvs)) (by unfold zbE; simp));obtain ⟨sn, hsn⟩ := mn ((zav [grE]).sites.length);rw [hsn] at hsv;subst hsv;rw [hr] at hfv hl2;obtain ⟨L, hL⟩ := mn ((zay (zav [grE])).length);have hcE := zm5;rw [hL] at hbv hcE
 obtain ⟨q, qs, rfl⟩ : ∃ q qs, ps = q :: qs := by cases ps with
  | nil => simp at hl2
  | cons q qs => exact ⟨q, qs, rfl⟩
 obtain ⟨BA, bqc, rfl, _⟩ := zak hbv;obtain ⟨FA, fc, rfl, _, _, hRd⟩ := zak hfv;rw [show ([r] : List ziq).length = 1 from rfl];obtain ⟨hL5, hL1⟩ := hcE
 have hL8 : (40 : Int) <= ((8 * L : Nat) : Int) := by omega
 obtain ⟨ad, rfl, _, hcu⟩ := hRd.2 (by simp);have hc0 := hcu 0 (.int .i64 2) (by show some (Value.int .i64 (r.start : Nat)) = _; rw [hr2]; rfl);rw [show ad.add 0 = ad by simp [Addr.add]] at hc0;have hbe := Hb.out.trans (hb2.mono hzV);have hc3 := (Below.refl w2.heap.size w2).alloc (Nat.le_refl _) (.cells #[.slice BA (8 * L) bqc, .slice (some ad) 1 fc, .slice SA sn sc] 33);have hAlt : ad.block < w2.heap.size := World.block_lt_of_cell? _ _ hc0;have hc4 := (hc3.cell (p := ad) hAlt).trans hc0;have hB3 := Blk.new w2 33 #[.slice BA (8 * L) bqc, .slice (some ad) 1 fc, .slice SA sn sc];have kb0 := bc hB3 0;have kb1 := bc hB3 1;obtain ⟨Hb2, HI, HL1, HL2, Hbv, Hfv, Hbe, Hc3⟩ := hd8 hb2 hI hl1 hl2 hbv hfv hbe hc3;obtain ⟨HB3, Hcu, HRd, Hr, HL, Hsn⟩ := hd6 hB3 hcu hRd hr hL hsn;clear hsn hL hr hRd hcu hB3 hc3 hbe hfv hbv hl2 hl1 hI hb2;go_wp2_with fail;go_ret;exact ⟨rfl, Hbe.out.alloc Hbe.out.size _⟩
def ze8 (gs : List zad) : List Int := if zbC gs = 0 then (zay (zav (gs.map zaK))).flatMap zbo else []
def zk6 (gs : List zad) : Nat := if zbC gs = 0 then (zav (gs.map zaK)).rows.length else 0
def ziw (gs : List zad) : Nat := if zbC gs = 0 then (zav (gs.map zaK)).sites.length else 0
theorem zdm : ∀ l : List zaw, (l.flatMap zbo).length = 8 * l.length
 | [] => rfl
 | x :: l => by rw [List.flatMap_cons, List.length_append, zdm l, zc6, List.length_cons]; omega
theorem zlG {gs : List zad} {w w' : World} {e : Ending} (h : zdU gs w e w') :
  Below w.heap.size w w' /\ ∃ BA bqc FA fc SA sc, e = .returned (.tuple #[.agg #[.slice BA (ze8 gs).length bqc, .slice FA (zk6 gs) fc, .slice SA (ziw gs) sc], .int .i64 (zbC gs)]) /\
   w'.ownsRow w.heap.size 5 1 (.slice BA (ze8 gs).length bqc) (ze8 gs).length (zbd (ze8 gs)) := by
 obtain ⟨hb, h⟩ := h;refine ⟨hb, ?_⟩
 rcases h with ⟨h0, rfl⟩ | ⟨h0, bv, fv, sv, lvs, ps, rfl, hl1, hl2, hI⟩
 ·unfold ze8 zk6 ziw;rw [if_neg h0, if_neg h0, if_neg h0];exact ⟨none, 0, none, 0, none, 0, rfl, World.ownsRow_nil _ _ _ _⟩
 ·unfold ze8 zk6 ziw;rw [if_pos h0, if_pos h0, if_pos h0, zdm];have hbv := hI.own (i := 0) rfl;obtain ⟨BA, bqc, rfl, _⟩ := zak hbv;obtain ⟨FA, fc, rfl, _⟩ := zak (show w'.ownsRow w.heap.size 48 6 fv (zav (gs.map zaK)).rows.length (zaQ (zav (gs.map zaK)).rows ps) from hI.each (.row fv 48 6 (zav (gs.map zaK)).rows.length (zaQ (zav (gs.map zaK)).rows ps)) (by unfold zbE; simp));obtain ⟨SA, sc, rfl, _⟩ := zak (show w'.ownsRow w.heap.size 112 2 sv (zav (gs.map zaK)).sites.length (zaC (zav (gs.map zaK)).sites lvs) from hI.each (.row sv 112 2 (zav (gs.map zaK)).sites.length (zaC (zav (gs.map zaK)).sites lvs)) (by unfold zbE; simp));exact ⟨BA, bqc, FA, fc, SA, sc, by rw [h0], hbv⟩
theorem zdO {w : World} {b size n c : Nat} {e : TypeId} {A : Option Addr} {xs : List Value} (h : w.ownsRow b e size (.slice A n c) n xs) : zal w w.heap.size size A n xs := zal.of_own h
theorem zkK {gs : List zad} {i : Nat} {g : zad} (h : gs[i]? = some g) : (zav gs).rows[i]? = some (zhQ (zav (gs.take i)) g) := by
 suffices hn : ∀ n, i < n -> n <= gs.length -> (zav (gs.take n)).rows[i]? = some (zhQ (zav (gs.take i)) g) by
  have h1 := hn gs.length (List.getElem?_eq_some_iff.1 h).1 (Nat.le_refl _)
  rwa [List.take_length] at h1
 intro n
 induction n with
 | zero => intro h0; omega
 | succ n ih =>
  intro h1 h2;have hl := (zcH (gs.take n)).1;rw [List.length_take, Nat.min_eq_left (by omega)] at hl;rw [List.take_add_one, List.getElem?_eq_getElem (show n < gs.length by omega), Option.toList_some, zck];show ((zav (gs.take n)).rows ++ [zhQ (zav (gs.take n)) gs[n]])[i]? = _
  by_cases hi : i < n
  ·rw [List.getElem?_append_left (by omega)];exact ih hi (by omega)
  ·obtain rfl : n = i := by omega
   rw [List.getElem?_append_right (by omega), hl, Nat.sub_self];rw [List.getElem?_eq_getElem (show n < gs.length by omega)] at h;injection h with h;rw [h]; rfl
theorem zg8 : ∀ (l : List Nat) (o k r : Nat), l[k]? = some r -> (zdw l o)[k]? = some ((r : Int), ((8 * (o + k) : Nat) : Int))
 | [], _, _, _, h => by simp at h
 | x :: l, o, 0, r, h => by
  simp only [List.getElem?_cons_zero, Option.some.injEq] at h;rw [h]; rfl
 | x :: l, o, k + 1, r, h => by
  rw [List.getElem?_cons_succ] at h;rw [zdw, List.getElem?_cons_succ, zg8 l (o + 1) k r h, show o + 1 + k = o + (k + 1) by omega]
theorem zgv {g : zad} {k : Nat} (hk : k < (zbG g).length) : ∃ r : Nat, (zcK g.nodes 6)[k]? = some r /\ (zbG g)[k]? = some ((r : Int), ((8 * (zaG g + zaU g + k) : Nat) : Int)) /\ zbL g.nodes r = true /\ 8 * (zaG g + zaU g + k) < zaF g := by
 rw [zcJ] at hk;unfold zb9 at hk;have hr : (zcK g.nodes 6)[k]? = some (zcK g.nodes 6)[k] := List.getElem?_eq_getElem hk;refine ⟨_, hr, zg8 _ _ _ _ hr, ?_, ?_⟩
 ·have := List.mem_of_getElem? hr;unfold zcK at this;exact (List.mem_filter.1 this).2
 ·unfold zaF zb9
  omega
def znf (ns : List zam) (r : Int) (k : Nat) : Bool := (ns.take k).any fun x => decide (r ∈ zaD x)
theorem zf5 {w W : World} {B n c : Nat} {SV : Option Addr} {l : List Mv} {k : Nat} {q o : Int} (ho : w.ownsRow B 50 2 (.slice SV n c) n (za9 l)) (hn : 0 < n) (hb : Below w.heap.size w W) (hk : l[k]? = some (q, o)) :
  ∃ SB, SV = some ⟨SB, 0, none⟩ /\ SB < w.heap.size /\ W.cell? ⟨SB, k * 2, none⟩ = some (.int .i64 q) /\ W.cell? ⟨SB, k * 2 + 1, none⟩ = some (.int .i64 o) := by
 obtain ⟨_, g, rfl, _, ⟨cs, hg⟩, hc⟩ := zd7 ho hn;obtain ⟨h1, h2⟩ := zfx l k _ hk;have e1 := hc _ _ h1;have e2 := hc _ _ h2;rw [zbU] at e1 e2;exact ⟨g, rfl, hg.lt, (hb.cell (p := ⟨g, k * 2, none⟩) hg.lt).trans e1, (hb.cell (p := ⟨g, k * 2 + 1, none⟩) hg.lt).trans e2⟩
theorem zmO {w : World} {B FB fc j : Nat} {T : zco} {fv sv : Value} {lvs : List Value} {ps : List (Value × Value)} {r : ziq} (hI : zaA w B (zbE T fv sv lvs ps)) (hl2 : ps.length = T.rows.length) (hfv : fv = .slice (some ⟨FB, 0, none⟩) T.rows.length fc) (hj : T.rows[j]? = some r) :
  ∃ pv sv', w.ownsRow B 87 1 pv r.params.length (zcf r.params) /\ w.ownsRow B 50 2 sv' r.saves.length (za9 r.saves) /\ ∀ (k : Nat) v, (zdN r pv sv')[k]? = some v -> w.cell? ⟨FB, j * 6 + k, none⟩ = some v := by
 have hjl := (List.getElem?_eq_some_iff.1 hj).1
 obtain ⟨p, hp⟩ : ∃ p, ps[j]? = some p := ⟨_, List.getElem?_eq_getElem (by omega)⟩
 have hz : (T.rows.zip ps)[j]? = some (r, p) := by rw [List.getElem?_zip_eq_some]; exact ⟨hj, hp⟩
 have hm := List.mem_of_getElem? hz;have hR := hI.each (.row fv 48 6 T.rows.length (zaQ T.rows ps)) (by unfold zbE; simp);have hR : w.ownsRow B 48 6 fv T.rows.length (zaQ T.rows ps) := hR;refine ⟨p.1, p.2, hI.each (.row p.1 87 1 r.params.length (zcf r.params)) ?_, hI.each (.row p.2 50 2 r.saves.length (za9 r.saves)) ?_, fun k v hv => ?_⟩
 ·unfold zbE zdX;refine List.mem_append_right _ (List.mem_append_right _ (List.mem_append_right _ (List.mem_flatMap.2 ⟨(r, p), hm, ?_⟩)));exact List.mem_cons_self
 ·unfold zbE zdX;refine List.mem_append_right _ (List.mem_append_right _ (List.mem_append_right _ (List.mem_flatMap.2 ⟨(r, p), hm, ?_⟩)));exact List.mem_cons_of_mem _ List.mem_cons_self
 ·subst hfv;obtain ⟨_, g, e, _, _, hc⟩ := zd7 hR (by omega);injection e with e;injection e with e;subst e
  have hk : k < 6 := by
   have := (List.getElem?_eq_some_iff.1 hv).1
   simpa [zdN] using this
  have h1 := zcL (f := fun p : ziq × (Value × Value) => zdN p.1 p.2.1 p.2.2) (c := 6) (fun _ => rfl) (T.rows.zip ps) j (r, p) hz k hk;have h2 := hc (j * 6 + k) v (by unfold zaQ; rw [h1]; exact hv);rw [zbU] at h2;exact h2
end Go.Proofs.YtnfjjliiajaijaaDoor
