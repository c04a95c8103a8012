/- Walks of the document's question whether a graph is right but for its nodes. Conditions: the graph lies in memory. The kinds that an operation asks for, in the document's words, and that they say what the checker says. No condition. Walks of the document's Next, and of what is answered ahead of everything else. No condition. -/
import Derived.Test.YtncpehhfjkncoaaPlAA
import Derived.Test.YtncpehhfjkncoaaPlAJ
import Derived.Test.YtncpehhfjkncoaaPlAP
set_option linter.unusedVariables false
set_option linter.unusedSimpArgs false
set_option maxRecDepth 100000
set_option maxHeartbeats 16000000
namespace Go.Proofs.Ytncpehhfjkncoaa
open Go.RowKit

theorem fits_any (w : World) (g : GraphD) (pv kv iv nv : Value) (B : Nat) (hB : B <= w.heap.size) (hk : NumsAt .u8 w B kv g.kinds) (hkm : g.kinds.length <= 140737488351232) (bound : Bool) (p k : Int) :
  Calls Try.prog 34 #[.agg (gcells g pv kv iv nv).toArray, .bool bound, .int .i64 p, .int .u8 k] w fun e w' => e = .returned (.bool (fitsB g bound k p)) /\ Below w.heap.size w w' := by
 obtain ⟨r, hr⟩ := mn (fitsB g bound k p);rw [hr];unfold fitsB at hr;obtain ⟨KA, kc, rfl, _, _, hK⟩ := hk.slice;obtain ⟨L, hL⟩ := mn (g.kinds.length);rw [hL] at hK hr hkm;obtain ⟨CS, hCS⟩ := nm ((gcells g pv (.slice KA L kc) iv nv).toArray);rw [hL, <- hCS];obtain ⟨G, hG⟩ := nm (w.heap.size);have hP := Blk.new w 48 CS;have hb := (Below.refl w.heap.size w).alloc (Nat.le_refl _) (.cells CS 48);have hKV := hK.below (hb.mono hB);rw [<- hG] at hP;obtain ⟨V, hV⟩ := nm (w.alloc (.cells CS 48));rw [<- hV] at hb hP hKV;have kp1 := hP.cell 1
 have e1 : CS[1]? = some (.slice KA L kc) := by rw [hCS]; rfl
 rw [e1] at kp1;obtain ⟨Hb, HP, HK, HKV, HV, HG, HCS, He1⟩ := hd8 hb hP hK hKV hV hG hCS e1;have HL := Lib.hid hL;clear hL e1 hCS hG hV hKV hK hP hb
 by_cases c0 : 0 <= p
 ·obtain ⟨P, rfl⟩ := Int.eq_ofNat_of_zero_le c0
  by_cases c1 : P < L
  ·have c1' : (P : Int) < L := by omega
   cases bound
   ·obtain ⟨kad, ku, hkA, _, hku, hkc⟩ := HKV.out.at_ c1;subst hkA
    obtain ⟨kk, hkk, rfl⟩ : ∃ kk, g.kinds[P]? = some kk /\ ku = .int .u8 kk := by
     rw [List.getElem?_map, Option.map_eq_some_iff] at hku;obtain ⟨x, h1, h2⟩ := hku;exact ⟨x, h1, h2.symm⟩
    rw [Int.toNat_natCast, List.getD_eq_getElem?_getD, hkk, Option.getD_some] at hr;clear hku
    by_cases c2 : kk = k
    ·have c2' : (kk == k) = true := by simp [c2]
     have hs : true = r := by rw [<- hr]; simp [c1, c2]
     obtain ⟨Hs, Hr, Hc2, Hkk⟩ := hd4 hs hr c2 hkk;clear hkk c2 hr hs;clear c1;go_enter Try.func34, Try.ntmps34;go_upto_region 1 with fail;rw [<- HV.out, <- HG.out];go_wp2_with fail;go_ret;rw [<- Hs.out];exact ⟨rfl, Hb.out⟩
    ·have c2' : (kk == k) = false := by simp [c2]
     have hs : false = r := by rw [<- hr]; simp [c2]
     obtain ⟨Hs, Hr, Hc2, Hkk⟩ := hd4 hs hr c2 hkk;clear hkk c2 hr hs;clear c1;go_enter Try.func34, Try.ntmps34;go_upto_region 1 with fail;rw [<- HV.out, <- HG.out];go_wp2_with fail;go_ret;rw [<- Hs.out];exact ⟨rfl, Hb.out⟩
   ·have hs : true = r := by rw [<- hr]; simp [c1]
    obtain ⟨Hs, Hr⟩ := hd2 hs hr;clear hr hs;clear c1;go_enter Try.func34, Try.ntmps34;go_upto_region 1 with fail;rw [<- HV.out, <- HG.out];go_wp2_with fail;go_ret;rw [<- Hs.out];exact ⟨rfl, Hb.out⟩
  ·have c1' : ¬ (P : Int) < L := by omega
   have hs : false = r := by rw [<- hr]; simp [c1]
   obtain ⟨Hs, Hr⟩ := hd2 hs hr;clear hr hs;clear c1;go_enter Try.func34, Try.ntmps34;go_upto_region 1 with fail;rw [<- HV.out, <- HG.out];go_wp2_with fail;go_ret;rw [<- Hs.out];exact ⟨rfl, Hb.out⟩
 ·have hs : false = r := by rw [<- hr]; simp [c0]
  obtain ⟨Hs, Hr⟩ := hd2 hs hr;clear hr hs;go_enter Try.func34, Try.ntmps34;go_upto_region 1 with fail;rw [<- HV.out, <- HG.out];go_wp2_with fail;go_ret;rw [<- Hs.out];exact ⟨rfl, Hb.out⟩
theorem keepB_same (g : GraphD) (h0 : ¬ g.cells < 0) : (decide (g.keep ≠ -1) && !cellB g g.keep) = (decide (g.keep < -1) || decide (g.cells <= g.keep)) := by
 unfold cellB
 by_cases h1 : g.keep = -1
 ·simp [h1]; omega
 ·by_cases h2 : 0 <= g.keep
  ·by_cases h3 : g.keep < g.cells
   ·simp [h1, h2, h3]; omega
   ·simp [h1, h3]; omega
  ·simp [h1, h2]; left; omega
theorem init_same (g : GraphD) (bound : Bool) (k p : Int) (h0 : ¬ g.cells < 0) : (decide (k ≠ -1) && (!cellB g k || !isB g bound 0 [p])) = (decide (k < -1) || decide (g.cells <= k) || (decide (0 <= k) && !fitsB g bound 0 p)) := by
 unfold cellB isB;simp only [List.all_cons, List.all_nil, Bool.and_true]
 by_cases h1 : k = -1
 ·simp [h1]; omega
 ·by_cases h2 : 0 <= k
  ·by_cases h3 : k < g.cells
   ·have h4 : ¬ k < -1 := by omega
    have h5 : ¬ g.cells <= k := by omega
    simp [h1, h2, h3, h4, h5]
   ·have h5 : g.cells <= k := by omega
    simp [h1, h3, h5]
  ·have h4 : k < -1 := by omega
   simp [h1, h2, h4]
theorem refhead_any (w : World) (g : GraphD) (pv kv iv nv : Value) (B : Nat) (hB : B <= w.heap.size) (hpA : NumsAt .i64 w B pv g.params) (hkA : NumsAt .u8 w B kv g.kinds) (hiA : NumsAt .i64 w B iv g.init) (hnA : RowsAt 12 NodeAt w B nv g.nodes) (hkm : g.kinds.length <= 140737488351232) (bound : Bool) :
  Calls Try.prog 16 #[.agg (gcells g pv kv iv nv).toArray, .bool bound] w fun e w' => e = .returned (.bool (headB g bound)) /\ Below w.heap.size w w' := by
 obtain ⟨r, hr⟩ := mn (headB g bound);rw [hr];unfold headB at hr;obtain ⟨PA, pc, rfl, hPc, _, hPR⟩ := hpA.slice;obtain ⟨KA, kc, rfl, _, _, hKR⟩ := hkA.slice;obtain ⟨IA, ic, rfl, _, _, hIR⟩ := hiA.slice;obtain ⟨NA, nn, nc, css, rfl, _, _, hnn, _⟩ := hnA;obtain ⟨KN, hK⟩ := mn (g.kinds.length);obtain ⟨P, hP⟩ := mn (g.params.length);obtain ⟨I, hI⟩ := mn (g.init.length);rw [hP] at hPR hr hPc;rw [hK] at hKR hkm;rw [hI] at hIR;rw [hP, hK, hI];obtain ⟨kv, hkv⟩ := nm (Value.slice KA KN kc);rw [hK, <- hkv] at hkA;obtain ⟨CS, hCS⟩ := nm ((gcells g (.slice PA P pc) (.slice KA KN kc) (.slice IA I ic) (.slice NA nn nc)).toArray);have hag : (gcells g (.slice PA P pc) (.slice KA KN kc) (.slice IA I ic) (.slice NA nn nc)).toArray = CS := hCS.symm;rw [hag];obtain ⟨G, hG⟩ := nm (w.heap.size);have hBk := Blk.new w 48 CS;have hb := (Below.refl w.heap.size w).alloc (Nat.le_refl _) (.cells CS 48);have hKA := hkA.below (hb.mono hB);have hKR1 := hKR.below (hb.mono hB);have hPR1 := hPR.below (hb.mono hB);have hIR1 := hIR.below (hb.mono hB);rw [<- hG] at hBk;obtain ⟨V, hV⟩ := nm (w.alloc (.cells CS 48));rw [<- hV] at hb hBk hKA hKR1 hPR1 hIR1;have hBV : B <= V.heap.size := Nat.le_trans hB hb.size
 have e0 : CS[0]? = some (.slice PA P pc) := by rw [hCS]; rfl
 have e1 : CS[1]? = some (.slice KA KN kc) := by rw [hCS]; rfl
 have e2 : CS[2]? = some (.int .i64 g.cells) := by rw [hCS]; rfl
 have e3 : CS[3]? = some (.slice IA I ic) := by rw [hCS]; rfl
 have e5 : CS[5]? = some (.int .i64 g.keep) := by rw [hCS]; rfl
 have e6 : CS[6]? = some (.slice NA nn nc) := by rw [hCS]; rfl
 have e7 : CS[7]? = some (.int .i64 g.entry) := by rw [hCS]; rfl
 have hcell : ∀ W, Blk W G 48 CS -> W.cell? ⟨G, 0, none⟩ = some (.slice PA P pc) /\ W.cell? ⟨G, 1, none⟩ = some (.slice KA KN kc) /\ W.cell? ⟨G, 2, none⟩ = some (.int .i64 g.cells) /\ W.cell? ⟨G, 3, none⟩ = some (.slice IA I ic) /\ W.cell? ⟨G, 5, none⟩ = some (.int .i64 g.keep) /\ W.cell? ⟨G, 6, none⟩ = some (.slice NA nn nc) /\ W.cell? ⟨G, 7, none⟩ = some (.int .i64 g.entry) := fun W h => ⟨(h.cell 0).trans e0, (h.cell 1).trans e1, (h.cell 2).trans e2, (h.cell 3).trans e3, (h.cell 5).trans e5, (h.cell 6).trans e6, (h.cell 7).trans e7⟩
 obtain ⟨p0, p1, p2, p3, p5, p6, p7⟩ := hcell V hBk;have HCELL := Lib.hid hcell;clear hcell e0 e1 e2 e3 e5 e6 e7;have hGl := hBk.lt;obtain ⟨Hr, HPR, HKR, HIR, Hnn, HK, HP, HI⟩ := hd8 hr hPR hKR hIR hnn hK hP hI;obtain ⟨HkA, Hb, HBk, HKA, HKR1, HPR1, HIR1, HV⟩ := hd8 hkA hb hBk hKA hKR1 hPR1 hIR1 hV;obtain ⟨HG, HCS, Hkv, HpA, HiA⟩ := hd5 hG hCS hkv hpA hiA;clear hiA hpA hkv hCS hG hV hIR1 hPR1 hKR1 hKA hBk hb hkA hI hP hK hnn hIR hKR hPR hr;go_enter Try.func16, Try.ntmps16;go_upto_region 1 with fail;rw [<- HV.out, <- HG.out];obtain ⟨bt, hbt⟩ := mn ((decide (1024 < KN) || (bound && decide (KN < 16)) || head2 g));have Hbt := Lib.hid hbt;clear hbt
 go_cut [58] (fun t wx => t = .bool bt /\ V = wx)
 case first =>
  have hb := Hbt.out;obtain ⟨C, hC⟩ := mn (g.cells);obtain ⟨kp, hkp⟩ := mn (g.keep);have hks := keepB_same g;rw [hC] at p2 hks;rw [hkp] at p5 hks
  have h2' : head2 g = (decide (4 < P) || decide (I ≠ P) || decide (C < 0) || decide (64 < C) || (decide (kp ≠ -1) && !cellB g kp)) := by unfold head2; rw [HP.out, HI.out, hC, hkp]
  rw [h2'] at hb
  by_cases c1 : 1024 < KN
  ·have c1' : (1024 : Int) < KN := by omega
   have hs : bt = true := by rw [<- hb]; simp [c1]
   obtain ⟨Hs, Hb, H2', HC, Hkp, Hks⟩ := hd6 hs hb h2' hC hkp hks;clear hks hkp hC h2' hb hs;clear c1;go_wp2_with fail;go_meet;exact ⟨by rw [Hs.out], rfl⟩
  have c1' : ¬ (1024 : Int) < KN := by omega
  by_cases c2 : bound = true /\ KN < 16
  ·obtain ⟨rfl, c2⟩ := c2
   have c2' : (KN : Int) < 16 := by omega
   have hs : bt = true := by rw [<- hb]; simp [c2]
   obtain ⟨Hs, Hb, H2', HC, Hkp, Hks⟩ := hd6 hs hb h2' hC hkp hks;clear hks hkp hC h2' hb hs;clear c2 c1;go_wp2_with fail;go_meet;exact ⟨by rw [Hs.out], rfl⟩
  have hgo : bound = false ∨ (bound = true /\ ¬ (KN : Int) < 16) := by
   cases bound
   ·exact .inl rfl
   ·simp at c2; exact .inr ⟨rfl, by omega⟩
  have hb2 : (bound && decide (KN < 16)) = false := by
   cases bound
   ·rfl
   ·simp at c2; simp [c2]
  rw [hb2] at hb;clear hb2 c2
  have hcase : (4 < P /\ bt = true) ∨ (¬ 4 < P /\ I ≠ P /\ bt = true) ∨ (¬ 4 < P /\ I = P /\ C < 0 /\ bt = true) ∨ (¬ 4 < P /\ I = P /\ ¬ C < 0 /\ 64 < C /\ bt = true) ∨ (¬ 4 < P /\ I = P /\ ¬ C < 0 /\ ¬ 64 < C /\ kp < -1 /\ bt = true) ∨ (¬ 4 < P /\ I = P /\ ¬ C < 0 /\ ¬ 64 < C /\ ¬ kp < -1 /\ C <= kp /\ bt = true) ∨ (¬ 4 < P /\ I = P /\ ¬ C < 0 /\ ¬ 64 < C /\ ¬ kp < -1 /\ ¬ C <= kp /\ bt = false) := by
   by_cases d1 : 4 < P
   ·exact .inl ⟨d1, by rw [<- hb]; simp [d1]⟩
   by_cases d2 : I = P
   case neg => exact .inr (.inl ⟨d1, d2, by rw [<- hb]; simp [d2]⟩)
   by_cases d3 : C < 0
   ·exact .inr (.inr (.inl ⟨d1, d2, d3, by rw [<- hb]; simp [d3]⟩))
   rw [hks d3] at hb
   by_cases d4 : 64 < C
   ·exact .inr (.inr (.inr (.inl ⟨d1, d2, d3, d4, by rw [<- hb]; simp [d4]⟩)))
   by_cases d5 : kp < -1
   ·exact .inr (.inr (.inr (.inr (.inl ⟨d1, d2, d3, d4, d5, by rw [<- hb]; simp [d5]⟩))))
   by_cases d6 : C <= kp
   ·exact .inr (.inr (.inr (.inr (.inr (.inl ⟨d1, d2, d3, d4, d5, d6, by rw [<- hb]; simp [d6]⟩)))))
   ·exact .inr (.inr (.inr (.inr (.inr (.inr ⟨d1, d2, d3, d4, d5, d6, by rw [<- hb]; simp [c1, d1, d2, d3, d4, d5, d6]⟩)))))
  obtain ⟨Hb, H2', HC, Hkp, Hks⟩ := hd5 hb h2' hC hkp hks;clear hks hkp hC h2' hb;clear c1
  rcases hgo with e | ⟨e, c2'⟩
  all_goals
   subst e
   rcases hcase with ⟨d1, hs⟩ | ⟨d1, d2, hs⟩ | ⟨d1, d2, d3, hs⟩ | ⟨d1, d2, d3, d4, hs⟩ | ⟨d1, d2, d3, d4, d5, hs⟩ | ⟨d1, d2, d3, d4, d5, d6, hs⟩ | ⟨d1, d2, d3, d4, d5, d6, hs⟩
   ·have d1' : (4 : Int) < P := by omega
    have Hs := Lib.hid hs;clear hs;clear d1;go_wp2_with fail;go_meet;exact ⟨by rw [Hs.out], rfl⟩
   ·have d1' : ¬ (4 : Int) < P := by omega
    have d2' : ((I : Int) != P) = true := by simp; omega
    have Hs := Lib.hid hs;clear hs;clear d1 d2;go_wp2_with fail;go_meet;exact ⟨by rw [Hs.out], rfl⟩
   all_goals
    have d1' : ¬ (4 : Int) < P := by omega
    have d2' : ((I : Int) != P) = false := by simp [d2]
    have Hs := Lib.hid hs;clear hs;clear d1 d2;go_wp2_with fail;go_meet;exact ⟨by rw [Hs.out], rfl⟩
 case rest =>
  obtain ⟨rfl, hwc⟩ := hcut;subst hwc;have hb := Hbt.out;have hrr := Hr.out;unfold head1 at hrr;rw [HK.out] at hrr
  cases bt
  case true =>
   have hs : r = false := by
    rw [<- hrr];simp only [Bool.or_eq_true] at hb
    rcases hb with (h | h) | h
    ·rw [h]; rfl
    ·rw [h]; simp
    ·rw [h]; simp
   obtain ⟨Hs, HB9, Hrr⟩ := hd3 hs hb hrr;clear hrr hb hs;go_wp2_with fail;go_ret;rw [Hs.out];exact ⟨rfl, Hb.out⟩
  case false =>
   simp only [Bool.or_eq_false_iff] at hb;obtain ⟨⟨h1, h2⟩, h3⟩ := hb;rw [h1, h2, h3] at hrr;simp only [Bool.false_or, Bool.not_false, Bool.and_true] at hrr;have hb4' := h3;unfold head2 at hb4';rw [HP.out, HI.out] at hb4';simp only [Bool.or_eq_false_iff, decide_eq_false_iff_not] at hb4';obtain ⟨⟨⟨⟨hP4, hIP⟩, hC0⟩, _⟩, _⟩ := hb4'
   have hIP : I = P := by omega
   subst hIP
   have hP4 : I <= 4 := by omega
   obtain ⟨Hrr, H1, H2, H3, HIP⟩ := hd5 hrr h1 h2 h3 hIP;clear hIP h3 h2 h1 hrr;go_wp2_with fail
   go_loopw [62] (fun i wq => ∃ j : Nat, j <= KN /\ i = .int .i64 j /\ wq = V /\ Hid (∀ k ∈ g.kinds.take j, ¬ 1 < k)) (fun i _ => KN - (intOf i).toNat)
   case atStart => exact ⟨0, by omega, rfl, rfl, (show ∀ k ∈ g.kinds.take 0, ¬ 1 < k by simp)⟩
   case round =>
    obtain ⟨j, hj, rfl, hwr, hall⟩ := hrel;subst hwr
    by_cases hjK : j < KN
    ·obtain ⟨kad, ku, hkA, _, hku, hkc⟩ := HKR1.out.at_ hjK;subst hkA
     obtain ⟨kk, hkk, rfl⟩ : ∃ kk, g.kinds[j]? = some kk /\ ku = .int .u8 kk := by
      rw [List.getElem?_map, Option.map_eq_some_iff] at hku;obtain ⟨x, h1, h2⟩ := hku;exact ⟨x, h1, h2.symm⟩
     have hmem := List.mem_of_getElem? hkk
     have hjI : (j : Int) < KN := by omega
     clear hku
     by_cases c1 : 1 < kk
     ·have hs : false = r := by
       rw [<- Hrr.out];have : (g.kinds.any fun k => decide (1 < k)) = true := List.any_eq_true.2 ⟨kk, hmem, by simp [c1]⟩;rw [this]; rfl
      obtain ⟨Hs, Hall, Hkk, Hmem⟩ := hd4 hs hall hkk hmem;clear hmem hkk hall hs;go_wp2_with fail;go_ret;rw [<- Hs.out];exact ⟨rfl, Hb.out⟩
     ·have hs : ∀ k ∈ g.kinds.take (j + 1), ¬ 1 < k := fun k hk => by
       rw [List.take_add_one, hkk] at hk
       rcases List.mem_append.1 hk with h | h
       ·exact hall.out k h
       ·simp at h; rw [h]; exact c1
      obtain ⟨Hs, Hall, Hkk, Hmem⟩ := hd4 hs hall hkk hmem;clear hmem hkk hall hs;go_wp2_with fail;exact ⟨⟨j + 1, by omega, by go_num, trivial, Lib.hid Hs.out⟩, by simp [intOf]; omega⟩
    ·have hjI : ¬ (j : Int) < KN := by omega
     have hr4 : ((List.range I).all (parB g bound) && head3 g) = r := by
      have h1 := Hrr.out;rw [List.take_of_length_le (by rw [HK.out]; omega)] at hall
      have : (g.kinds.any fun k => decide (1 < k)) = false := by
       rcases hq : (g.kinds.any fun k => decide (1 < k)) with _ | _
       ·rfl
       ·obtain ⟨k, hk, h2⟩ := List.any_eq_true.1 hq;exact absurd (of_decide_eq_true h2) (hall.out k hk)
      rw [this, Bool.not_false, Bool.true_and] at h1;exact h1
     obtain ⟨Hr4, Hall⟩ := hd2 hr4 hall;clear hall hr4;go_wp2_with fail;obtain ⟨W0, hW0⟩ := nm (wr);clear p0 p1 p2 p3 p5 p6 p7
     go_loopw [72] (fun i wq => ∃ j : Nat, j <= I /\ i = .int .i64 j /\ Below W0.heap.size W0 wq /\ Hid (∀ k, k < j -> parB g bound k = true)) (fun i _ => I - (intOf i).toNat)
     case atStart => exact ⟨0, by omega, rfl, by rw [hW0]; exact Below.refl _ _, (show ∀ k, k < 0 -> parB g bound k = true by omega)⟩
     case round =>
      subst hW0;obtain ⟨j, hj, rfl, hbq, hall⟩ := hrel;have hbnd := Hb.out.trans (hbq.mono Hb.out.size);have hBq := HBk.out.below hbq hGl;have hKAq := HKA.out.below (hbq.mono hBV);have hPq := HPR1.out.below (hbq.mono hBV);have hIq := HIR1.out.below (hbq.mono hBV);have hKRq := HKR1.out.below (hbq.mono hBV);have hsq := hbq.size;obtain ⟨p0, p1, p2, p3, p5, p6, p7⟩ := HCELL.out wr hBq
      by_cases hjm : j < I
      ·obtain ⟨pad, pu, hPA, _, hpu, hpce⟩ := hPq.at_ hjm;subst hPA
       obtain ⟨p, hpp, rfl⟩ : ∃ pp, g.params[j]? = some pp /\ pu = .int .i64 pp := by
        rw [List.getElem?_map, Option.map_eq_some_iff] at hpu;obtain ⟨x, h1, h2⟩ := hpu;exact ⟨x, h1, h2.symm⟩
       obtain ⟨iad, iu, hIA, _, hiu, hice⟩ := hIq.at_ hjm;subst hIA
       obtain ⟨k, hik, rfl⟩ : ∃ pp, g.init[j]? = some pp /\ iu = .int .i64 pp := by
        rw [List.getElem?_map, Option.map_eq_some_iff] at hiu;obtain ⟨x, h1, h2⟩ := hiu;exact ⟨x, h1, h2.symm⟩
       have hpg : g.params.getD j 0 = p := by rw [List.getD_eq_getElem?_getD, hpp]; rfl
       have hig : g.init.getD j 0 = k := by rw [List.getD_eq_getElem?_getD, hik]; rfl
       obtain ⟨b9, hb9⟩ := mn ((decide (p < 0) || decide ((KN : Int) <= p) || decide (p ∈ g.params.take j) || (bound && decide (p ≠ j))));obtain ⟨b12, hb12⟩ := mn ((decide (k ≠ -1) && (!cellB g k || !isB g bound 0 [p])))
       have hpar : parB g bound j = (!b9 && !b12) := by unfold parB; rw [hpg, hig, HK.out, hb9, hb12]
       rw [init_same g bound k p (by omega)] at hb12
       have hRj : Reads wr B 1 (some pad) j ((g.params.take j).map (Value.int .i64)) := by
        refine ⟨by rw [List.length_map, List.length_take, HP.out]; omega, fun hn => ?_⟩;obtain ⟨ad, e1, e2, e3⟩ := hPq.2 (by omega);refine ⟨ad, e1, e2, fun i u hu => e3 i u ?_⟩;rw [List.getElem?_map, List.getElem?_take] at hu
        split at hu
        ·rw [List.getElem?_map]; exact hu
        ·cases hu
       have hlj : (g.params.take j).length = j := by rw [List.length_take, HP.out]; omega
       have hbad : parB g bound j = false -> r = false := fun hf => by
        rw [<- Hr4.out]
        rcases hq : (List.range I).all (parB g bound) with _ | _
        ·rfl
        ·rw [List.all_eq_true.1 hq j (List.mem_range.2 hjm)] at hf; cases hf
       have hstep : parB g bound j = true -> ∀ i, i < j + 1 -> parB g bound i = true := fun hf i hi => by
        by_cases e : i = j
        ·rw [e]; exact hf
        ·exact hall.out i (by omega)
       have hjI : (j : Int) < I := by omega
       have hjI2 : (j : Int) <= I := by omega
       have hjpc : j <= pc := by omega
       have hjpcI : (j : Int) <= pc := by omega
       clear hpu hiu;obtain ⟨Hbq, Hall, HPq, HIq, Hpp, Hik, Hpg, Hig⟩ := hd8 hbq hall hPq hIq hpp hik hpg hig;obtain ⟨Hb9, Hb12, Hpar, HRj, Hlj, Hbad, Hstep, Hbnd⟩ := hd8 hb9 hb12 hpar hRj hlj hbad hstep hbnd;obtain ⟨HBq, HKAq, HKRq⟩ := hd3 hBq hKAq hKRq;clear hKRq hKAq hBq hbnd hstep hbad hlj hRj hpar hb12 hb9 hig hpg hik hpp hIq hPq hall hbq;go_upto_region 12 with fail
       go_cut [101] from 77 to 101 (fun t wx => t = .bool b9 /\ wr = wx)
       case first =>
        have hb := Hb9.out
        by_cases c1 : p < 0
        ·have hs : b9 = true := by rw [<- hb]; simp [c1]
         obtain ⟨Hs, Hb⟩ := hd2 hs hb;clear hb hs;go_wp2_with fail;go_meet;exact ⟨by rw [Hs.out], rfl⟩
        by_cases c2 : (KN : Int) <= p
        ·have hs : b9 = true := by rw [<- hb]; simp [c2]
         obtain ⟨Hs, Hb⟩ := hd2 hs hb;clear hb hs;go_wp2_with fail;go_meet;exact ⟨by rw [Hs.out], rfl⟩
        obtain ⟨bc, hbc⟩ := mn (decide (p ∈ g.params.take j));rw [hbc] at hb;obtain ⟨Hb, Hbc⟩ := hd2 hb hbc;clear hbc hb;go_wp2_with fail;refine (in_any wr B (some pad) j pc (g.params.take j) HRj.out Hlj.out (by omega) p).mono ?_;rintro e w1 ⟨rfl, rfl⟩;rw [Hbc.out];have hb := Hb.out
        cases bc
        ·cases bound
         ·have hs : b9 = false := by rw [<- hb]; simp [c1, c2]
          obtain ⟨Hs, Hb⟩ := hd2 hs hb;clear hb hs;go_wp2_with fail;go_meet;exact ⟨by rw [Hs.out], rfl⟩
         ·by_cases c3 : p = j
          ·have c3' : (p != (j : Int)) = false := by simp [c3]
           have hs : b9 = false := by rw [<- hb]; simp [c1, c2, c3]; omega
           obtain ⟨Hs, Hb, Hc3⟩ := hd3 hs hb c3;clear c3 hb hs;go_wp2_with fail;go_meet;exact ⟨by rw [Hs.out], rfl⟩
          ·have c3' : (p != (j : Int)) = true := by simp [c3]
           have hs : b9 = true := by rw [<- hb]; simp [c3]
           obtain ⟨Hs, Hb, Hc3⟩ := hd3 hs hb c3;clear c3 hb hs;go_wp2_with fail;go_meet;exact ⟨by rw [Hs.out], rfl⟩
        ·have hs : b9 = true := by rw [<- hb]; simp
         obtain ⟨Hs, Hb⟩ := hd2 hs hb;clear hb hs;go_wp2_with fail;go_meet;exact ⟨by rw [Hs.out], rfl⟩
       case rest =>
        obtain ⟨rfl, hwc2⟩ := hcut;subst hwc2
        cases b9
        case true =>
         have hs := Hbad.out (by rw [Hpar.out]; rfl);have Hs := Lib.hid hs;clear hs;go_wp2_with fail;go_ret;rw [Hs.out];exact ⟨rfl, Hbnd.out⟩
        case false =>
         go_upto_region 14 with fail
         go_cut [132] from 102 to 132 (fun t wx => t = .bool b12 /\ Below wr.heap.size wr wx)
         case first =>
          have hb := Hb12.out;have lG : G < wr.heap.size := HBq.out.lt
          have li : (iad.add j).block < wr.heap.size := by
           obtain ⟨ad, e1, e2, _⟩ := HIq.out.2 (by omega);injection e1 with e1;subst e1;rw [block_add]; have := hBV; omega
          obtain ⟨C, hC⟩ := mn (g.cells);rw [hC] at p2 hb
          have hrange : wr.drew.rangeAt G 0 (gcells g (.slice (some pad) I pc) (.slice KA KN kc) (.slice (some iad) I ic) (.slice NA nn nc)) := fun j v hv => by
           show wr.cell? _ = _;rw [HBq.out.cell (0 + j), HCS.out, Nat.zero_add];exact (List.getElem?_toArray ..).trans hv
          obtain ⟨Hrange, HC⟩ := hd2 hrange hC;clear hC hrange;refine wp_region_noPanic ?_;refine wp_region_held_drew (S := fun W => W.rangeAt G 0 (gcells g (.slice (some pad) I pc) (.slice KA KN kc) (.slice (some iad) I ic) (.slice NA nn nc)) /\ W.cell? ⟨G, 2, none⟩ = some (.int .i64 C) /\ W.cell? ⟨G, 3, none⟩ = some (.slice (some iad) I ic) /\ W.cell? (iad.add j) = some (.int .i64 k)) (by kernel_rfl) ⟨Hrange.out, p2, p3, hice⟩ (fun hHeld => ?_)
          by_cases c1 : k < -1
          ·have hs : b12 = true := by rw [<- hb]; simp [c1]
           obtain ⟨Hs, Hb⟩ := hd2 hs hb;clear hb hs;refine wpAnyH_tk 0 ?_;refine wpAnyH_tk 1 ?_;refine wpAnyH_tk 2 ?_;refine wpAnyH_tk 3 ?_;refine wpAnyH_tk 4 ?_;refine wpAnyH_tk 5 ?_;refine wpAnyH_tk 6 ?_;refine wpAnyH_sk 7 ?_;refine wpAnyH_sk 8 ?_;refine wpAnyH_sk 9 ?_;refine wpAnyH_sk 10 ?_;refine wpAnyH_sk 11 ?_;refine wpAnyH_sk 12 ?_;refine wpAnyH_sk 13 ?_;refine wpAnyH_sk 14 ?_;refine wpAnyH_tk 15 ?_;refine wpAnyH_tk 16 ?_;refine wpAnyH_sk 17 ?_;refine wpAnyH_sk 18 ?_;refine wpAnyH_sk 19 ?_;refine wpAnyH_sk 20 ?_;refine wpAnyH_sk 21 ?_;refine wpAnyH_sk 22 ?_;refine wpAnyH_sk 23 ?_;refine wpAnyH_sk 24 ?_;refine wpAnyH_sk 25 ?_;refine wpAnyH_sk 26 ?_;refine wpAnyH_sk 27 ?_;refine wpAnyH_sk 28 ?_;refine wpAnyH_sk 29 ?_;refine wpAnyH_tk 30 ?_;refine wpAnyH_done (by kernel_rfl) ?_ _;refine NoPanic.normal ?_;clear hHeld;go_wp2_with fail;go_meet;exact ⟨by rw [Hs.out], (Below.refl _ _).drew⟩
          by_cases c2 : C <= k
          ·have hs : b12 = true := by rw [<- hb]; simp [c2]
           obtain ⟨Hs, Hb⟩ := hd2 hs hb;clear hb hs;refine wpAnyH_tk 0 ?_;refine wpAnyH_tk 1 ?_;refine wpAnyH_tk 2 ?_;refine wpAnyH_tk 3 ?_;refine wpAnyH_tk 4 ?_;refine wpAnyH_tk 5 ?_;refine wpAnyH_tk 6 ?_;refine wpAnyH_tk 7 ?_;refine wpAnyH_tk 8 ?_;refine wpAnyH_tk 9 ?_;refine wpAnyH_tk 10 ?_;refine wpAnyH_tk 11 ?_;refine wpAnyH_tk 12 ?_;refine wpAnyH_tk 13 ?_;refine wpAnyH_tk 14 ?_;refine wpAnyH_tk 15 ?_;refine wpAnyH_tk 16 ?_;refine wpAnyH_sk 17 ?_;refine wpAnyH_sk 18 ?_;refine wpAnyH_sk 19 ?_;refine wpAnyH_sk 20 ?_;refine wpAnyH_sk 21 ?_;refine wpAnyH_sk 22 ?_;refine wpAnyH_sk 23 ?_;refine wpAnyH_sk 24 ?_;refine wpAnyH_sk 25 ?_;refine wpAnyH_sk 26 ?_;refine wpAnyH_sk 27 ?_;refine wpAnyH_sk 28 ?_;refine wpAnyH_sk 29 ?_;refine wpAnyH_tk 30 ?_;refine wpAnyH_done (by kernel_rfl) ?_ _;refine NoPanic.normal ?_;clear hHeld;go_wp2_with fail;go_meet;exact ⟨by rw [Hs.out], (Below.refl _ _).drew⟩
          by_cases c3 : 0 <= k
          ·have hs : (!fitsB g bound 0 p) = b12 := by rw [<- hb]; simp [c1, c2, c3]
           obtain ⟨bf, hbf⟩ := mn (fitsB g bound 0 p);rw [hbf] at hs;have hft := fits_any wr.drew g (.slice (some pad) I pc) (.slice KA KN kc) (.slice (some iad) I ic) (.slice NA nn nc) B (by show B <= wr.heap.size; omega) (by have h := HKAq.out; rw [Hkv.out] at h; exact h) (by rw [HK.out]; exact hkm) bound p 0;rw [hag, hbf] at hft;obtain ⟨Hs, Hb, Hbf, Hft⟩ := hd4 hs hb hbf hft;clear hft hbf hb hs;refine wpAnyH_tk 0 ?_;refine wpAnyH_tk 1 ?_;refine wpAnyH_tk 2 ?_;refine wpAnyH_tk 3 ?_;refine wpAnyH_tk 4 ?_;refine wpAnyH_tk 5 ?_;refine wpAnyH_tk 6 ?_;refine wpAnyH_tk 7 ?_;refine wpAnyH_tk 8 ?_;refine wpAnyH_tk 9 ?_;refine wpAnyH_tk 10 ?_;refine wpAnyH_tk 11 ?_;refine wpAnyH_tk 12 ?_;refine wpAnyH_tk 13 ?_;refine wpAnyH_tk 14 ?_;refine wpAnyH_tk 15 ?_;refine wpAnyH_tk 16 ?_;refine wpAnyH_tk 17 ?_;refine wpAnyH_tk 18 ?_;refine wpAnyH_tk 19 ?_;refine wpAnyH_tk 20 ?_;refine wpAnyH_tk 21 ?_;refine wpAnyH_tk 22 ?_;refine wpAnyH_tk 23 ?_;refine wpAnyH_take (i := 24) rfl (by kernel_rfl) (by kernel_rfl) (by kernel_rfl) (fun _ _ _ h => h) (yieldsIf_load_mid (by rfl) 48 _ rfl G 0 rfl (gcells g (.slice (some pad) I pc) (.slice KA KN kc) (.slice (some iad) I ic) (.slice NA nn nc)) _ (fun w h => h.1) Try.underlying48 rfl (by kernel_rfl)) (by assumption) ?_;refine lay ?_;refine wpAnyH_tk 25 ?_;refine wpAnyH_tk 26 ?_;refine wpAnyH_rd 27 (fun K hK => ?_);go_simp;refine Hft.out.mono ?_;rintro e w9 ⟨rfl, hb9'⟩
           have hr9 : w9.rangeAt G 0 (gcells g (.slice (some pad) I pc) (.slice KA KN kc) (.slice (some iad) I ic) (.slice NA nn nc)) := fun j v hv => (hb9'.cell (p := ⟨G, 0 + j, none⟩) lG).trans (Hrange.out j v hv)
           refine hK.out _ _ ⟨hr9, (hb9'.cell (p := ⟨G, 2, none⟩) lG).trans p2, (hb9'.cell (p := ⟨G, 3, none⟩) lG).trans p3, (hb9'.cell (p := iad.add j) li).trans hice⟩ (fun hHeld2 => ?_);obtain ⟨Hr9, Hb9'⟩ := hd2 hr9 hb9';clear hb9' hr9;clear hK K hHeld;refine lay ?_;refine wpAnyH_tk 28 ?_;refine wpAnyH_tk 29 ?_;refine wpAnyH_tk 30 ?_;refine wpAnyH_done (by kernel_rfl) ?_ _;refine NoPanic.normal ?_;clear hHeld2;go_wp2_with fail;go_meet;exact ⟨by rw [Hs.out], (Below.refl _ wr).drew.trans Hb9'.out⟩
          ·have hs : b12 = false := by rw [<- hb]; simp [c1, c2, c3]
           obtain ⟨Hs, Hb⟩ := hd2 hs hb;clear hb hs;refine wpAnyH_tk 0 ?_;refine wpAnyH_tk 1 ?_;refine wpAnyH_tk 2 ?_;refine wpAnyH_tk 3 ?_;refine wpAnyH_tk 4 ?_;refine wpAnyH_tk 5 ?_;refine wpAnyH_tk 6 ?_;refine wpAnyH_tk 7 ?_;refine wpAnyH_tk 8 ?_;refine wpAnyH_tk 9 ?_;refine wpAnyH_tk 10 ?_;refine wpAnyH_tk 11 ?_;refine wpAnyH_tk 12 ?_;refine wpAnyH_tk 13 ?_;refine wpAnyH_tk 14 ?_;refine wpAnyH_tk 15 ?_;refine wpAnyH_tk 16 ?_;refine wpAnyH_tk 17 ?_;refine wpAnyH_tk 18 ?_;refine wpAnyH_tk 19 ?_;refine wpAnyH_tk 20 ?_;refine wpAnyH_tk 21 ?_;refine wpAnyH_tk 22 ?_;refine wpAnyH_tk 23 ?_;refine wpAnyH_sk 24 ?_;refine wpAnyH_sk 25 ?_;refine wpAnyH_sk 26 ?_;refine wpAnyH_sk 27 ?_;refine wpAnyH_sk 28 ?_;refine wpAnyH_tk 29 ?_;refine wpAnyH_tk 30 ?_;refine wpAnyH_done (by kernel_rfl) ?_ _;refine NoPanic.normal ?_;clear hHeld;go_wp2_with fail;go_meet;exact ⟨by rw [Hs.out], (Below.refl _ _).drew⟩
         case rest =>
          obtain ⟨rfl, hb8⟩ := hcut;have hbe := Hbq.out.trans (hb8.mono Hbq.out.size);have hbe2 := Hbnd.out.trans (hb8.mono Hbnd.out.size)
          cases b12
          case true =>
           have hs := Hbad.out (by rw [Hpar.out]; rfl);obtain ⟨Hs, Hbe, Hbe2⟩ := hd3 hs hbe hbe2;clear hbe2 hbe hs;go_wp2_with fail;go_ret;rw [Hs.out];exact ⟨rfl, Hbe2.out⟩
          case false =>
           have hs := Hstep.out (by rw [Hpar.out]; rfl);obtain ⟨Hs, Hbe, Hbe2⟩ := hd3 hs hbe hbe2;clear hbe2 hbe hs;go_wp2_with fail;exact ⟨⟨j + 1, by omega, by go_num, Hbe.out, Lib.hid Hs.out⟩, by simp [intOf]; omega⟩
      ·obtain ⟨b15, hb15⟩ := mn (head3 g)
       have hr5 : b15 = r := by
        have h1 := Hr4.out;rw [List.all_eq_true.2 (fun k hk => hall.out k (by have := List.mem_range.1 hk; omega)), Bool.true_and, hb15] at h1;exact h1
       have hb15' := hb15;unfold head3 at hb15';obtain ⟨en, hen⟩ := mn (g.entry);rw [hen] at p7 hb15';rw [Hnn.out] at hb15'
       have hcase : (nn = 0 /\ b15 = false) ∨ (0 < nn /\ 4096 < nn /\ b15 = false) ∨ (0 < nn /\ nn <= 4096 /\ en < 0 /\ b15 = false) ∨ (0 < nn /\ nn <= 4096 /\ 0 <= en /\ (nn : Int) <= en /\ b15 = false) ∨ (0 < nn /\ nn <= 4096 /\ 0 <= en /\ en < nn /\ b15 = true) := by
        rw [<- hb15']
        by_cases d1 : 0 < nn
        ·by_cases d2 : nn <= 4096
         ·by_cases d3 : 0 <= en
          ·by_cases d4 : en < nn
           ·exact .inr (.inr (.inr (.inr ⟨d1, d2, d3, d4, by simp [d1, d2, d3, d4]⟩)))
           ·exact .inr (.inr (.inr (.inl ⟨d1, d2, d3, by omega, by simp [d4]⟩)))
          ·exact .inr (.inr (.inl ⟨d1, d2, by omega, by simp [d3]⟩))
         ·exact .inr (.inl ⟨d1, by omega, by simp [d2]⟩)
        ·exact .inl ⟨by omega, by simp [d1]⟩
       have hjI : ¬ (j : Int) < I := by omega
       obtain ⟨Hr5, Hb15', Hall, Hbq, HPq, HIq, HKAq, HKRq⟩ := hd8 hr5 hb15' hall hbq hPq hIq hKAq hKRq;obtain ⟨HBq, Hbnd, Hen, Hb15⟩ := hd4 hBq hbnd hen hb15;clear hb15 hen hbnd hBq hKRq hKAq hIq hPq hbq hall hb15' hr5;go_upto_region 17 with fail
       rcases hcase with ⟨d1, hs⟩ | ⟨d1, d2, hs⟩ | ⟨d1, d2, d3, hs⟩ | ⟨d1, d2, d3, d4, hs⟩ | ⟨d1, d2, d3, d4, hs⟩
       ·have hD1 : ¬ (1 : Int) <= nn := by omega
        have hD2 : ¬ 0 < nn := by omega
        have Hs := Lib.hid hs;clear hs;clear d1;go_wp2_with fail;go_ret;rw [<- Hr5.out, Hs.out];exact ⟨rfl, Hbnd.out⟩
       ·have hD1 : ¬ (nn : Int) <= 4096 /\ (1 : Int) <= nn := by omega
        have hD2 : 0 < nn := by omega
        have Hs := Lib.hid hs;clear hs;clear d1;go_wp2_with fail;go_ret;rw [<- Hr5.out, Hs.out];exact ⟨rfl, Hbnd.out⟩
       ·have hD1 : (nn : Int) <= 4096 /\ ¬ 0 <= en := by omega
        have hD2 : (1 : Int) <= nn := by omega
        have Hs := Lib.hid hs;clear hs;clear d1;go_wp2_with fail;go_ret;rw [<- Hr5.out, Hs.out];exact ⟨rfl, Hbnd.out⟩
       ·have hD1 : (nn : Int) <= 4096 /\ 0 <= en /\ ¬ en < nn := by omega
        have hD2 : (1 : Int) <= nn := by omega
        have Hs := Lib.hid hs;clear hs;clear d1;go_wp2_with fail;go_ret;rw [<- Hr5.out, Hs.out];exact ⟨rfl, Hbnd.out⟩
       ·have hD1 : (nn : Int) <= 4096 /\ 0 <= en /\ en < nn := by omega
        have hD2 : (1 : Int) <= nn := by omega
        have Hs := Lib.hid hs;clear hs;clear d1;go_wp2_with fail;go_ret;rw [<- Hr5.out, Hs.out];exact ⟨rfl, Hbnd.out⟩
end Go.Proofs.Ytncpehhfjkncoaa
namespace Go.Proofs.Ytncpehhfjkncoaa
open Go.RowKit

def wantA (op : Int) : Array UInt8 :=
 if op = 1 then #[110, 45, 45, 45] else if op = 2 then #[61, 45, 61, 45] else if op = 3 then #[110, 45, 110, 110] else if op = 4 then #[110, 45, 45, 45] else if op = 5 then #[45, 45, 110, 45]
 else if op = 6 then #[112, 45, 45, 45] else if op = 7 then #[110, 45, 112, 45] else if op = 8 then #[45, 45, 112, 110] else if op = 9 then #[45, 45, 110, 45] else if op = 10 then #[45, 45, 45, 45]
 else if op = 11 then #[45, 45, 45, 45] else if op = 12 then #[45, 45, 45, 45] else if op = 13 then #[45, 45, 45, 45] else if op = 14 then #[45, 45, 110, 45] else if op = 15 then #[110, 110, 45, 45]
 else if op = 16 then #[110, 45, 45, 45] else if op = 17 then #[45, 45, 110, 45] else #[45, 45, 110, 45]
theorem op_cases {op : Int} (h1 : 1 <= op) (h2 : op <= 18) : op = 1 ∨ op = 2 ∨ op = 3 ∨ op = 4 ∨ op = 5 ∨ op = 6 ∨ op = 7 ∨ op = 8 ∨ op = 9 ∨ op = 10 ∨ op = 11 ∨ op = 12 ∨ op = 13 ∨ op = 14 ∨ op = 15 ∨ op = 16 ∨ op = 17 ∨ op = 18 := by omega
theorem ite_size {c : Prop} [Decidable c] {a b : Array UInt8} (ha : a.size = 4) (hb : b.size = 4) : (if c then a else b).size = 4 := by
 split
 ·exact ha
 ·exact hb
theorem wantA_size (op : Int) : (wantA op).size = 4 := by
 unfold wantA
 repeat (refine ite_size rfl ?_)
 rfl
theorem want_any (w : World) (op : Int) (h1 : 1 <= op) (h2 : op <= 18) :
  Calls Try.prog 36 #[.int .u8 op] w fun e w' => e = .returned (.string ⟨wantA op⟩) /\ Below w.heap.size w w' := by
 rcases op_cases h1 h2 with e | e | e | e | e | e | e | e | e | e | e | e | e | e | e | e | e | e
 all_goals
  subst e;clear h1 h2;go_enter Try.func36, Try.ntmps36;go_wp2_with fail;go_ret;exact ⟨rfl, (Below.refl _ _).alloc (Nat.le_refl _) _⟩
def chk (g : GraphD) (bound : Bool) (c : Nat) (p : Int) : Bool := if c = 110 then fitsB g bound 0 p else if c = 112 then fitsB g bound 1 p else true
def wantB (g : GraphD) (bound : Bool) (x : NodeD) : Bool := (List.range 4).all fun j => chk g bound ((wantA x.op).getD j 0).toNat ([x.d, x.e, x.a, x.b].getD j 0)
def tailB (gs : List GraphD) (g : GraphD) (bound : Bool) (x : NodeD) : Bool :=
 if x.op = 2 then (fitsB g bound 0 x.d && fitsB g bound 0 x.a) || (fitsB g bound 1 x.d && fitsB g bound 1 x.a)
 else if x.op = 3 then decide (7 <= x.byo) && decide (x.byo <= 20)
 else if x.op = 4 ∨ x.op = 5 ∨ x.op = 6 then cellB g x.cell
 else if x.op = 15 then decide (x.d ≠ x.e)
 else if x.op = 12 then (if x.a = -1 then !g.result else g.result && fitsB g bound 0 x.a)
 else if x.op = 13 then argsB gs g bound x
 else if x.op = 11 then argsB gs g bound x && (decide (x.d = -1) || ((match gs[x.f.toNat]? with | none => false | some f => f.result) && fitsB g bound 0 x.d && (!bound || decide (x.d = 0))))
 else true
theorem op_want (gs : List GraphD) (g : GraphD) (bound : Bool) (x : NodeD) (h1 : 1 <= x.op) (h2 : x.op <= 18) : opB gs g bound x = (wantB g bound x && tailB gs g bound x) := by
 obtain ⟨op, byo, d, e_, a, b, f, cell, imm, args, next, els⟩ := x;simp only at h1 h2;have hr : List.range 4 = [0, 1, 2, 3] := rfl
 have e1 : decide (a ≠ -1) = !decide (a = -1) := by simp
 rcases op_cases h1 h2 with h | h | h | h | h | h | h | h | h | h | h | h | h | h | h | h | h | h
 all_goals
  subst h;simp only [opB, wantB, tailB, hr, wantA, isB, chk, List.all_cons, List.all_nil];simp
 all_goals try (generalize fitsB g bound 0 d = A)
 all_goals try (generalize fitsB g bound 0 a = B)
 all_goals try (generalize fitsB g bound 1 a = B1)
 all_goals try (generalize fitsB g bound 1 d = A1)
 all_goals try (generalize fitsB g bound 0 b = C)
 all_goals try (generalize fitsB g bound 0 e_ = D)
 all_goals try (generalize cellB g cell = E)
 all_goals try (generalize argsB gs g bound _ = F)
 all_goals first
  | exact Bool.and_comm _ _
  | ((by_cases ha : a = -1 <;> simp [ha]); done)
  | ((cases A <;> simp); done)
  | ((cases hq : gs[f.toNat]? <;> cases A <;> simp); done)
end Go.Proofs.Ytncpehhfjkncoaa
namespace Go.Proofs.Ytncpehhfjkncoaa
open Go.RowKit

theorem refnext_any (w : World) (x : NodeD) (av : Value) :
  Calls Try.prog 35 #[.agg (ncells x av).toArray] w fun e w' => (∃ v, e = .returned v /\ Lst w' v (nextL x)) /\ Below w.heap.size w w' := by
 obtain ⟨N, hN⟩ := mn (nextL x);rw [hN];unfold nextL at hN;obtain ⟨op, byo, d, e_, a, b, f, cell, imm, args, next, els⟩ := x;simp only at hN;simp only [ncells];obtain ⟨G, hG⟩ := nm (w.heap.size);have hP := Blk.new w 52 #[.int .u8 op, .int .u8 byo, .int .i64 d, .int .i64 e_, .int .i64 a, .int .i64 b, .int .i64 f, .int .i64 cell, .int .u64 imm, av, .int .i64 next, .int .i64 els];have hb := (Below.refl w.heap.size w).alloc (Nat.le_refl _) (.cells #[.int .u8 op, .int .u8 byo, .int .i64 d, .int .i64 e_, .int .i64 a, .int .i64 b, .int .i64 f, .int .i64 cell, .int .u64 imm, av, .int .i64 next, .int .i64 els] 52);rw [<- hG] at hP;have kp0 := bc hP 0;have kp10 := bc hP 10;have kp11 := bc hP 11;obtain ⟨V, hV⟩ := nm (w.alloc (.cells #[.int .u8 op, .int .u8 byo, .int .i64 d, .int .i64 e_, .int .i64 a, .int .i64 b, .int .i64 f, .int .i64 cell, .int .u64 imm, av, .int .i64 next, .int .i64 els] 52));rw [<- hV] at hb hP kp0 kp10 kp11;obtain ⟨Hb, HP, HV, HG⟩ := hd4 hb hP hV hG;clear hG hV hP hb
 by_cases e12 : op = 12 ∨ op = 14 ∨ op = 18
 ·rw [if_pos e12] at hN;subst hN
  rcases e12 with e | e | e
  all_goals
   subst e;go_enter Try.func35, Try.ntmps35;go_upto_region 1 with fail;rw [<- HV.out, <- HG.out];go_wp2_with fail;go_ret;exact ⟨⟨_, rfl, Lst.nil _⟩, Hb.out⟩
 rw [if_neg e12] at hN
 have b12 : (op == 12) = false := by rw [beq_eq_false_iff_ne]; omega
 have b14 : (op == 14) = false := by rw [beq_eq_false_iff_ne]; omega
 have b18 : (op == 18) = false := by rw [beq_eq_false_iff_ne]; omega
 by_cases e9 : op = 9
 ·subst e9;clear b12 b14 b18
  by_cases en : els = next
  ·have bn : (els != next) = false := by simp [en]
   rw [if_neg (fun h => h.2 en), if_neg (by omega)] at hN;subst hN;obtain ⟨Hen, He12⟩ := hd2 en e12;clear e12 en;go_enter Try.func35, Try.ntmps35;go_upto_region 1 with fail;rw [<- HV.out, <- HG.out];go_wp2_with fail;go_ret;exact ⟨⟨_, rfl, Lst.new _ _ [next] (by simp) (by simp) rfl rfl⟩, Hb.out.alloc Hb.out.size _⟩
  ·have bn : (els != next) = true := by simp [en]
   rw [if_pos ⟨rfl, en⟩] at hN;subst hN;obtain ⟨Hen, He12⟩ := hd2 en e12;clear e12 en;go_enter Try.func35, Try.ntmps35;go_upto_region 1 with fail;rw [<- HV.out, <- HG.out];go_wp2_with fail;go_ret;exact ⟨⟨_, rfl, Lst.new _ _ [next, els] (by simp) (by simp) rfl rfl⟩, Hb.out.alloc Hb.out.size _⟩
 have b9 : (op == 9) = false := by rw [beq_eq_false_iff_ne]; omega
 rw [if_neg (fun h => e9 h.1)] at hN
 have hcase : (op < 1 /\ N = []) ∨ (¬ op < 1 /\ 18 < op /\ N = []) ∨ (¬ op < 1 /\ ¬ 18 < op /\ N = [next]) := by
  by_cases h1 : op < 1
  ·rw [if_pos (.inl h1)] at hN; exact .inl ⟨h1, hN.symm⟩
  ·by_cases h2 : 18 < op
   ·rw [if_pos (.inr h2)] at hN; exact .inr (.inl ⟨h1, h2, hN.symm⟩)
   ·rw [if_neg (by omega)] at hN; exact .inr (.inr ⟨h1, h2, hN.symm⟩)
 obtain ⟨He12, He9, HN⟩ := hd3 e12 e9 hN;clear hN e9 e12
 rcases hcase with ⟨h1, rfl⟩ | ⟨h1, h2, rfl⟩ | ⟨h1, h2, rfl⟩
 ·go_enter Try.func35, Try.ntmps35;go_upto_region 1 with fail;rw [<- HV.out, <- HG.out];go_wp2_with fail;go_ret;exact ⟨⟨_, rfl, Lst.nil _⟩, Hb.out⟩
 ·go_enter Try.func35, Try.ntmps35;go_upto_region 1 with fail;rw [<- HV.out, <- HG.out];go_wp2_with fail;go_ret;exact ⟨⟨_, rfl, Lst.nil _⟩, Hb.out⟩
 ·go_enter Try.func35, Try.ntmps35;go_upto_region 1 with fail;rw [<- HV.out, <- HG.out];go_wp2_with fail;go_ret;exact ⟨⟨_, rfl, Lst.new _ _ [next] (by simp) (by simp) rfl rfl⟩, Hb.out.alloc Hb.out.size _⟩
def nd0 : NodeD := ⟨12, 0, 0, 0, -1, 0, 0, 0, 0, [], 0, 0⟩
def gr0 : GraphD := ⟨[], [], 0, [], false, -1, [nd0], 0⟩
def nd1 : NodeD := ⟨11, 0, 2, 0, 0, 0, 0, 0, 0, [3, 3, 4], 0, 0⟩
end Go.Proofs.Ytncpehhfjkncoaa
