/- Walks of the document's question whether a graph is right but for its nodes. Conditions: the graph lies in memory. -/
import Derived.Test.YtncpehhfjkncoaaIrReads
import Derived.Test.YtncpehhfjkncoaaIrCall
set_option linter.unusedVariables false
set_option linter.unusedSimpArgs false
namespace Go.Proofs.Ytncpehhfjkncoaa
open Go.RowKit

set_option maxRecDepth 100000 in
set_option maxHeartbeats 4000000 in
theorem fits_any (w : World) (g : GraphD) (pv kv iv nv : Value) (B : Nat) (hB : B ≤ w.heap.size) (hk : NumsAt .u8 w B kv g.kinds) (hkm : g.kinds.length ≤ 140737488351232) (bound : Bool) (p k : Int) :
    Calls Try.prog 34 #[.agg (gcells g pv kv iv nv).toArray, .bool bound, .int .i64 p, .int .u8 k] w fun e w' => e = .returned (.bool (fitsB g bound k p)) ∧ Below w.heap.size w w' := by
  obtain ⟨r, hr⟩ : ∃ r, fitsB g bound k p = r := ⟨_, rfl⟩
  rw [hr]
  unfold fitsB at hr
  obtain ⟨KA, kc, rfl, _, _, hK⟩ := hk.slice
  obtain ⟨L, hL⟩ : ∃ L, g.kinds.length = L := ⟨_, rfl⟩
  rw [hL] at hK hr hkm
  obtain ⟨CS, hCS⟩ : ∃ CS, CS = (gcells g pv (.slice KA L kc) iv nv).toArray := ⟨_, rfl⟩
  rw [hL, ← hCS]
  obtain ⟨G, hG⟩ : ∃ G, G = w.heap.size := ⟨_, rfl⟩
  have hP := Blk.new w 48 CS
  have hb := (Below.refl w.heap.size w).alloc (Nat.le_refl _) (.cells CS 48)
  have hKV := hK.below (hb.mono hB)
  rw [← hG] at hP
  obtain ⟨V, hV⟩ : ∃ V, V = w.alloc (.cells CS 48) := ⟨_, rfl⟩
  rw [← hV] at hb hP hKV
  have kp1 := hP.cell 1
  have e1 : CS[1]? = some (.slice KA L kc) := by rw [hCS]; rfl
  rw [e1] at kp1
  have Hb := Lib.hid hb
  have HP := Lib.hid hP
  have HK := Lib.hid hK
  have HKV := Lib.hid hKV
  have HV := Lib.hid hV
  have HG := Lib.hid hG
  have HCS := Lib.hid hCS
  have He1 := Lib.hid e1
  have HL := Lib.hid hL
  clear hL e1 hCS hG hV hKV hK hP hb
  by_cases c0 : 0 ≤ p
  · obtain ⟨P, rfl⟩ := Int.eq_ofNat_of_zero_le c0
    by_cases c1 : P < L
    · have c1' : (P : Int) < L := by omega
      cases bound
      · obtain ⟨kad, ku, hkA, _, hku, hkc⟩ := HKV.out.at_ c1
        subst hkA
        obtain ⟨kk, hkk, rfl⟩ : ∃ kk, g.kinds[P]? = some kk ∧ ku = .int .u8 kk := by
          rw [List.getElem?_map, Option.map_eq_some_iff] at hku
          obtain ⟨x, h1, h2⟩ := hku
          exact ⟨x, h1, h2.symm⟩
        rw [Int.toNat_natCast, List.getD_eq_getElem?_getD, hkk, Option.getD_some] at hr
        clear hku
        by_cases c2 : kk = k
        · have c2' : (kk == k) = true := by simp [c2]
          have hs : true = r := by rw [← hr]; simp [c1, c2]
          have Hs := Lib.hid hs
          have Hr := Lib.hid hr
          have Hc2 := Lib.hid c2
          have Hkk := Lib.hid hkk
          clear hkk c2 hr hs
          clear c1
          go_enter Try.func34, Try.ntmps34
          go_upto_region 1 with fail
          rw [← HV.out, ← HG.out]
          go_wp2_with fail
          go_ret
          rw [← Hs.out]
          exact ⟨rfl, Hb.out⟩
        · have c2' : (kk == k) = false := by simp [c2]
          have hs : false = r := by rw [← hr]; simp [c2]
          have Hs := Lib.hid hs
          have Hr := Lib.hid hr
          have Hc2 := Lib.hid c2
          have Hkk := Lib.hid hkk
          clear hkk c2 hr hs
          clear c1
          go_enter Try.func34, Try.ntmps34
          go_upto_region 1 with fail
          rw [← HV.out, ← HG.out]
          go_wp2_with fail
          go_ret
          rw [← Hs.out]
          exact ⟨rfl, Hb.out⟩
      · have hs : true = r := by rw [← hr]; simp [c1]
        have Hs := Lib.hid hs
        have Hr := Lib.hid hr
        clear hr hs
        clear c1
        go_enter Try.func34, Try.ntmps34
        go_upto_region 1 with fail
        rw [← HV.out, ← HG.out]
        go_wp2_with fail
        go_ret
        rw [← Hs.out]
        exact ⟨rfl, Hb.out⟩
    · have c1' : ¬ (P : Int) < L := by omega
      have hs : false = r := by rw [← hr]; simp [c1]
      have Hs := Lib.hid hs
      have Hr := Lib.hid hr
      clear hr hs
      clear c1
      go_enter Try.func34, Try.ntmps34
      go_upto_region 1 with fail
      rw [← HV.out, ← HG.out]
      go_wp2_with fail
      go_ret
      rw [← Hs.out]
      exact ⟨rfl, Hb.out⟩
  · have hs : false = r := by rw [← hr]; simp [c0]
    have Hs := Lib.hid hs
    have Hr := Lib.hid hr
    clear hr hs
    go_enter Try.func34, Try.ntmps34
    go_upto_region 1 with fail
    rw [← HV.out, ← HG.out]
    go_wp2_with fail
    go_ret
    rw [← Hs.out]
    exact ⟨rfl, Hb.out⟩
theorem keep_same (g : GraphD) (h0 : ¬ g.cells < 0) : (decide (g.keep ≠ -1) && !cellB g g.keep) = (decide (g.keep < -1) || decide (g.cells ≤ g.keep)) := by
  unfold cellB
  by_cases h1 : g.keep = -1
  · simp [h1]; omega
  · by_cases h2 : 0 ≤ g.keep
    · by_cases h3 : g.keep < g.cells
      · simp [h1, h2, h3]; omega
      · simp [h1, h3]; omega
    · simp [h1, h2]; left; omega
theorem init_same (g : GraphD) (bound : Bool) (k p : Int) (h0 : ¬ g.cells < 0) : (decide (k ≠ -1) && (!cellB g k || !isB g bound 0 [p])) = (decide (k < -1) || decide (g.cells ≤ k) || (decide (0 ≤ k) && !fitsB g bound 0 p)) := by
  unfold cellB isB
  simp only [List.all_cons, List.all_nil, Bool.and_true]
  by_cases h1 : k = -1
  · simp [h1]; omega
  · by_cases h2 : 0 ≤ k
    · by_cases h3 : k < g.cells
      · have h4 : ¬ k < -1 := by omega
        have h5 : ¬ g.cells ≤ k := by omega
        simp [h1, h2, h3, h4, h5]
      · have h5 : g.cells ≤ k := by omega
        simp [h1, h3, h5]
    · have h4 : k < -1 := by omega
      simp [h1, h2, h4]
set_option maxRecDepth 100000 in
set_option maxHeartbeats 8000000 in
theorem refhead_any (w : World) (g : GraphD) (pv kv iv nv : Value) (B : Nat) (hB : B ≤ w.heap.size) (hpA : NumsAt .i64 w B pv g.params) (hkA : NumsAt .u8 w B kv g.kinds) (hiA : NumsAt .i64 w B iv g.init) (hnA : RowsAt 12 NodeAt w B nv g.nodes) (hkm : g.kinds.length ≤ 140737488351232) (bound : Bool) :
    Calls Try.prog 16 #[.agg (gcells g pv kv iv nv).toArray, .bool bound] w fun e w' => e = .returned (.bool (headB g bound)) ∧ Below w.heap.size w w' := by
  obtain ⟨r, hr⟩ : ∃ r, headB g bound = r := ⟨_, rfl⟩
  rw [hr]
  unfold headB at hr
  obtain ⟨PA, pc, rfl, hPc, _, hPR⟩ := hpA.slice
  obtain ⟨KA, kc, rfl, _, _, hKR⟩ := hkA.slice
  obtain ⟨IA, ic, rfl, _, _, hIR⟩ := hiA.slice
  obtain ⟨NA, nn, nc, css, rfl, _, _, hnn, _⟩ := hnA
  obtain ⟨KN, hK⟩ : ∃ KN, g.kinds.length = KN := ⟨_, rfl⟩
  obtain ⟨P, hP⟩ : ∃ P, g.params.length = P := ⟨_, rfl⟩
  obtain ⟨I, hI⟩ : ∃ I, g.init.length = I := ⟨_, rfl⟩
  rw [hP] at hPR hr hPc
  rw [hK] at hKR hkm
  rw [hI] at hIR
  rw [hP, hK, hI]
  obtain ⟨kv, hkv⟩ : ∃ kv, kv = Value.slice KA KN kc := ⟨_, rfl⟩
  rw [hK, ← hkv] at hkA
  obtain ⟨CS, hCS⟩ : ∃ CS, CS = (gcells g (.slice PA P pc) (.slice KA KN kc) (.slice IA I ic) (.slice NA nn nc)).toArray := ⟨_, rfl⟩
  have hag : (gcells g (.slice PA P pc) (.slice KA KN kc) (.slice IA I ic) (.slice NA nn nc)).toArray = CS := hCS.symm
  rw [hag]
  obtain ⟨G, hG⟩ : ∃ G, G = w.heap.size := ⟨_, rfl⟩
  have hBk := Blk.new w 48 CS
  have hb := (Below.refl w.heap.size w).alloc (Nat.le_refl _) (.cells CS 48)
  have hKA := hkA.below (hb.mono hB)
  have hKR1 := hKR.below (hb.mono hB)
  have hPR1 := hPR.below (hb.mono hB)
  have hIR1 := hIR.below (hb.mono hB)
  rw [← hG] at hBk
  obtain ⟨V, hV⟩ : ∃ V, V = w.alloc (.cells CS 48) := ⟨_, rfl⟩
  rw [← hV] at hb hBk hKA hKR1 hPR1 hIR1
  have hBV : B ≤ V.heap.size := Nat.le_trans hB hb.size
  have e0 : CS[0]? = some (.slice PA P pc) := by rw [hCS]; rfl
  have e1 : CS[1]? = some (.slice KA KN kc) := by rw [hCS]; rfl
  have e2 : CS[2]? = some (.int .i64 g.cells) := by rw [hCS]; rfl
  have e3 : CS[3]? = some (.slice IA I ic) := by rw [hCS]; rfl
  have e5 : CS[5]? = some (.int .i64 g.keep) := by rw [hCS]; rfl
  have e6 : CS[6]? = some (.slice NA nn nc) := by rw [hCS]; rfl
  have e7 : CS[7]? = some (.int .i64 g.entry) := by rw [hCS]; rfl
  have hcell : ∀ W, Blk W G 48 CS → W.cell? ⟨G, 0, none⟩ = some (.slice PA P pc) ∧ W.cell? ⟨G, 1, none⟩ = some (.slice KA KN kc) ∧ W.cell? ⟨G, 2, none⟩ = some (.int .i64 g.cells) ∧ W.cell? ⟨G, 3, none⟩ = some (.slice IA I ic) ∧ W.cell? ⟨G, 5, none⟩ = some (.int .i64 g.keep) ∧ W.cell? ⟨G, 6, none⟩ = some (.slice NA nn nc) ∧ W.cell? ⟨G, 7, none⟩ = some (.int .i64 g.entry) := fun W h => ⟨(h.cell 0).trans e0, (h.cell 1).trans e1, (h.cell 2).trans e2, (h.cell 3).trans e3, (h.cell 5).trans e5, (h.cell 6).trans e6, (h.cell 7).trans e7⟩
  obtain ⟨p0, p1, p2, p3, p5, p6, p7⟩ := hcell V hBk
  have HCELL := Lib.hid hcell
  clear hcell e0 e1 e2 e3 e5 e6 e7
  have hGl := hBk.lt
  have Hr := Lib.hid hr
  have HPR := Lib.hid hPR
  have HKR := Lib.hid hKR
  have HIR := Lib.hid hIR
  have Hnn := Lib.hid hnn
  have HK := Lib.hid hK
  have HP := Lib.hid hP
  have HI := Lib.hid hI
  have HkA := Lib.hid hkA
  have Hb := Lib.hid hb
  have HBk := Lib.hid hBk
  have HKA := Lib.hid hKA
  have HKR1 := Lib.hid hKR1
  have HPR1 := Lib.hid hPR1
  have HIR1 := Lib.hid hIR1
  have HV := Lib.hid hV
  have HG := Lib.hid hG
  have HCS := Lib.hid hCS
  have Hkv := Lib.hid hkv
  have HpA := Lib.hid hpA
  have HiA := Lib.hid hiA
  clear hiA hpA hkv hCS hG hV hIR1 hPR1 hKR1 hKA hBk hb hkA hI hP hK hnn hIR hKR hPR hr
  go_enter Try.func16, Try.ntmps16
  go_upto_region 1 with fail
  rw [← HV.out, ← HG.out]
  obtain ⟨bt, hbt⟩ : ∃ bt, (decide (1024 < KN) || (bound && decide (KN < 16)) || head2 g) = bt := ⟨_, rfl⟩
  have Hbt := Lib.hid hbt
  clear hbt
  go_cut [58] (fun t wx => t = .bool bt ∧ V = wx)
  case first =>
    have hb := Hbt.out
    obtain ⟨C, hC⟩ : ∃ C, g.cells = C := ⟨_, rfl⟩
    obtain ⟨kp, hkp⟩ : ∃ kp, g.keep = kp := ⟨_, rfl⟩
    have hks := keep_same g
    rw [hC] at p2 hks
    rw [hkp] at p5 hks
    have h2' : head2 g = (decide (4 < P) || decide (I ≠ P) || decide (C < 0) || decide (64 < C) || (decide (kp ≠ -1) && !cellB g kp)) := by unfold head2; rw [HP.out, HI.out, hC, hkp]
    rw [h2'] at hb
    by_cases c1 : 1024 < KN
    · have c1' : (1024 : Int) < KN := by omega
      have hs : bt = true := by rw [← hb]; simp [c1]
      have Hs := Lib.hid hs
      have Hb := Lib.hid hb
      have H2' := Lib.hid h2'
      have HC := Lib.hid hC
      have Hkp := Lib.hid hkp
      have Hks := Lib.hid hks
      clear hks hkp hC h2' hb hs
      clear c1
      go_wp2_with fail
      go_meet
      exact ⟨by rw [Hs.out], rfl⟩
    have c1' : ¬ (1024 : Int) < KN := by omega
    by_cases c2 : bound = true ∧ KN < 16
    · obtain ⟨rfl, c2⟩ := c2
      have c2' : (KN : Int) < 16 := by omega
      have hs : bt = true := by rw [← hb]; simp [c2]
      have Hs := Lib.hid hs
      have Hb := Lib.hid hb
      have H2' := Lib.hid h2'
      have HC := Lib.hid hC
      have Hkp := Lib.hid hkp
      have Hks := Lib.hid hks
      clear hks hkp hC h2' hb hs
      clear c2 c1
      go_wp2_with fail
      go_meet
      exact ⟨by rw [Hs.out], rfl⟩
    have hgo : bound = false ∨ (bound = true ∧ ¬ (KN : Int) < 16) := by
      cases bound
      · exact .inl rfl
      · simp at c2; exact .inr ⟨rfl, by omega⟩
    have hb2 : (bound && decide (KN < 16)) = false := by
      cases bound
      · rfl
      · simp at c2; simp [c2]
    rw [hb2] at hb
    clear hb2 c2
    have hcase : (4 < P ∧ bt = true) ∨ (¬ 4 < P ∧ I ≠ P ∧ bt = true) ∨ (¬ 4 < P ∧ I = P ∧ C < 0 ∧ bt = true) ∨ (¬ 4 < P ∧ I = P ∧ ¬ C < 0 ∧ 64 < C ∧ bt = true) ∨ (¬ 4 < P ∧ I = P ∧ ¬ C < 0 ∧ ¬ 64 < C ∧ kp < -1 ∧ bt = true) ∨ (¬ 4 < P ∧ I = P ∧ ¬ C < 0 ∧ ¬ 64 < C ∧ ¬ kp < -1 ∧ C ≤ kp ∧ bt = true) ∨ (¬ 4 < P ∧ I = P ∧ ¬ C < 0 ∧ ¬ 64 < C ∧ ¬ kp < -1 ∧ ¬ C ≤ kp ∧ bt = false) := by
      by_cases d1 : 4 < P
      · exact .inl ⟨d1, by rw [← hb]; simp [d1]⟩
      by_cases d2 : I = P
      case neg => exact .inr (.inl ⟨d1, d2, by rw [← hb]; simp [d2]⟩)
      by_cases d3 : C < 0
      · exact .inr (.inr (.inl ⟨d1, d2, d3, by rw [← hb]; simp [d3]⟩))
      rw [hks d3] at hb
      by_cases d4 : 64 < C
      · exact .inr (.inr (.inr (.inl ⟨d1, d2, d3, d4, by rw [← hb]; simp [d4]⟩)))
      by_cases d5 : kp < -1
      · exact .inr (.inr (.inr (.inr (.inl ⟨d1, d2, d3, d4, d5, by rw [← hb]; simp [d5]⟩))))
      by_cases d6 : C ≤ kp
      · exact .inr (.inr (.inr (.inr (.inr (.inl ⟨d1, d2, d3, d4, d5, d6, by rw [← hb]; simp [d6]⟩)))))
      · exact .inr (.inr (.inr (.inr (.inr (.inr ⟨d1, d2, d3, d4, d5, d6, by rw [← hb]; simp [c1, d1, d2, d3, d4, d5, d6]⟩)))))
    have Hb := Lib.hid hb
    have H2' := Lib.hid h2'
    have HC := Lib.hid hC
    have Hkp := Lib.hid hkp
    have Hks := Lib.hid hks
    clear hks hkp hC h2' hb
    clear c1
    rcases hgo with e | ⟨e, c2'⟩
    all_goals
      subst e
      rcases hcase with ⟨d1, hs⟩ | ⟨d1, d2, hs⟩ | ⟨d1, d2, d3, hs⟩ | ⟨d1, d2, d3, d4, hs⟩ | ⟨d1, d2, d3, d4, d5, hs⟩ | ⟨d1, d2, d3, d4, d5, d6, hs⟩ | ⟨d1, d2, d3, d4, d5, d6, hs⟩
      · have d1' : (4 : Int) < P := by omega
        have Hs := Lib.hid hs
        clear hs
        clear d1
        go_wp2_with fail
        go_meet
        exact ⟨by rw [Hs.out], rfl⟩
      · have d1' : ¬ (4 : Int) < P := by omega
        have d2' : ((I : Int) != P) = true := by simp; omega
        have Hs := Lib.hid hs
        clear hs
        clear d1 d2
        go_wp2_with fail
        go_meet
        exact ⟨by rw [Hs.out], rfl⟩
      all_goals
        have d1' : ¬ (4 : Int) < P := by omega
        have d2' : ((I : Int) != P) = false := by simp [d2]
        have Hs := Lib.hid hs
        clear hs
        clear d1 d2
        go_wp2_with fail
        go_meet
        exact ⟨by rw [Hs.out], rfl⟩
  case rest =>
    obtain ⟨rfl, hwc⟩ := hcut
    subst hwc
    have hb := Hbt.out
    have hrr := Hr.out
    unfold head1 at hrr
    rw [HK.out] at hrr
    cases bt
    case true =>
      have hs : r = false := by
        rw [← hrr]
        simp only [Bool.or_eq_true] at hb
        rcases hb with (h | h) | h
        · rw [h]; rfl
        · rw [h]; simp
        · rw [h]; simp
      have Hs := Lib.hid hs
      have HB9 := Lib.hid hb
      have Hrr := Lib.hid hrr
      clear hrr hb hs
      go_wp2_with fail
      go_ret
      rw [Hs.out]
      exact ⟨rfl, Hb.out⟩
    case false =>
      simp only [Bool.or_eq_false_iff] at hb
      obtain ⟨⟨h1, h2⟩, h3⟩ := hb
      rw [h1, h2, h3] at hrr
      simp only [Bool.false_or, Bool.not_false, Bool.and_true] at hrr
      have hb4' := h3
      unfold head2 at hb4'
      rw [HP.out, HI.out] at hb4'
      simp only [Bool.or_eq_false_iff, decide_eq_false_iff_not] at hb4'
      obtain ⟨⟨⟨⟨hP4, hIP⟩, hC0⟩, _⟩, _⟩ := hb4'
      have hIP : I = P := by omega
      subst hIP
      have hP4 : I ≤ 4 := by omega
      have Hrr := Lib.hid hrr
      have H1 := Lib.hid h1
      have H2 := Lib.hid h2
      have H3 := Lib.hid h3
      have HIP := Lib.hid hIP
      clear hIP h3 h2 h1 hrr
      go_wp2_with fail
      go_loopw [62] (fun i wq => ∃ j : Nat, j ≤ KN ∧ i = .int .i64 j ∧ wq = V ∧ Hid (∀ k ∈ g.kinds.take j, ¬ 1 < k)) (fun i _ => KN - (intOf i).toNat)
      case atStart => exact ⟨0, by omega, rfl, rfl, (show ∀ k ∈ g.kinds.take 0, ¬ 1 < k by simp)⟩
      case round =>
        obtain ⟨j, hj, rfl, hwr, hall⟩ := hrel
        subst hwr
        by_cases hjK : j < KN
        · obtain ⟨kad, ku, hkA, _, hku, hkc⟩ := HKR1.out.at_ hjK
          subst hkA
          obtain ⟨kk, hkk, rfl⟩ : ∃ kk, g.kinds[j]? = some kk ∧ ku = .int .u8 kk := by
            rw [List.getElem?_map, Option.map_eq_some_iff] at hku
            obtain ⟨x, h1, h2⟩ := hku
            exact ⟨x, h1, h2.symm⟩
          have hmem := List.mem_of_getElem? hkk
          have hjI : (j : Int) < KN := by omega
          clear hku
          by_cases c1 : 1 < kk
          · have hs : false = r := by
              rw [← Hrr.out]
              have : (g.kinds.any fun k => decide (1 < k)) = true := List.any_eq_true.2 ⟨kk, hmem, by simp [c1]⟩
              rw [this]; rfl
            have Hs := Lib.hid hs
            have Hall := Lib.hid hall
            have Hkk := Lib.hid hkk
            have Hmem := Lib.hid hmem
            clear hmem hkk hall hs
            go_wp2_with fail
            go_ret
            rw [← Hs.out]
            exact ⟨rfl, Hb.out⟩
          · have hs : ∀ k ∈ g.kinds.take (j + 1), ¬ 1 < k := fun k hk => by
              rw [List.take_add_one, hkk] at hk
              rcases List.mem_append.1 hk with h | h
              · exact hall.out k h
              · simp at h; rw [h]; exact c1
            have Hs := Lib.hid hs
            have Hall := Lib.hid hall
            have Hkk := Lib.hid hkk
            have Hmem := Lib.hid hmem
            clear hmem hkk hall hs
            go_wp2_with fail
            exact ⟨⟨j + 1, by omega, by go_num, trivial, Lib.hid Hs.out⟩, by simp [intOf]; omega⟩
        · have hjI : ¬ (j : Int) < KN := by omega
          have hr4 : ((List.range I).all (parB g bound) && head3 g) = r := by
            have h1 := Hrr.out
            rw [List.take_of_length_le (by rw [HK.out]; omega)] at hall
            have : (g.kinds.any fun k => decide (1 < k)) = false := by
              rcases hq : (g.kinds.any fun k => decide (1 < k)) with _ | _
              · rfl
              · obtain ⟨k, hk, h2⟩ := List.any_eq_true.1 hq
                exact absurd (of_decide_eq_true h2) (hall.out k hk)
            rw [this, Bool.not_false, Bool.true_and] at h1
            exact h1
          have Hr4 := Lib.hid hr4
          have Hall := Lib.hid hall
          clear hall hr4
          go_wp2_with fail
          obtain ⟨W0, hW0⟩ : ∃ W0, W0 = wr := ⟨_, rfl⟩
          clear p0 p1 p2 p3 p5 p6 p7
          go_loopw [72] (fun i wq => ∃ j : Nat, j ≤ I ∧ i = .int .i64 j ∧ Below W0.heap.size W0 wq ∧ Hid (∀ k, k < j → parB g bound k = true)) (fun i _ => I - (intOf i).toNat)
          case atStart => exact ⟨0, by omega, rfl, by rw [hW0]; exact Below.refl _ _, (show ∀ k, k < 0 → parB g bound k = true by omega)⟩
          case round =>
            subst hW0
            obtain ⟨j, hj, rfl, hbq, hall⟩ := hrel
            have hbnd := Hb.out.trans (hbq.mono Hb.out.size)
            have hBq := HBk.out.below hbq hGl
            have hKAq := HKA.out.below (hbq.mono hBV)
            have hPq := HPR1.out.below (hbq.mono hBV)
            have hIq := HIR1.out.below (hbq.mono hBV)
            have hKRq := HKR1.out.below (hbq.mono hBV)
            have hsq := hbq.size
            obtain ⟨p0, p1, p2, p3, p5, p6, p7⟩ := HCELL.out wr hBq
            by_cases hjm : j < I
            · obtain ⟨pad, pu, hPA, _, hpu, hpce⟩ := hPq.at_ hjm
              subst hPA
              obtain ⟨p, hpp, rfl⟩ : ∃ pp, g.params[j]? = some pp ∧ pu = .int .i64 pp := by
                rw [List.getElem?_map, Option.map_eq_some_iff] at hpu
                obtain ⟨x, h1, h2⟩ := hpu
                exact ⟨x, h1, h2.symm⟩
              obtain ⟨iad, iu, hIA, _, hiu, hice⟩ := hIq.at_ hjm
              subst hIA
              obtain ⟨k, hik, rfl⟩ : ∃ pp, g.init[j]? = some pp ∧ iu = .int .i64 pp := by
                rw [List.getElem?_map, Option.map_eq_some_iff] at hiu
                obtain ⟨x, h1, h2⟩ := hiu
                exact ⟨x, h1, h2.symm⟩
              have hpg : g.params.getD j 0 = p := by rw [List.getD_eq_getElem?_getD, hpp]; rfl
              have hig : g.init.getD j 0 = k := by rw [List.getD_eq_getElem?_getD, hik]; rfl
              obtain ⟨b9, hb9⟩ : ∃ b9, (decide (p < 0) || decide ((KN : Int) ≤ p) || decide (p ∈ g.params.take j) || (bound && decide (p ≠ j))) = b9 := ⟨_, rfl⟩
              obtain ⟨b12, hb12⟩ : ∃ b12, (decide (k ≠ -1) && (!cellB g k || !isB g bound 0 [p])) = b12 := ⟨_, rfl⟩
              have hpar : parB g bound j = (!b9 && !b12) := by unfold parB; rw [hpg, hig, HK.out, hb9, hb12]
              rw [init_same g bound k p (by omega)] at hb12
              have hRj : Reads wr B 1 (some pad) j ((g.params.take j).map (Value.int .i64)) := by
                refine ⟨by rw [List.length_map, List.length_take, HP.out]; omega, fun hn => ?_⟩
                obtain ⟨ad, e1, e2, e3⟩ := hPq.2 (by omega)
                refine ⟨ad, e1, e2, fun i u hu => e3 i u ?_⟩
                rw [List.getElem?_map, List.getElem?_take] at hu
                split at hu
                · rw [List.getElem?_map]; exact hu
                · cases hu
              have hlj : (g.params.take j).length = j := by rw [List.length_take, HP.out]; omega
              have hbad : parB g bound j = false → r = false := fun hf => by
                rw [← Hr4.out]
                rcases hq : (List.range I).all (parB g bound) with _ | _
                · rfl
                · rw [List.all_eq_true.1 hq j (List.mem_range.2 hjm)] at hf; cases hf
              have hstep : parB g bound j = true → ∀ i, i < j + 1 → parB g bound i = true := fun hf i hi => by
                by_cases e : i = j
                · rw [e]; exact hf
                · exact hall.out i (by omega)
              have hjI : (j : Int) < I := by omega
              have hjI2 : (j : Int) ≤ I := by omega
              have hjpc : j ≤ pc := by omega
              have hjpcI : (j : Int) ≤ pc := by omega
              clear hpu hiu
              have Hbq := Lib.hid hbq
              have Hall := Lib.hid hall
              have HPq := Lib.hid hPq
              have HIq := Lib.hid hIq
              have Hpp := Lib.hid hpp
              have Hik := Lib.hid hik
              have Hpg := Lib.hid hpg
              have Hig := Lib.hid hig
              have Hb9 := Lib.hid hb9
              have Hb12 := Lib.hid hb12
              have Hpar := Lib.hid hpar
              have HRj := Lib.hid hRj
              have Hlj := Lib.hid hlj
              have Hbad := Lib.hid hbad
              have Hstep := Lib.hid hstep
              have Hbnd := Lib.hid hbnd
              have HBq := Lib.hid hBq
              have HKAq := Lib.hid hKAq
              have HKRq := Lib.hid hKRq
              clear hKRq hKAq hBq hbnd hstep hbad hlj hRj hpar hb12 hb9 hig hpg hik hpp hIq hPq hall hbq
              go_upto_region 12 with fail
              go_cut [101] from 77 to 101 (fun t wx => t = .bool b9 ∧ wr = wx)
              case first =>
                have hb := Hb9.out
                by_cases c1 : p < 0
                · have hs : b9 = true := by rw [← hb]; simp [c1]
                  have Hs := Lib.hid hs
                  have Hb := Lib.hid hb
                  clear hb hs
                  go_wp2_with fail
                  go_meet
                  exact ⟨by rw [Hs.out], rfl⟩
                by_cases c2 : (KN : Int) ≤ p
                · have hs : b9 = true := by rw [← hb]; simp [c2]
                  have Hs := Lib.hid hs
                  have Hb := Lib.hid hb
                  clear hb hs
                  go_wp2_with fail
                  go_meet
                  exact ⟨by rw [Hs.out], rfl⟩
                obtain ⟨bc, hbc⟩ : ∃ bc, decide (p ∈ g.params.take j) = bc := ⟨_, rfl⟩
                rw [hbc] at hb
                have Hb := Lib.hid hb
                have Hbc := Lib.hid hbc
                clear hbc hb
                go_wp2_with fail
                refine (in_any wr B (some pad) j pc (g.params.take j) HRj.out Hlj.out (by omega) p).mono ?_
                rintro e w1 ⟨rfl, rfl⟩
                rw [Hbc.out]
                have hb := Hb.out
                cases bc
                · cases bound
                  · have hs : b9 = false := by rw [← hb]; simp [c1, c2]
                    have Hs := Lib.hid hs
                    have Hb := Lib.hid hb
                    clear hb hs
                    go_wp2_with fail
                    go_meet
                    exact ⟨by rw [Hs.out], rfl⟩
                  · by_cases c3 : p = j
                    · have c3' : (p != (j : Int)) = false := by simp [c3]
                      have hs : b9 = false := by rw [← hb]; simp [c1, c2, c3]; omega
                      have Hs := Lib.hid hs
                      have Hb := Lib.hid hb
                      have Hc3 := Lib.hid c3
                      clear c3 hb hs
                      go_wp2_with fail
                      go_meet
                      exact ⟨by rw [Hs.out], rfl⟩
                    · have c3' : (p != (j : Int)) = true := by simp [c3]
                      have hs : b9 = true := by rw [← hb]; simp [c3]
                      have Hs := Lib.hid hs
                      have Hb := Lib.hid hb
                      have Hc3 := Lib.hid c3
                      clear c3 hb hs
                      go_wp2_with fail
                      go_meet
                      exact ⟨by rw [Hs.out], rfl⟩
                · have hs : b9 = true := by rw [← hb]; simp
                  have Hs := Lib.hid hs
                  have Hb := Lib.hid hb
                  clear hb hs
                  go_wp2_with fail
                  go_meet
                  exact ⟨by rw [Hs.out], rfl⟩
              case rest =>
                obtain ⟨rfl, hwc2⟩ := hcut
                subst hwc2
                cases b9
                case true =>
                  have hs := Hbad.out (by rw [Hpar.out]; rfl)
                  have Hs := Lib.hid hs
                  clear hs
                  go_wp2_with fail
                  go_ret
                  rw [Hs.out]
                  exact ⟨rfl, Hbnd.out⟩
                case false =>
                  go_upto_region 14 with fail
                  go_cut [132] from 102 to 132 (fun t wx => t = .bool b12 ∧ Below wr.heap.size wr wx)
                  case first =>
                    have hb := Hb12.out
                    have lG : G < wr.heap.size := HBq.out.lt
                    have li : (iad.add j).block < wr.heap.size := by
                      obtain ⟨ad, e1, e2, _⟩ := HIq.out.2 (by omega)
                      injection e1 with e1
                      subst e1
                      rw [block_add]; have := hBV; omega
                    obtain ⟨C, hC⟩ : ∃ C, g.cells = C := ⟨_, rfl⟩
                    rw [hC] at p2 hb
                    have hrange : wr.drew.rangeAt G 0 (gcells g (.slice (some pad) I pc) (.slice KA KN kc) (.slice (some iad) I ic) (.slice NA nn nc)) := fun j v hv => by
                      show wr.cell? _ = _
                      rw [HBq.out.cell (0 + j), HCS.out, Nat.zero_add]
                      exact (List.getElem?_toArray ..).trans hv
                    have Hrange := Lib.hid hrange
                    have HC := Lib.hid hC
                    clear hC hrange
                    refine wp_region_noPanic ?_
                    refine wp_region_held_drew (S := fun W => W.rangeAt G 0 (gcells g (.slice (some pad) I pc) (.slice KA KN kc) (.slice (some iad) I ic) (.slice NA nn nc)) ∧ W.cell? ⟨G, 2, none⟩ = some (.int .i64 C) ∧ W.cell? ⟨G, 3, none⟩ = some (.slice (some iad) I ic) ∧ W.cell? (iad.add j) = some (.int .i64 k)) (by kernel_rfl) ⟨Hrange.out, p2, p3, hice⟩ (fun hHeld => ?_)
                    by_cases c1 : k < -1
                    · have hs : b12 = true := by rw [← hb]; simp [c1]
                      have Hs := Lib.hid hs
                      have Hb := Lib.hid hb
                      clear hb hs
                      refine wpAnyH_take (i := 0) (v := ?_) rfl (by kernel_rfl) (by kernel_rfl) (by kernel_rfl) (fun _ _ _ h => h) (Or.inl ⟨by rfl, ?_⟩) (by assumption) ?_
                      rotate_left
                      · intro w hSw; (try dsimp only at hSw); go_simp; try with_reducible rfl
                      simp only [Act.put, List.getElem_toArray, List.getElem_cons_zero, List.getElem_cons_succ, List.setIfInBounds_toArray, List.set_cons_zero, List.set_cons_succ]
                      refine wpAnyH_take (i := 1) (v := ?_) rfl (by kernel_rfl) (by kernel_rfl) (by kernel_rfl) (fun _ _ _ h => h) (Or.inl ⟨by rfl, ?_⟩) (by assumption) ?_
                      rotate_left
                      · intro w hSw; (try dsimp only at hSw); go_simp; try with_reducible rfl
                      simp only [Act.put, List.getElem_toArray, List.getElem_cons_zero, List.getElem_cons_succ, List.setIfInBounds_toArray, List.set_cons_zero, List.set_cons_succ]
                      refine wpAnyH_take (i := 2) (v := ?_) rfl (by kernel_rfl) (by kernel_rfl) (by kernel_rfl) (fun _ _ _ h => h) (Or.inl ⟨by rfl, ?_⟩) (by assumption) ?_
                      rotate_left
                      · intro w hSw; (try dsimp only at hSw); go_simp; try with_reducible rfl
                      simp only [Act.put, List.getElem_toArray, List.getElem_cons_zero, List.getElem_cons_succ, List.setIfInBounds_toArray, List.set_cons_zero, List.set_cons_succ]
                      refine wpAnyH_take (i := 3) (v := ?_) rfl (by kernel_rfl) (by kernel_rfl) (by kernel_rfl) (fun _ _ _ h => h) (Or.inl ⟨by rfl, ?_⟩) (by assumption) ?_
                      rotate_left
                      · intro w hSw; (try dsimp only at hSw); go_simp; try with_reducible rfl
                      simp only [Act.put, List.getElem_toArray, List.getElem_cons_zero, List.getElem_cons_succ, List.setIfInBounds_toArray, List.set_cons_zero, List.set_cons_succ]
                      refine wpAnyH_take (i := 4) (v := ?_) rfl (by kernel_rfl) (by kernel_rfl) (by kernel_rfl) (fun _ _ _ h => h) (Or.inl ⟨by rfl, ?_⟩) (by assumption) ?_
                      rotate_left
                      · intro w hSw; (try dsimp only at hSw); go_simp; try with_reducible rfl
                      simp only [Act.put, List.getElem_toArray, List.getElem_cons_zero, List.getElem_cons_succ, List.setIfInBounds_toArray, List.set_cons_zero, List.set_cons_succ]
                      refine wpAnyH_take (i := 5) (v := ?_) rfl (by kernel_rfl) (by kernel_rfl) (by kernel_rfl) (fun _ _ _ h => h) (Or.inl ⟨by rfl, ?_⟩) (by assumption) ?_
                      rotate_left
                      · intro w hSw; (try dsimp only at hSw); go_simp; try with_reducible rfl
                      simp only [Act.put, List.getElem_toArray, List.getElem_cons_zero, List.getElem_cons_succ, List.setIfInBounds_toArray, List.set_cons_zero, List.set_cons_succ]
                      refine wpAnyH_take (i := 6) (v := ?_) rfl (by kernel_rfl) (by kernel_rfl) (by kernel_rfl) (fun _ _ _ h => h) (Or.inl ⟨by rfl, ?_⟩) (by assumption) ?_
                      rotate_left
                      · intro w hSw; (try dsimp only at hSw); go_simp; try with_reducible rfl
                      simp only [Act.put, List.getElem_toArray, List.getElem_cons_zero, List.getElem_cons_succ, List.setIfInBounds_toArray, List.set_cons_zero, List.set_cons_succ]
                      refine wpAnyH_take (i := 7) (v := undef) rfl (by kernel_rfl) (by kernel_rfl) (by kernel_rfl) (fun _ _ _ h => h) (Or.inr ⟨by rfl, rfl⟩) (by assumption) ?_
                      simp only [Act.put, List.getElem_toArray, List.getElem_cons_zero, List.getElem_cons_succ, List.setIfInBounds_toArray, List.set_cons_zero, List.set_cons_succ]
                      refine wpAnyH_take (i := 8) (v := undef) rfl (by kernel_rfl) (by kernel_rfl) (by kernel_rfl) (fun _ _ _ h => h) (Or.inr ⟨by rfl, rfl⟩) (by assumption) ?_
                      simp only [Act.put, List.getElem_toArray, List.getElem_cons_zero, List.getElem_cons_succ, List.setIfInBounds_toArray, List.set_cons_zero, List.set_cons_succ]
                      refine wpAnyH_take (i := 9) (v := undef) rfl (by kernel_rfl) (by kernel_rfl) (by kernel_rfl) (fun _ _ _ h => h) (Or.inr ⟨by rfl, rfl⟩) (by assumption) ?_
                      simp only [Act.put, List.getElem_toArray, List.getElem_cons_zero, List.getElem_cons_succ, List.setIfInBounds_toArray, List.set_cons_zero, List.set_cons_succ]
                      refine wpAnyH_take (i := 10) (v := undef) rfl (by kernel_rfl) (by kernel_rfl) (by kernel_rfl) (fun _ _ _ h => h) (Or.inr ⟨by rfl, rfl⟩) (by assumption) ?_
                      simp only [Act.put, List.getElem_toArray, List.getElem_cons_zero, List.getElem_cons_succ, List.setIfInBounds_toArray, List.set_cons_zero, List.set_cons_succ]
                      refine wpAnyH_take (i := 11) (v := undef) rfl (by kernel_rfl) (by kernel_rfl) (by kernel_rfl) (fun _ _ _ h => h) (Or.inr ⟨by rfl, rfl⟩) (by assumption) ?_
                      simp only [Act.put, List.getElem_toArray, List.getElem_cons_zero, List.getElem_cons_succ, List.setIfInBounds_toArray, List.set_cons_zero, List.set_cons_succ]
                      refine wpAnyH_take (i := 12) (v := undef) rfl (by kernel_rfl) (by kernel_rfl) (by kernel_rfl) (fun _ _ _ h => h) (Or.inr ⟨by rfl, rfl⟩) (by assumption) ?_
                      simp only [Act.put, List.getElem_toArray, List.getElem_cons_zero, List.getElem_cons_succ, List.setIfInBounds_toArray, List.set_cons_zero, List.set_cons_succ]
                      refine wpAnyH_take (i := 13) (v := undef) rfl (by kernel_rfl) (by kernel_rfl) (by kernel_rfl) (fun _ _ _ h => h) (Or.inr ⟨by rfl, rfl⟩) (by assumption) ?_
                      simp only [Act.put, List.getElem_toArray, List.getElem_cons_zero, List.getElem_cons_succ, List.setIfInBounds_toArray, List.set_cons_zero, List.set_cons_succ]
                      refine wpAnyH_take (i := 14) (v := undef) rfl (by kernel_rfl) (by kernel_rfl) (by kernel_rfl) (fun _ _ _ h => h) (Or.inr ⟨by rfl, rfl⟩) (by assumption) ?_
                      simp only [Act.put, List.getElem_toArray, List.getElem_cons_zero, List.getElem_cons_succ, List.setIfInBounds_toArray, List.set_cons_zero, List.set_cons_succ]
                      refine wpAnyH_take (i := 15) (v := ?_) rfl (by kernel_rfl) (by kernel_rfl) (by kernel_rfl) (fun _ _ _ h => h) (Or.inl ⟨by rfl, ?_⟩) (by assumption) ?_
                      rotate_left
                      · intro w hSw; (try dsimp only at hSw); go_simp; try with_reducible rfl
                      simp only [Act.put, List.getElem_toArray, List.getElem_cons_zero, List.getElem_cons_succ, List.setIfInBounds_toArray, List.set_cons_zero, List.set_cons_succ]
                      refine wpAnyH_take (i := 16) (v := ?_) rfl (by kernel_rfl) (by kernel_rfl) (by kernel_rfl) (fun _ _ _ h => h) (Or.inl ⟨by rfl, ?_⟩) (by assumption) ?_
                      rotate_left
                      · intro w hSw; (try dsimp only at hSw); go_simp; try with_reducible rfl
                      simp only [Act.put, List.getElem_toArray, List.getElem_cons_zero, List.getElem_cons_succ, List.setIfInBounds_toArray, List.set_cons_zero, List.set_cons_succ]
                      refine wpAnyH_take (i := 17) (v := undef) rfl (by kernel_rfl) (by kernel_rfl) (by kernel_rfl) (fun _ _ _ h => h) (Or.inr ⟨by rfl, rfl⟩) (by assumption) ?_
                      simp only [Act.put, List.getElem_toArray, List.getElem_cons_zero, List.getElem_cons_succ, List.setIfInBounds_toArray, List.set_cons_zero, List.set_cons_succ]
                      refine wpAnyH_take (i := 18) (v := undef) rfl (by kernel_rfl) (by kernel_rfl) (by kernel_rfl) (fun _ _ _ h => h) (Or.inr ⟨by rfl, rfl⟩) (by assumption) ?_
                      simp only [Act.put, List.getElem_toArray, List.getElem_cons_zero, List.getElem_cons_succ, List.setIfInBounds_toArray, List.set_cons_zero, List.set_cons_succ]
                      refine wpAnyH_take (i := 19) (v := undef) rfl (by kernel_rfl) (by kernel_rfl) (by kernel_rfl) (fun _ _ _ h => h) (Or.inr ⟨by rfl, rfl⟩) (by assumption) ?_
                      simp only [Act.put, List.getElem_toArray, List.getElem_cons_zero, List.getElem_cons_succ, List.setIfInBounds_toArray, List.set_cons_zero, List.set_cons_succ]
                      refine wpAnyH_take (i := 20) (v := undef) rfl (by kernel_rfl) (by kernel_rfl) (by kernel_rfl) (fun _ _ _ h => h) (Or.inr ⟨by rfl, rfl⟩) (by assumption) ?_
                      simp only [Act.put, List.getElem_toArray, List.getElem_cons_zero, List.getElem_cons_succ, List.setIfInBounds_toArray, List.set_cons_zero, List.set_cons_succ]
                      refine wpAnyH_take (i := 21) (v := undef) rfl (by kernel_rfl) (by kernel_rfl) (by kernel_rfl) (fun _ _ _ h => h) (Or.inr ⟨by rfl, rfl⟩) (by assumption) ?_
                      simp only [Act.put, List.getElem_toArray, List.getElem_cons_zero, List.getElem_cons_succ, List.setIfInBounds_toArray, List.set_cons_zero, List.set_cons_succ]
                      refine wpAnyH_take (i := 22) (v := undef) rfl (by kernel_rfl) (by kernel_rfl) (by kernel_rfl) (fun _ _ _ h => h) (Or.inr ⟨by rfl, rfl⟩) (by assumption) ?_
                      simp only [Act.put, List.getElem_toArray, List.getElem_cons_zero, List.getElem_cons_succ, List.setIfInBounds_toArray, List.set_cons_zero, List.set_cons_succ]
                      refine wpAnyH_take (i := 23) (v := undef) rfl (by kernel_rfl) (by kernel_rfl) (by kernel_rfl) (fun _ _ _ h => h) (Or.inr ⟨by rfl, rfl⟩) (by assumption) ?_
                      simp only [Act.put, List.getElem_toArray, List.getElem_cons_zero, List.getElem_cons_succ, List.setIfInBounds_toArray, List.set_cons_zero, List.set_cons_succ]
                      refine wpAnyH_take (i := 24) (v := undef) rfl (by kernel_rfl) (by kernel_rfl) (by kernel_rfl) (fun _ _ _ h => h) (Or.inr ⟨by rfl, rfl⟩) (by assumption) ?_
                      simp only [Act.put, List.getElem_toArray, List.getElem_cons_zero, List.getElem_cons_succ, List.setIfInBounds_toArray, List.set_cons_zero, List.set_cons_succ]
                      refine wpAnyH_take (i := 25) (v := undef) rfl (by kernel_rfl) (by kernel_rfl) (by kernel_rfl) (fun _ _ _ h => h) (Or.inr ⟨by rfl, rfl⟩) (by assumption) ?_
                      simp only [Act.put, List.getElem_toArray, List.getElem_cons_zero, List.getElem_cons_succ, List.setIfInBounds_toArray, List.set_cons_zero, List.set_cons_succ]
                      refine wpAnyH_take (i := 26) (v := undef) rfl (by kernel_rfl) (by kernel_rfl) (by kernel_rfl) (fun _ _ _ h => h) (Or.inr ⟨by rfl, rfl⟩) (by assumption) ?_
                      simp only [Act.put, List.getElem_toArray, List.getElem_cons_zero, List.getElem_cons_succ, List.setIfInBounds_toArray, List.set_cons_zero, List.set_cons_succ]
                      refine wpAnyH_take (i := 27) (v := undef) rfl (by kernel_rfl) (by kernel_rfl) (by kernel_rfl) (fun _ _ _ h => h) (Or.inr ⟨by rfl, rfl⟩) (by assumption) ?_
                      simp only [Act.put, List.getElem_toArray, List.getElem_cons_zero, List.getElem_cons_succ, List.setIfInBounds_toArray, List.set_cons_zero, List.set_cons_succ]
                      refine wpAnyH_take (i := 28) (v := undef) rfl (by kernel_rfl) (by kernel_rfl) (by kernel_rfl) (fun _ _ _ h => h) (Or.inr ⟨by rfl, rfl⟩) (by assumption) ?_
                      simp only [Act.put, List.getElem_toArray, List.getElem_cons_zero, List.getElem_cons_succ, List.setIfInBounds_toArray, List.set_cons_zero, List.set_cons_succ]
                      refine wpAnyH_take (i := 29) (v := undef) rfl (by kernel_rfl) (by kernel_rfl) (by kernel_rfl) (fun _ _ _ h => h) (Or.inr ⟨by rfl, rfl⟩) (by assumption) ?_
                      simp only [Act.put, List.getElem_toArray, List.getElem_cons_zero, List.getElem_cons_succ, List.setIfInBounds_toArray, List.set_cons_zero, List.set_cons_succ]
                      refine wpAnyH_take (i := 30) (v := ?_) rfl (by kernel_rfl) (by kernel_rfl) (by kernel_rfl) (fun _ _ _ h => h) (Or.inl ⟨by rfl, ?_⟩) (by assumption) ?_
                      rotate_left
                      · intro w hSw; (try dsimp only at hSw); go_simp; try with_reducible rfl
                      simp only [Act.put, List.getElem_toArray, List.getElem_cons_zero, List.getElem_cons_succ, List.setIfInBounds_toArray, List.set_cons_zero, List.set_cons_succ]
                      refine wpAnyH_done (by kernel_rfl) ?_ _
                      refine NoPanic.normal ?_
                      clear hHeld
                      go_wp2_with fail
                      go_meet
                      exact ⟨by rw [Hs.out], (Below.refl _ _).drew⟩
                    by_cases c2 : C ≤ k
                    · have hs : b12 = true := by rw [← hb]; simp [c2]
                      have Hs := Lib.hid hs
                      have Hb := Lib.hid hb
                      clear hb hs
                      refine wpAnyH_take (i := 0) (v := ?_) rfl (by kernel_rfl) (by kernel_rfl) (by kernel_rfl) (fun _ _ _ h => h) (Or.inl ⟨by rfl, ?_⟩) (by assumption) ?_
                      rotate_left
                      · intro w hSw; (try dsimp only at hSw); go_simp; try with_reducible rfl
                      simp only [Act.put, List.getElem_toArray, List.getElem_cons_zero, List.getElem_cons_succ, List.setIfInBounds_toArray, List.set_cons_zero, List.set_cons_succ]
                      refine wpAnyH_take (i := 1) (v := ?_) rfl (by kernel_rfl) (by kernel_rfl) (by kernel_rfl) (fun _ _ _ h => h) (Or.inl ⟨by rfl, ?_⟩) (by assumption) ?_
                      rotate_left
                      · intro w hSw; (try dsimp only at hSw); go_simp; try with_reducible rfl
                      simp only [Act.put, List.getElem_toArray, List.getElem_cons_zero, List.getElem_cons_succ, List.setIfInBounds_toArray, List.set_cons_zero, List.set_cons_succ]
                      refine wpAnyH_take (i := 2) (v := ?_) rfl (by kernel_rfl) (by kernel_rfl) (by kernel_rfl) (fun _ _ _ h => h) (Or.inl ⟨by rfl, ?_⟩) (by assumption) ?_
                      rotate_left
                      · intro w hSw; (try dsimp only at hSw); go_simp; try with_reducible rfl
                      simp only [Act.put, List.getElem_toArray, List.getElem_cons_zero, List.getElem_cons_succ, List.setIfInBounds_toArray, List.set_cons_zero, List.set_cons_succ]
                      refine wpAnyH_take (i := 3) (v := ?_) rfl (by kernel_rfl) (by kernel_rfl) (by kernel_rfl) (fun _ _ _ h => h) (Or.inl ⟨by rfl, ?_⟩) (by assumption) ?_
                      rotate_left
                      · intro w hSw; (try dsimp only at hSw); go_simp; try with_reducible rfl
                      simp only [Act.put, List.getElem_toArray, List.getElem_cons_zero, List.getElem_cons_succ, List.setIfInBounds_toArray, List.set_cons_zero, List.set_cons_succ]
                      refine wpAnyH_take (i := 4) (v := ?_) rfl (by kernel_rfl) (by kernel_rfl) (by kernel_rfl) (fun _ _ _ h => h) (Or.inl ⟨by rfl, ?_⟩) (by assumption) ?_
                      rotate_left
                      · intro w hSw; (try dsimp only at hSw); go_simp; try with_reducible rfl
                      simp only [Act.put, List.getElem_toArray, List.getElem_cons_zero, List.getElem_cons_succ, List.setIfInBounds_toArray, List.set_cons_zero, List.set_cons_succ]
                      refine wpAnyH_take (i := 5) (v := ?_) rfl (by kernel_rfl) (by kernel_rfl) (by kernel_rfl) (fun _ _ _ h => h) (Or.inl ⟨by rfl, ?_⟩) (by assumption) ?_
                      rotate_left
                      · intro w hSw; (try dsimp only at hSw); go_simp; try with_reducible rfl
                      simp only [Act.put, List.getElem_toArray, List.getElem_cons_zero, List.getElem_cons_succ, List.setIfInBounds_toArray, List.set_cons_zero, List.set_cons_succ]
                      refine wpAnyH_take (i := 6) (v := ?_) rfl (by kernel_rfl) (by kernel_rfl) (by kernel_rfl) (fun _ _ _ h => h) (Or.inl ⟨by rfl, ?_⟩) (by assumption) ?_
                      rotate_left
                      · intro w hSw; (try dsimp only at hSw); go_simp; try with_reducible rfl
                      simp only [Act.put, List.getElem_toArray, List.getElem_cons_zero, List.getElem_cons_succ, List.setIfInBounds_toArray, List.set_cons_zero, List.set_cons_succ]
                      refine wpAnyH_take (i := 7) (v := ?_) rfl (by kernel_rfl) (by kernel_rfl) (by kernel_rfl) (fun _ _ _ h => h) (Or.inl ⟨by rfl, ?_⟩) (by assumption) ?_
                      rotate_left
                      · intro w hSw; (try dsimp only at hSw); go_simp; try with_reducible rfl
                      simp only [Act.put, List.getElem_toArray, List.getElem_cons_zero, List.getElem_cons_succ, List.setIfInBounds_toArray, List.set_cons_zero, List.set_cons_succ]
                      refine wpAnyH_take (i := 8) (v := ?_) rfl (by kernel_rfl) (by kernel_rfl) (by kernel_rfl) (fun _ _ _ h => h) (Or.inl ⟨by rfl, ?_⟩) (by assumption) ?_
                      rotate_left
                      · intro w hSw; (try dsimp only at hSw); go_simp; try with_reducible rfl
                      simp only [Act.put, List.getElem_toArray, List.getElem_cons_zero, List.getElem_cons_succ, List.setIfInBounds_toArray, List.set_cons_zero, List.set_cons_succ]
                      refine wpAnyH_take (i := 9) (v := ?_) rfl (by kernel_rfl) (by kernel_rfl) (by kernel_rfl) (fun _ _ _ h => h) (Or.inl ⟨by rfl, ?_⟩) (by assumption) ?_
                      rotate_left
                      · intro w hSw; (try dsimp only at hSw); go_simp; try with_reducible rfl
                      simp only [Act.put, List.getElem_toArray, List.getElem_cons_zero, List.getElem_cons_succ, List.setIfInBounds_toArray, List.set_cons_zero, List.set_cons_succ]
                      refine wpAnyH_take (i := 10) (v := ?_) rfl (by kernel_rfl) (by kernel_rfl) (by kernel_rfl) (fun _ _ _ h => h) (Or.inl ⟨by rfl, ?_⟩) (by assumption) ?_
                      rotate_left
                      · intro w hSw; (try dsimp only at hSw); go_simp; try with_reducible rfl
                      simp only [Act.put, List.getElem_toArray, List.getElem_cons_zero, List.getElem_cons_succ, List.setIfInBounds_toArray, List.set_cons_zero, List.set_cons_succ]
                      refine wpAnyH_take (i := 11) (v := ?_) rfl (by kernel_rfl) (by kernel_rfl) (by kernel_rfl) (fun _ _ _ h => h) (Or.inl ⟨by rfl, ?_⟩) (by assumption) ?_
                      rotate_left
                      · intro w hSw; (try dsimp only at hSw); go_simp; try with_reducible rfl
                      simp only [Act.put, List.getElem_toArray, List.getElem_cons_zero, List.getElem_cons_succ, List.setIfInBounds_toArray, List.set_cons_zero, List.set_cons_succ]
                      refine wpAnyH_take (i := 12) (v := ?_) rfl (by kernel_rfl) (by kernel_rfl) (by kernel_rfl) (fun _ _ _ h => h) (Or.inl ⟨by rfl, ?_⟩) (by assumption) ?_
                      rotate_left
                      · intro w hSw; (try dsimp only at hSw); go_simp; try with_reducible rfl
                      simp only [Act.put, List.getElem_toArray, List.getElem_cons_zero, List.getElem_cons_succ, List.setIfInBounds_toArray, List.set_cons_zero, List.set_cons_succ]
                      refine wpAnyH_take (i := 13) (v := ?_) rfl (by kernel_rfl) (by kernel_rfl) (by kernel_rfl) (fun _ _ _ h => h) (Or.inl ⟨by rfl, ?_⟩) (by assumption) ?_
                      rotate_left
                      · intro w hSw; (try dsimp only at hSw); go_simp; try with_reducible rfl
                      simp only [Act.put, List.getElem_toArray, List.getElem_cons_zero, List.getElem_cons_succ, List.setIfInBounds_toArray, List.set_cons_zero, List.set_cons_succ]
                      refine wpAnyH_take (i := 14) (v := ?_) rfl (by kernel_rfl) (by kernel_rfl) (by kernel_rfl) (fun _ _ _ h => h) (Or.inl ⟨by rfl, ?_⟩) (by assumption) ?_
                      rotate_left
                      · intro w hSw; (try dsimp only at hSw); go_simp; try with_reducible rfl
                      simp only [Act.put, List.getElem_toArray, List.getElem_cons_zero, List.getElem_cons_succ, List.setIfInBounds_toArray, List.set_cons_zero, List.set_cons_succ]
                      refine wpAnyH_take (i := 15) (v := ?_) rfl (by kernel_rfl) (by kernel_rfl) (by kernel_rfl) (fun _ _ _ h => h) (Or.inl ⟨by rfl, ?_⟩) (by assumption) ?_
                      rotate_left
                      · intro w hSw; (try dsimp only at hSw); go_simp; try with_reducible rfl
                      simp only [Act.put, List.getElem_toArray, List.getElem_cons_zero, List.getElem_cons_succ, List.setIfInBounds_toArray, List.set_cons_zero, List.set_cons_succ]
                      refine wpAnyH_take (i := 16) (v := ?_) rfl (by kernel_rfl) (by kernel_rfl) (by kernel_rfl) (fun _ _ _ h => h) (Or.inl ⟨by rfl, ?_⟩) (by assumption) ?_
                      rotate_left
                      · intro w hSw; (try dsimp only at hSw); go_simp; try with_reducible rfl
                      simp only [Act.put, List.getElem_toArray, List.getElem_cons_zero, List.getElem_cons_succ, List.setIfInBounds_toArray, List.set_cons_zero, List.set_cons_succ]
                      refine wpAnyH_take (i := 17) (v := undef) rfl (by kernel_rfl) (by kernel_rfl) (by kernel_rfl) (fun _ _ _ h => h) (Or.inr ⟨by rfl, rfl⟩) (by assumption) ?_
                      simp only [Act.put, List.getElem_toArray, List.getElem_cons_zero, List.getElem_cons_succ, List.setIfInBounds_toArray, List.set_cons_zero, List.set_cons_succ]
                      refine wpAnyH_take (i := 18) (v := undef) rfl (by kernel_rfl) (by kernel_rfl) (by kernel_rfl) (fun _ _ _ h => h) (Or.inr ⟨by rfl, rfl⟩) (by assumption) ?_
                      simp only [Act.put, List.getElem_toArray, List.getElem_cons_zero, List.getElem_cons_succ, List.setIfInBounds_toArray, List.set_cons_zero, List.set_cons_succ]
                      refine wpAnyH_take (i := 19) (v := undef) rfl (by kernel_rfl) (by kernel_rfl) (by kernel_rfl) (fun _ _ _ h => h) (Or.inr ⟨by rfl, rfl⟩) (by assumption) ?_
                      simp only [Act.put, List.getElem_toArray, List.getElem_cons_zero, List.getElem_cons_succ, List.setIfInBounds_toArray, List.set_cons_zero, List.set_cons_succ]
                      refine wpAnyH_take (i := 20) (v := undef) rfl (by kernel_rfl) (by kernel_rfl) (by kernel_rfl) (fun _ _ _ h => h) (Or.inr ⟨by rfl, rfl⟩) (by assumption) ?_
                      simp only [Act.put, List.getElem_toArray, List.getElem_cons_zero, List.getElem_cons_succ, List.setIfInBounds_toArray, List.set_cons_zero, List.set_cons_succ]
                      refine wpAnyH_take (i := 21) (v := undef) rfl (by kernel_rfl) (by kernel_rfl) (by kernel_rfl) (fun _ _ _ h => h) (Or.inr ⟨by rfl, rfl⟩) (by assumption) ?_
                      simp only [Act.put, List.getElem_toArray, List.getElem_cons_zero, List.getElem_cons_succ, List.setIfInBounds_toArray, List.set_cons_zero, List.set_cons_succ]
                      refine wpAnyH_take (i := 22) (v := undef) rfl (by kernel_rfl) (by kernel_rfl) (by kernel_rfl) (fun _ _ _ h => h) (Or.inr ⟨by rfl, rfl⟩) (by assumption) ?_
                      simp only [Act.put, List.getElem_toArray, List.getElem_cons_zero, List.getElem_cons_succ, List.setIfInBounds_toArray, List.set_cons_zero, List.set_cons_succ]
                      refine wpAnyH_take (i := 23) (v := undef) rfl (by kernel_rfl) (by kernel_rfl) (by kernel_rfl) (fun _ _ _ h => h) (Or.inr ⟨by rfl, rfl⟩) (by assumption) ?_
                      simp only [Act.put, List.getElem_toArray, List.getElem_cons_zero, List.getElem_cons_succ, List.setIfInBounds_toArray, List.set_cons_zero, List.set_cons_succ]
                      refine wpAnyH_take (i := 24) (v := undef) rfl (by kernel_rfl) (by kernel_rfl) (by kernel_rfl) (fun _ _ _ h => h) (Or.inr ⟨by rfl, rfl⟩) (by assumption) ?_
                      simp only [Act.put, List.getElem_toArray, List.getElem_cons_zero, List.getElem_cons_succ, List.setIfInBounds_toArray, List.set_cons_zero, List.set_cons_succ]
                      refine wpAnyH_take (i := 25) (v := undef) rfl (by kernel_rfl) (by kernel_rfl) (by kernel_rfl) (fun _ _ _ h => h) (Or.inr ⟨by rfl, rfl⟩) (by assumption) ?_
                      simp only [Act.put, List.getElem_toArray, List.getElem_cons_zero, List.getElem_cons_succ, List.setIfInBounds_toArray, List.set_cons_zero, List.set_cons_succ]
                      refine wpAnyH_take (i := 26) (v := undef) rfl (by kernel_rfl) (by kernel_rfl) (by kernel_rfl) (fun _ _ _ h => h) (Or.inr ⟨by rfl, rfl⟩) (by assumption) ?_
                      simp only [Act.put, List.getElem_toArray, List.getElem_cons_zero, List.getElem_cons_succ, List.setIfInBounds_toArray, List.set_cons_zero, List.set_cons_succ]
                      refine wpAnyH_take (i := 27) (v := undef) rfl (by kernel_rfl) (by kernel_rfl) (by kernel_rfl) (fun _ _ _ h => h) (Or.inr ⟨by rfl, rfl⟩) (by assumption) ?_
                      simp only [Act.put, List.getElem_toArray, List.getElem_cons_zero, List.getElem_cons_succ, List.setIfInBounds_toArray, List.set_cons_zero, List.set_cons_succ]
                      refine wpAnyH_take (i := 28) (v := undef) rfl (by kernel_rfl) (by kernel_rfl) (by kernel_rfl) (fun _ _ _ h => h) (Or.inr ⟨by rfl, rfl⟩) (by assumption) ?_
                      simp only [Act.put, List.getElem_toArray, List.getElem_cons_zero, List.getElem_cons_succ, List.setIfInBounds_toArray, List.set_cons_zero, List.set_cons_succ]
                      refine wpAnyH_take (i := 29) (v := undef) rfl (by kernel_rfl) (by kernel_rfl) (by kernel_rfl) (fun _ _ _ h => h) (Or.inr ⟨by rfl, rfl⟩) (by assumption) ?_
                      simp only [Act.put, List.getElem_toArray, List.getElem_cons_zero, List.getElem_cons_succ, List.setIfInBounds_toArray, List.set_cons_zero, List.set_cons_succ]
                      refine wpAnyH_take (i := 30) (v := ?_) rfl (by kernel_rfl) (by kernel_rfl) (by kernel_rfl) (fun _ _ _ h => h) (Or.inl ⟨by rfl, ?_⟩) (by assumption) ?_
                      rotate_left
                      · intro w hSw; (try dsimp only at hSw); go_simp; try with_reducible rfl
                      simp only [Act.put, List.getElem_toArray, List.getElem_cons_zero, List.getElem_cons_succ, List.setIfInBounds_toArray, List.set_cons_zero, List.set_cons_succ]
                      refine wpAnyH_done (by kernel_rfl) ?_ _
                      refine NoPanic.normal ?_
                      clear hHeld
                      go_wp2_with fail
                      go_meet
                      exact ⟨by rw [Hs.out], (Below.refl _ _).drew⟩
                    by_cases c3 : 0 ≤ k
                    · have hs : (!fitsB g bound 0 p) = b12 := by rw [← hb]; simp [c1, c2, c3]
                      obtain ⟨bf, hbf⟩ : ∃ bf, fitsB g bound 0 p = bf := ⟨_, rfl⟩
                      rw [hbf] at hs
                      have hft := fits_any wr.drew g (.slice (some pad) I pc) (.slice KA KN kc) (.slice (some iad) I ic) (.slice NA nn nc) B (by show B ≤ wr.heap.size; omega) (by have h := HKAq.out; rw [Hkv.out] at h; exact h) (by rw [HK.out]; exact hkm) bound p 0
                      rw [hag, hbf] at hft
                      have Hs := Lib.hid hs
                      have Hb := Lib.hid hb
                      have Hbf := Lib.hid hbf
                      have Hft := Lib.hid hft
                      clear hft hbf hb hs
                      refine wpAnyH_take (i := 0) (v := ?_) rfl (by kernel_rfl) (by kernel_rfl) (by kernel_rfl) (fun _ _ _ h => h) (Or.inl ⟨by rfl, ?_⟩) (by assumption) ?_
                      rotate_left
                      · intro w hSw; (try dsimp only at hSw); go_simp; try with_reducible rfl
                      simp only [Act.put, List.getElem_toArray, List.getElem_cons_zero, List.getElem_cons_succ, List.setIfInBounds_toArray, List.set_cons_zero, List.set_cons_succ]
                      refine wpAnyH_take (i := 1) (v := ?_) rfl (by kernel_rfl) (by kernel_rfl) (by kernel_rfl) (fun _ _ _ h => h) (Or.inl ⟨by rfl, ?_⟩) (by assumption) ?_
                      rotate_left
                      · intro w hSw; (try dsimp only at hSw); go_simp; try with_reducible rfl
                      simp only [Act.put, List.getElem_toArray, List.getElem_cons_zero, List.getElem_cons_succ, List.setIfInBounds_toArray, List.set_cons_zero, List.set_cons_succ]
                      refine wpAnyH_take (i := 2) (v := ?_) rfl (by kernel_rfl) (by kernel_rfl) (by kernel_rfl) (fun _ _ _ h => h) (Or.inl ⟨by rfl, ?_⟩) (by assumption) ?_
                      rotate_left
                      · intro w hSw; (try dsimp only at hSw); go_simp; try with_reducible rfl
                      simp only [Act.put, List.getElem_toArray, List.getElem_cons_zero, List.getElem_cons_succ, List.setIfInBounds_toArray, List.set_cons_zero, List.set_cons_succ]
                      refine wpAnyH_take (i := 3) (v := ?_) rfl (by kernel_rfl) (by kernel_rfl) (by kernel_rfl) (fun _ _ _ h => h) (Or.inl ⟨by rfl, ?_⟩) (by assumption) ?_
                      rotate_left
                      · intro w hSw; (try dsimp only at hSw); go_simp; try with_reducible rfl
                      simp only [Act.put, List.getElem_toArray, List.getElem_cons_zero, List.getElem_cons_succ, List.setIfInBounds_toArray, List.set_cons_zero, List.set_cons_succ]
                      refine wpAnyH_take (i := 4) (v := ?_) rfl (by kernel_rfl) (by kernel_rfl) (by kernel_rfl) (fun _ _ _ h => h) (Or.inl ⟨by rfl, ?_⟩) (by assumption) ?_
                      rotate_left
                      · intro w hSw; (try dsimp only at hSw); go_simp; try with_reducible rfl
                      simp only [Act.put, List.getElem_toArray, List.getElem_cons_zero, List.getElem_cons_succ, List.setIfInBounds_toArray, List.set_cons_zero, List.set_cons_succ]
                      refine wpAnyH_take (i := 5) (v := ?_) rfl (by kernel_rfl) (by kernel_rfl) (by kernel_rfl) (fun _ _ _ h => h) (Or.inl ⟨by rfl, ?_⟩) (by assumption) ?_
                      rotate_left
                      · intro w hSw; (try dsimp only at hSw); go_simp; try with_reducible rfl
                      simp only [Act.put, List.getElem_toArray, List.getElem_cons_zero, List.getElem_cons_succ, List.setIfInBounds_toArray, List.set_cons_zero, List.set_cons_succ]
                      refine wpAnyH_take (i := 6) (v := ?_) rfl (by kernel_rfl) (by kernel_rfl) (by kernel_rfl) (fun _ _ _ h => h) (Or.inl ⟨by rfl, ?_⟩) (by assumption) ?_
                      rotate_left
                      · intro w hSw; (try dsimp only at hSw); go_simp; try with_reducible rfl
                      simp only [Act.put, List.getElem_toArray, List.getElem_cons_zero, List.getElem_cons_succ, List.setIfInBounds_toArray, List.set_cons_zero, List.set_cons_succ]
                      refine wpAnyH_take (i := 7) (v := ?_) rfl (by kernel_rfl) (by kernel_rfl) (by kernel_rfl) (fun _ _ _ h => h) (Or.inl ⟨by rfl, ?_⟩) (by assumption) ?_
                      rotate_left
                      · intro w hSw; (try dsimp only at hSw); go_simp; try with_reducible rfl
                      simp only [Act.put, List.getElem_toArray, List.getElem_cons_zero, List.getElem_cons_succ, List.setIfInBounds_toArray, List.set_cons_zero, List.set_cons_succ]
                      refine wpAnyH_take (i := 8) (v := ?_) rfl (by kernel_rfl) (by kernel_rfl) (by kernel_rfl) (fun _ _ _ h => h) (Or.inl ⟨by rfl, ?_⟩) (by assumption) ?_
                      rotate_left
                      · intro w hSw; (try dsimp only at hSw); go_simp; try with_reducible rfl
                      simp only [Act.put, List.getElem_toArray, List.getElem_cons_zero, List.getElem_cons_succ, List.setIfInBounds_toArray, List.set_cons_zero, List.set_cons_succ]
                      refine wpAnyH_take (i := 9) (v := ?_) rfl (by kernel_rfl) (by kernel_rfl) (by kernel_rfl) (fun _ _ _ h => h) (Or.inl ⟨by rfl, ?_⟩) (by assumption) ?_
                      rotate_left
                      · intro w hSw; (try dsimp only at hSw); go_simp; try with_reducible rfl
                      simp only [Act.put, List.getElem_toArray, List.getElem_cons_zero, List.getElem_cons_succ, List.setIfInBounds_toArray, List.set_cons_zero, List.set_cons_succ]
                      refine wpAnyH_take (i := 10) (v := ?_) rfl (by kernel_rfl) (by kernel_rfl) (by kernel_rfl) (fun _ _ _ h => h) (Or.inl ⟨by rfl, ?_⟩) (by assumption) ?_
                      rotate_left
                      · intro w hSw; (try dsimp only at hSw); go_simp; try with_reducible rfl
                      simp only [Act.put, List.getElem_toArray, List.getElem_cons_zero, List.getElem_cons_succ, List.setIfInBounds_toArray, List.set_cons_zero, List.set_cons_succ]
                      refine wpAnyH_take (i := 11) (v := ?_) rfl (by kernel_rfl) (by kernel_rfl) (by kernel_rfl) (fun _ _ _ h => h) (Or.inl ⟨by rfl, ?_⟩) (by assumption) ?_
                      rotate_left
                      · intro w hSw; (try dsimp only at hSw); go_simp; try with_reducible rfl
                      simp only [Act.put, List.getElem_toArray, List.getElem_cons_zero, List.getElem_cons_succ, List.setIfInBounds_toArray, List.set_cons_zero, List.set_cons_succ]
                      refine wpAnyH_take (i := 12) (v := ?_) rfl (by kernel_rfl) (by kernel_rfl) (by kernel_rfl) (fun _ _ _ h => h) (Or.inl ⟨by rfl, ?_⟩) (by assumption) ?_
                      rotate_left
                      · intro w hSw; (try dsimp only at hSw); go_simp; try with_reducible rfl
                      simp only [Act.put, List.getElem_toArray, List.getElem_cons_zero, List.getElem_cons_succ, List.setIfInBounds_toArray, List.set_cons_zero, List.set_cons_succ]
                      refine wpAnyH_take (i := 13) (v := ?_) rfl (by kernel_rfl) (by kernel_rfl) (by kernel_rfl) (fun _ _ _ h => h) (Or.inl ⟨by rfl, ?_⟩) (by assumption) ?_
                      rotate_left
                      · intro w hSw; (try dsimp only at hSw); go_simp; try with_reducible rfl
                      simp only [Act.put, List.getElem_toArray, List.getElem_cons_zero, List.getElem_cons_succ, List.setIfInBounds_toArray, List.set_cons_zero, List.set_cons_succ]
                      refine wpAnyH_take (i := 14) (v := ?_) rfl (by kernel_rfl) (by kernel_rfl) (by kernel_rfl) (fun _ _ _ h => h) (Or.inl ⟨by rfl, ?_⟩) (by assumption) ?_
                      rotate_left
                      · intro w hSw; (try dsimp only at hSw); go_simp; try with_reducible rfl
                      simp only [Act.put, List.getElem_toArray, List.getElem_cons_zero, List.getElem_cons_succ, List.setIfInBounds_toArray, List.set_cons_zero, List.set_cons_succ]
                      refine wpAnyH_take (i := 15) (v := ?_) rfl (by kernel_rfl) (by kernel_rfl) (by kernel_rfl) (fun _ _ _ h => h) (Or.inl ⟨by rfl, ?_⟩) (by assumption) ?_
                      rotate_left
                      · intro w hSw; (try dsimp only at hSw); go_simp; try with_reducible rfl
                      simp only [Act.put, List.getElem_toArray, List.getElem_cons_zero, List.getElem_cons_succ, List.setIfInBounds_toArray, List.set_cons_zero, List.set_cons_succ]
                      refine wpAnyH_take (i := 16) (v := ?_) rfl (by kernel_rfl) (by kernel_rfl) (by kernel_rfl) (fun _ _ _ h => h) (Or.inl ⟨by rfl, ?_⟩) (by assumption) ?_
                      rotate_left
                      · intro w hSw; (try dsimp only at hSw); go_simp; try with_reducible rfl
                      simp only [Act.put, List.getElem_toArray, List.getElem_cons_zero, List.getElem_cons_succ, List.setIfInBounds_toArray, List.set_cons_zero, List.set_cons_succ]
                      refine wpAnyH_take (i := 17) (v := ?_) rfl (by kernel_rfl) (by kernel_rfl) (by kernel_rfl) (fun _ _ _ h => h) (Or.inl ⟨by rfl, ?_⟩) (by assumption) ?_
                      rotate_left
                      · intro w hSw; (try dsimp only at hSw); go_simp; try with_reducible rfl
                      simp only [Act.put, List.getElem_toArray, List.getElem_cons_zero, List.getElem_cons_succ, List.setIfInBounds_toArray, List.set_cons_zero, List.set_cons_succ]
                      refine wpAnyH_take (i := 18) (v := ?_) rfl (by kernel_rfl) (by kernel_rfl) (by kernel_rfl) (fun _ _ _ h => h) (Or.inl ⟨by rfl, ?_⟩) (by assumption) ?_
                      rotate_left
                      · intro w hSw; (try dsimp only at hSw); go_simp; try with_reducible rfl
                      simp only [Act.put, List.getElem_toArray, List.getElem_cons_zero, List.getElem_cons_succ, List.setIfInBounds_toArray, List.set_cons_zero, List.set_cons_succ]
                      refine wpAnyH_take (i := 19) (v := ?_) rfl (by kernel_rfl) (by kernel_rfl) (by kernel_rfl) (fun _ _ _ h => h) (Or.inl ⟨by rfl, ?_⟩) (by assumption) ?_
                      rotate_left
                      · intro w hSw; (try dsimp only at hSw); go_simp; try with_reducible rfl
                      simp only [Act.put, List.getElem_toArray, List.getElem_cons_zero, List.getElem_cons_succ, List.setIfInBounds_toArray, List.set_cons_zero, List.set_cons_succ]
                      refine wpAnyH_take (i := 20) (v := ?_) rfl (by kernel_rfl) (by kernel_rfl) (by kernel_rfl) (fun _ _ _ h => h) (Or.inl ⟨by rfl, ?_⟩) (by assumption) ?_
                      rotate_left
                      · intro w hSw; (try dsimp only at hSw); go_simp; try with_reducible rfl
                      simp only [Act.put, List.getElem_toArray, List.getElem_cons_zero, List.getElem_cons_succ, List.setIfInBounds_toArray, List.set_cons_zero, List.set_cons_succ]
                      refine wpAnyH_take (i := 21) (v := ?_) rfl (by kernel_rfl) (by kernel_rfl) (by kernel_rfl) (fun _ _ _ h => h) (Or.inl ⟨by rfl, ?_⟩) (by assumption) ?_
                      rotate_left
                      · intro w hSw; (try dsimp only at hSw); go_simp; try with_reducible rfl
                      simp only [Act.put, List.getElem_toArray, List.getElem_cons_zero, List.getElem_cons_succ, List.setIfInBounds_toArray, List.set_cons_zero, List.set_cons_succ]
                      refine wpAnyH_take (i := 22) (v := ?_) rfl (by kernel_rfl) (by kernel_rfl) (by kernel_rfl) (fun _ _ _ h => h) (Or.inl ⟨by rfl, ?_⟩) (by assumption) ?_
                      rotate_left
                      · intro w hSw; (try dsimp only at hSw); go_simp; try with_reducible rfl
                      simp only [Act.put, List.getElem_toArray, List.getElem_cons_zero, List.getElem_cons_succ, List.setIfInBounds_toArray, List.set_cons_zero, List.set_cons_succ]
                      refine wpAnyH_take (i := 23) (v := ?_) rfl (by kernel_rfl) (by kernel_rfl) (by kernel_rfl) (fun _ _ _ h => h) (Or.inl ⟨by rfl, ?_⟩) (by assumption) ?_
                      rotate_left
                      · intro w hSw; (try dsimp only at hSw); go_simp; try with_reducible rfl
                      simp only [Act.put, List.getElem_toArray, List.getElem_cons_zero, List.getElem_cons_succ, List.setIfInBounds_toArray, List.set_cons_zero, List.set_cons_succ]
                      refine wpAnyH_take (i := 24) rfl (by kernel_rfl) (by kernel_rfl) (by kernel_rfl) (fun _ _ _ h => h) (yieldsIf_load_mid (by rfl) 48 _ rfl G 0 rfl (gcells g (.slice (some pad) I pc) (.slice KA KN kc) (.slice (some iad) I ic) (.slice NA nn nc)) _ (fun w h => h.1) Try.underlying48 rfl (by kernel_rfl)) (by assumption) ?_
                      try simp only [Act.put, List.getElem_toArray, List.getElem_cons_zero, List.getElem_cons_succ, List.setIfInBounds_toArray, List.set_cons_zero, List.set_cons_succ]
                      refine wpAnyH_take (i := 25) (v := ?_) rfl (by kernel_rfl) (by kernel_rfl) (by kernel_rfl) (fun _ _ _ h => h) (Or.inl ⟨by rfl, ?_⟩) (by assumption) ?_
                      rotate_left
                      · intro w hSw; (try dsimp only at hSw); go_simp; try with_reducible rfl
                      simp only [Act.put, List.getElem_toArray, List.getElem_cons_zero, List.getElem_cons_succ, List.setIfInBounds_toArray, List.set_cons_zero, List.set_cons_succ]
                      refine wpAnyH_take (i := 26) (v := ?_) rfl (by kernel_rfl) (by kernel_rfl) (by kernel_rfl) (fun _ _ _ h => h) (Or.inl ⟨by rfl, ?_⟩) (by assumption) ?_
                      rotate_left
                      · intro w hSw; (try dsimp only at hSw); go_simp; try with_reducible rfl
                      simp only [Act.put, List.getElem_toArray, List.getElem_cons_zero, List.getElem_cons_succ, List.setIfInBounds_toArray, List.set_cons_zero, List.set_cons_succ]
                      refine wpAnyH_ready (rs := [27]) (by kernel_rfl) (by simp) ?_
                      refine AllReadyH.cons rfl (fun K hK => ?_) AllReadyH.nil
                      go_simp
                      refine Hft.out.mono ?_
                      rintro e w9 ⟨rfl, hb9'⟩
                      have hr9 : w9.rangeAt G 0 (gcells g (.slice (some pad) I pc) (.slice KA KN kc) (.slice (some iad) I ic) (.slice NA nn nc)) := fun j v hv => (hb9'.cell (p := ⟨G, 0 + j, none⟩) lG).trans (Hrange.out j v hv)
                      refine hK.out _ _ ⟨hr9, (hb9'.cell (p := ⟨G, 2, none⟩) lG).trans p2, (hb9'.cell (p := ⟨G, 3, none⟩) lG).trans p3, (hb9'.cell (p := iad.add j) li).trans hice⟩ (fun hHeld2 => ?_)
                      have Hr9 := Lib.hid hr9
                      have Hb9' := Lib.hid hb9'
                      clear hb9' hr9
                      clear hK K hHeld
                      try simp only [Act.put, List.getElem_toArray, List.getElem_cons_zero, List.getElem_cons_succ, List.setIfInBounds_toArray, List.set_cons_zero, List.set_cons_succ]
                      refine wpAnyH_take (i := 28) (v := ?_) rfl (by kernel_rfl) (by kernel_rfl) (by kernel_rfl) (fun _ _ _ h => h) (Or.inl ⟨by rfl, ?_⟩) (by assumption) ?_
                      rotate_left
                      · intro w hSw; (try dsimp only at hSw); go_simp; try with_reducible rfl
                      simp only [Act.put, List.getElem_toArray, List.getElem_cons_zero, List.getElem_cons_succ, List.setIfInBounds_toArray, List.set_cons_zero, List.set_cons_succ]
                      refine wpAnyH_take (i := 29) (v := ?_) rfl (by kernel_rfl) (by kernel_rfl) (by kernel_rfl) (fun _ _ _ h => h) (Or.inl ⟨by rfl, ?_⟩) (by assumption) ?_
                      rotate_left
                      · intro w hSw; (try dsimp only at hSw); go_simp; try with_reducible rfl
                      simp only [Act.put, List.getElem_toArray, List.getElem_cons_zero, List.getElem_cons_succ, List.setIfInBounds_toArray, List.set_cons_zero, List.set_cons_succ]
                      refine wpAnyH_take (i := 30) (v := ?_) rfl (by kernel_rfl) (by kernel_rfl) (by kernel_rfl) (fun _ _ _ h => h) (Or.inl ⟨by rfl, ?_⟩) (by assumption) ?_
                      rotate_left
                      · intro w hSw; (try dsimp only at hSw); go_simp; try with_reducible rfl
                      simp only [Act.put, List.getElem_toArray, List.getElem_cons_zero, List.getElem_cons_succ, List.setIfInBounds_toArray, List.set_cons_zero, List.set_cons_succ]
                      refine wpAnyH_done (by kernel_rfl) ?_ _
                      refine NoPanic.normal ?_
                      clear hHeld2
                      go_wp2_with fail
                      go_meet
                      exact ⟨by rw [Hs.out], (Below.refl _ wr).drew.trans Hb9'.out⟩
                    · have hs : b12 = false := by rw [← hb]; simp [c1, c2, c3]
                      have Hs := Lib.hid hs
                      have Hb := Lib.hid hb
                      clear hb hs
                      refine wpAnyH_take (i := 0) (v := ?_) rfl (by kernel_rfl) (by kernel_rfl) (by kernel_rfl) (fun _ _ _ h => h) (Or.inl ⟨by rfl, ?_⟩) (by assumption) ?_
                      rotate_left
                      · intro w hSw; (try dsimp only at hSw); go_simp; try with_reducible rfl
                      simp only [Act.put, List.getElem_toArray, List.getElem_cons_zero, List.getElem_cons_succ, List.setIfInBounds_toArray, List.set_cons_zero, List.set_cons_succ]
                      refine wpAnyH_take (i := 1) (v := ?_) rfl (by kernel_rfl) (by kernel_rfl) (by kernel_rfl) (fun _ _ _ h => h) (Or.inl ⟨by rfl, ?_⟩) (by assumption) ?_
                      rotate_left
                      · intro w hSw; (try dsimp only at hSw); go_simp; try with_reducible rfl
                      simp only [Act.put, List.getElem_toArray, List.getElem_cons_zero, List.getElem_cons_succ, List.setIfInBounds_toArray, List.set_cons_zero, List.set_cons_succ]
                      refine wpAnyH_take (i := 2) (v := ?_) rfl (by kernel_rfl) (by kernel_rfl) (by kernel_rfl) (fun _ _ _ h => h) (Or.inl ⟨by rfl, ?_⟩) (by assumption) ?_
                      rotate_left
                      · intro w hSw; (try dsimp only at hSw); go_simp; try with_reducible rfl
                      simp only [Act.put, List.getElem_toArray, List.getElem_cons_zero, List.getElem_cons_succ, List.setIfInBounds_toArray, List.set_cons_zero, List.set_cons_succ]
                      refine wpAnyH_take (i := 3) (v := ?_) rfl (by kernel_rfl) (by kernel_rfl) (by kernel_rfl) (fun _ _ _ h => h) (Or.inl ⟨by rfl, ?_⟩) (by assumption) ?_
                      rotate_left
                      · intro w hSw; (try dsimp only at hSw); go_simp; try with_reducible rfl
                      simp only [Act.put, List.getElem_toArray, List.getElem_cons_zero, List.getElem_cons_succ, List.setIfInBounds_toArray, List.set_cons_zero, List.set_cons_succ]
                      refine wpAnyH_take (i := 4) (v := ?_) rfl (by kernel_rfl) (by kernel_rfl) (by kernel_rfl) (fun _ _ _ h => h) (Or.inl ⟨by rfl, ?_⟩) (by assumption) ?_
                      rotate_left
                      · intro w hSw; (try dsimp only at hSw); go_simp; try with_reducible rfl
                      simp only [Act.put, List.getElem_toArray, List.getElem_cons_zero, List.getElem_cons_succ, List.setIfInBounds_toArray, List.set_cons_zero, List.set_cons_succ]
                      refine wpAnyH_take (i := 5) (v := ?_) rfl (by kernel_rfl) (by kernel_rfl) (by kernel_rfl) (fun _ _ _ h => h) (Or.inl ⟨by rfl, ?_⟩) (by assumption) ?_
                      rotate_left
                      · intro w hSw; (try dsimp only at hSw); go_simp; try with_reducible rfl
                      simp only [Act.put, List.getElem_toArray, List.getElem_cons_zero, List.getElem_cons_succ, List.setIfInBounds_toArray, List.set_cons_zero, List.set_cons_succ]
                      refine wpAnyH_take (i := 6) (v := ?_) rfl (by kernel_rfl) (by kernel_rfl) (by kernel_rfl) (fun _ _ _ h => h) (Or.inl ⟨by rfl, ?_⟩) (by assumption) ?_
                      rotate_left
                      · intro w hSw; (try dsimp only at hSw); go_simp; try with_reducible rfl
                      simp only [Act.put, List.getElem_toArray, List.getElem_cons_zero, List.getElem_cons_succ, List.setIfInBounds_toArray, List.set_cons_zero, List.set_cons_succ]
                      refine wpAnyH_take (i := 7) (v := ?_) rfl (by kernel_rfl) (by kernel_rfl) (by kernel_rfl) (fun _ _ _ h => h) (Or.inl ⟨by rfl, ?_⟩) (by assumption) ?_
                      rotate_left
                      · intro w hSw; (try dsimp only at hSw); go_simp; try with_reducible rfl
                      simp only [Act.put, List.getElem_toArray, List.getElem_cons_zero, List.getElem_cons_succ, List.setIfInBounds_toArray, List.set_cons_zero, List.set_cons_succ]
                      refine wpAnyH_take (i := 8) (v := ?_) rfl (by kernel_rfl) (by kernel_rfl) (by kernel_rfl) (fun _ _ _ h => h) (Or.inl ⟨by rfl, ?_⟩) (by assumption) ?_
                      rotate_left
                      · intro w hSw; (try dsimp only at hSw); go_simp; try with_reducible rfl
                      simp only [Act.put, List.getElem_toArray, List.getElem_cons_zero, List.getElem_cons_succ, List.setIfInBounds_toArray, List.set_cons_zero, List.set_cons_succ]
                      refine wpAnyH_take (i := 9) (v := ?_) rfl (by kernel_rfl) (by kernel_rfl) (by kernel_rfl) (fun _ _ _ h => h) (Or.inl ⟨by rfl, ?_⟩) (by assumption) ?_
                      rotate_left
                      · intro w hSw; (try dsimp only at hSw); go_simp; try with_reducible rfl
                      simp only [Act.put, List.getElem_toArray, List.getElem_cons_zero, List.getElem_cons_succ, List.setIfInBounds_toArray, List.set_cons_zero, List.set_cons_succ]
                      refine wpAnyH_take (i := 10) (v := ?_) rfl (by kernel_rfl) (by kernel_rfl) (by kernel_rfl) (fun _ _ _ h => h) (Or.inl ⟨by rfl, ?_⟩) (by assumption) ?_
                      rotate_left
                      · intro w hSw; (try dsimp only at hSw); go_simp; try with_reducible rfl
                      simp only [Act.put, List.getElem_toArray, List.getElem_cons_zero, List.getElem_cons_succ, List.setIfInBounds_toArray, List.set_cons_zero, List.set_cons_succ]
                      refine wpAnyH_take (i := 11) (v := ?_) rfl (by kernel_rfl) (by kernel_rfl) (by kernel_rfl) (fun _ _ _ h => h) (Or.inl ⟨by rfl, ?_⟩) (by assumption) ?_
                      rotate_left
                      · intro w hSw; (try dsimp only at hSw); go_simp; try with_reducible rfl
                      simp only [Act.put, List.getElem_toArray, List.getElem_cons_zero, List.getElem_cons_succ, List.setIfInBounds_toArray, List.set_cons_zero, List.set_cons_succ]
                      refine wpAnyH_take (i := 12) (v := ?_) rfl (by kernel_rfl) (by kernel_rfl) (by kernel_rfl) (fun _ _ _ h => h) (Or.inl ⟨by rfl, ?_⟩) (by assumption) ?_
                      rotate_left
                      · intro w hSw; (try dsimp only at hSw); go_simp; try with_reducible rfl
                      simp only [Act.put, List.getElem_toArray, List.getElem_cons_zero, List.getElem_cons_succ, List.setIfInBounds_toArray, List.set_cons_zero, List.set_cons_succ]
                      refine wpAnyH_take (i := 13) (v := ?_) rfl (by kernel_rfl) (by kernel_rfl) (by kernel_rfl) (fun _ _ _ h => h) (Or.inl ⟨by rfl, ?_⟩) (by assumption) ?_
                      rotate_left
                      · intro w hSw; (try dsimp only at hSw); go_simp; try with_reducible rfl
                      simp only [Act.put, List.getElem_toArray, List.getElem_cons_zero, List.getElem_cons_succ, List.setIfInBounds_toArray, List.set_cons_zero, List.set_cons_succ]
                      refine wpAnyH_take (i := 14) (v := ?_) rfl (by kernel_rfl) (by kernel_rfl) (by kernel_rfl) (fun _ _ _ h => h) (Or.inl ⟨by rfl, ?_⟩) (by assumption) ?_
                      rotate_left
                      · intro w hSw; (try dsimp only at hSw); go_simp; try with_reducible rfl
                      simp only [Act.put, List.getElem_toArray, List.getElem_cons_zero, List.getElem_cons_succ, List.setIfInBounds_toArray, List.set_cons_zero, List.set_cons_succ]
                      refine wpAnyH_take (i := 15) (v := ?_) rfl (by kernel_rfl) (by kernel_rfl) (by kernel_rfl) (fun _ _ _ h => h) (Or.inl ⟨by rfl, ?_⟩) (by assumption) ?_
                      rotate_left
                      · intro w hSw; (try dsimp only at hSw); go_simp; try with_reducible rfl
                      simp only [Act.put, List.getElem_toArray, List.getElem_cons_zero, List.getElem_cons_succ, List.setIfInBounds_toArray, List.set_cons_zero, List.set_cons_succ]
                      refine wpAnyH_take (i := 16) (v := ?_) rfl (by kernel_rfl) (by kernel_rfl) (by kernel_rfl) (fun _ _ _ h => h) (Or.inl ⟨by rfl, ?_⟩) (by assumption) ?_
                      rotate_left
                      · intro w hSw; (try dsimp only at hSw); go_simp; try with_reducible rfl
                      simp only [Act.put, List.getElem_toArray, List.getElem_cons_zero, List.getElem_cons_succ, List.setIfInBounds_toArray, List.set_cons_zero, List.set_cons_succ]
                      refine wpAnyH_take (i := 17) (v := ?_) rfl (by kernel_rfl) (by kernel_rfl) (by kernel_rfl) (fun _ _ _ h => h) (Or.inl ⟨by rfl, ?_⟩) (by assumption) ?_
                      rotate_left
                      · intro w hSw; (try dsimp only at hSw); go_simp; try with_reducible rfl
                      simp only [Act.put, List.getElem_toArray, List.getElem_cons_zero, List.getElem_cons_succ, List.setIfInBounds_toArray, List.set_cons_zero, List.set_cons_succ]
                      refine wpAnyH_take (i := 18) (v := ?_) rfl (by kernel_rfl) (by kernel_rfl) (by kernel_rfl) (fun _ _ _ h => h) (Or.inl ⟨by rfl, ?_⟩) (by assumption) ?_
                      rotate_left
                      · intro w hSw; (try dsimp only at hSw); go_simp; try with_reducible rfl
                      simp only [Act.put, List.getElem_toArray, List.getElem_cons_zero, List.getElem_cons_succ, List.setIfInBounds_toArray, List.set_cons_zero, List.set_cons_succ]
                      refine wpAnyH_take (i := 19) (v := ?_) rfl (by kernel_rfl) (by kernel_rfl) (by kernel_rfl) (fun _ _ _ h => h) (Or.inl ⟨by rfl, ?_⟩) (by assumption) ?_
                      rotate_left
                      · intro w hSw; (try dsimp only at hSw); go_simp; try with_reducible rfl
                      simp only [Act.put, List.getElem_toArray, List.getElem_cons_zero, List.getElem_cons_succ, List.setIfInBounds_toArray, List.set_cons_zero, List.set_cons_succ]
                      refine wpAnyH_take (i := 20) (v := ?_) rfl (by kernel_rfl) (by kernel_rfl) (by kernel_rfl) (fun _ _ _ h => h) (Or.inl ⟨by rfl, ?_⟩) (by assumption) ?_
                      rotate_left
                      · intro w hSw; (try dsimp only at hSw); go_simp; try with_reducible rfl
                      simp only [Act.put, List.getElem_toArray, List.getElem_cons_zero, List.getElem_cons_succ, List.setIfInBounds_toArray, List.set_cons_zero, List.set_cons_succ]
                      refine wpAnyH_take (i := 21) (v := ?_) rfl (by kernel_rfl) (by kernel_rfl) (by kernel_rfl) (fun _ _ _ h => h) (Or.inl ⟨by rfl, ?_⟩) (by assumption) ?_
                      rotate_left
                      · intro w hSw; (try dsimp only at hSw); go_simp; try with_reducible rfl
                      simp only [Act.put, List.getElem_toArray, List.getElem_cons_zero, List.getElem_cons_succ, List.setIfInBounds_toArray, List.set_cons_zero, List.set_cons_succ]
                      refine wpAnyH_take (i := 22) (v := ?_) rfl (by kernel_rfl) (by kernel_rfl) (by kernel_rfl) (fun _ _ _ h => h) (Or.inl ⟨by rfl, ?_⟩) (by assumption) ?_
                      rotate_left
                      · intro w hSw; (try dsimp only at hSw); go_simp; try with_reducible rfl
                      simp only [Act.put, List.getElem_toArray, List.getElem_cons_zero, List.getElem_cons_succ, List.setIfInBounds_toArray, List.set_cons_zero, List.set_cons_succ]
                      refine wpAnyH_take (i := 23) (v := ?_) rfl (by kernel_rfl) (by kernel_rfl) (by kernel_rfl) (fun _ _ _ h => h) (Or.inl ⟨by rfl, ?_⟩) (by assumption) ?_
                      rotate_left
                      · intro w hSw; (try dsimp only at hSw); go_simp; try with_reducible rfl
                      simp only [Act.put, List.getElem_toArray, List.getElem_cons_zero, List.getElem_cons_succ, List.setIfInBounds_toArray, List.set_cons_zero, List.set_cons_succ]
                      refine wpAnyH_take (i := 24) (v := undef) rfl (by kernel_rfl) (by kernel_rfl) (by kernel_rfl) (fun _ _ _ h => h) (Or.inr ⟨by rfl, rfl⟩) (by assumption) ?_
                      simp only [Act.put, List.getElem_toArray, List.getElem_cons_zero, List.getElem_cons_succ, List.setIfInBounds_toArray, List.set_cons_zero, List.set_cons_succ]
                      refine wpAnyH_take (i := 25) (v := undef) rfl (by kernel_rfl) (by kernel_rfl) (by kernel_rfl) (fun _ _ _ h => h) (Or.inr ⟨by rfl, rfl⟩) (by assumption) ?_
                      simp only [Act.put, List.getElem_toArray, List.getElem_cons_zero, List.getElem_cons_succ, List.setIfInBounds_toArray, List.set_cons_zero, List.set_cons_succ]
                      refine wpAnyH_take (i := 26) (v := undef) rfl (by kernel_rfl) (by kernel_rfl) (by kernel_rfl) (fun _ _ _ h => h) (Or.inr ⟨by rfl, rfl⟩) (by assumption) ?_
                      simp only [Act.put, List.getElem_toArray, List.getElem_cons_zero, List.getElem_cons_succ, List.setIfInBounds_toArray, List.set_cons_zero, List.set_cons_succ]
                      refine wpAnyH_take (i := 27) (v := undef) rfl (by kernel_rfl) (by kernel_rfl) (by kernel_rfl) (fun _ _ _ h => h) (Or.inr ⟨by rfl, rfl⟩) (by assumption) ?_
                      simp only [Act.put, List.getElem_toArray, List.getElem_cons_zero, List.getElem_cons_succ, List.setIfInBounds_toArray, List.set_cons_zero, List.set_cons_succ]
                      refine wpAnyH_take (i := 28) (v := undef) rfl (by kernel_rfl) (by kernel_rfl) (by kernel_rfl) (fun _ _ _ h => h) (Or.inr ⟨by rfl, rfl⟩) (by assumption) ?_
                      simp only [Act.put, List.getElem_toArray, List.getElem_cons_zero, List.getElem_cons_succ, List.setIfInBounds_toArray, List.set_cons_zero, List.set_cons_succ]
                      refine wpAnyH_take (i := 29) (v := ?_) rfl (by kernel_rfl) (by kernel_rfl) (by kernel_rfl) (fun _ _ _ h => h) (Or.inl ⟨by rfl, ?_⟩) (by assumption) ?_
                      rotate_left
                      · intro w hSw; (try dsimp only at hSw); go_simp; try with_reducible rfl
                      simp only [Act.put, List.getElem_toArray, List.getElem_cons_zero, List.getElem_cons_succ, List.setIfInBounds_toArray, List.set_cons_zero, List.set_cons_succ]
                      refine wpAnyH_take (i := 30) (v := ?_) rfl (by kernel_rfl) (by kernel_rfl) (by kernel_rfl) (fun _ _ _ h => h) (Or.inl ⟨by rfl, ?_⟩) (by assumption) ?_
                      rotate_left
                      · intro w hSw; (try dsimp only at hSw); go_simp; try with_reducible rfl
                      simp only [Act.put, List.getElem_toArray, List.getElem_cons_zero, List.getElem_cons_succ, List.setIfInBounds_toArray, List.set_cons_zero, List.set_cons_succ]
                      refine wpAnyH_done (by kernel_rfl) ?_ _
                      refine NoPanic.normal ?_
                      clear hHeld
                      go_wp2_with fail
                      go_meet
                      exact ⟨by rw [Hs.out], (Below.refl _ _).drew⟩
                  case rest =>
                    obtain ⟨rfl, hb8⟩ := hcut
                    have hbe := Hbq.out.trans (hb8.mono Hbq.out.size)
                    have hbe2 := Hbnd.out.trans (hb8.mono Hbnd.out.size)
                    cases b12
                    case true =>
                      have hs := Hbad.out (by rw [Hpar.out]; rfl)
                      have Hs := Lib.hid hs
                      have Hbe := Lib.hid hbe
                      have Hbe2 := Lib.hid hbe2
                      clear hbe2 hbe hs
                      go_wp2_with fail
                      go_ret
                      rw [Hs.out]
                      exact ⟨rfl, Hbe2.out⟩
                    case false =>
                      have hs := Hstep.out (by rw [Hpar.out]; rfl)
                      have Hs := Lib.hid hs
                      have Hbe := Lib.hid hbe
                      have Hbe2 := Lib.hid hbe2
                      clear hbe2 hbe hs
                      go_wp2_with fail
                      exact ⟨⟨j + 1, by omega, by go_num, Hbe.out, Lib.hid Hs.out⟩, by simp [intOf]; omega⟩
            · obtain ⟨b15, hb15⟩ : ∃ b15, head3 g = b15 := ⟨_, rfl⟩
              have hr5 : b15 = r := by
                have h1 := Hr4.out
                rw [List.all_eq_true.2 (fun k hk => hall.out k (by have := List.mem_range.1 hk; omega)), Bool.true_and, hb15] at h1
                exact h1
              have hb15' := hb15
              unfold head3 at hb15'
              obtain ⟨en, hen⟩ : ∃ en, g.entry = en := ⟨_, rfl⟩
              rw [hen] at p7 hb15'
              rw [Hnn.out] at hb15'
              have hcase : (nn = 0 ∧ b15 = false) ∨ (0 < nn ∧ 4096 < nn ∧ b15 = false) ∨ (0 < nn ∧ nn ≤ 4096 ∧ en < 0 ∧ b15 = false) ∨ (0 < nn ∧ nn ≤ 4096 ∧ 0 ≤ en ∧ (nn : Int) ≤ en ∧ b15 = false) ∨ (0 < nn ∧ nn ≤ 4096 ∧ 0 ≤ en ∧ en < nn ∧ b15 = true) := by
                rw [← hb15']
                by_cases d1 : 0 < nn
                · by_cases d2 : nn ≤ 4096
                  · by_cases d3 : 0 ≤ en
                    · by_cases d4 : en < nn
                      · exact .inr (.inr (.inr (.inr ⟨d1, d2, d3, d4, by simp [d1, d2, d3, d4]⟩)))
                      · exact .inr (.inr (.inr (.inl ⟨d1, d2, d3, by omega, by simp [d4]⟩)))
                    · exact .inr (.inr (.inl ⟨d1, d2, by omega, by simp [d3]⟩))
                  · exact .inr (.inl ⟨d1, by omega, by simp [d2]⟩)
                · exact .inl ⟨by omega, by simp [d1]⟩
              have hjI : ¬ (j : Int) < I := by omega
              have Hr5 := Lib.hid hr5
              have Hb15' := Lib.hid hb15'
              have Hall := Lib.hid hall
              have Hbq := Lib.hid hbq
              have HPq := Lib.hid hPq
              have HIq := Lib.hid hIq
              have HKAq := Lib.hid hKAq
              have HKRq := Lib.hid hKRq
              have HBq := Lib.hid hBq
              have Hbnd := Lib.hid hbnd
              have Hen := Lib.hid hen
              have Hb15 := Lib.hid hb15
              clear hb15 hen hbnd hBq hKRq hKAq hIq hPq hbq hall hb15' hr5
              go_upto_region 17 with fail
              rcases hcase with ⟨d1, hs⟩ | ⟨d1, d2, hs⟩ | ⟨d1, d2, d3, hs⟩ | ⟨d1, d2, d3, d4, hs⟩ | ⟨d1, d2, d3, d4, hs⟩
              · have hD1 : ¬ (1 : Int) ≤ nn := by omega
                have hD2 : ¬ 0 < nn := by omega
                have Hs := Lib.hid hs
                clear hs
                clear d1
                go_wp2_with fail
                go_ret
                rw [← Hr5.out, Hs.out]
                exact ⟨rfl, Hbnd.out⟩
              · have hD1 : ¬ (nn : Int) ≤ 4096 ∧ (1 : Int) ≤ nn := by omega
                have hD2 : 0 < nn := by omega
                have Hs := Lib.hid hs
                clear hs
                clear d1
                go_wp2_with fail
                go_ret
                rw [← Hr5.out, Hs.out]
                exact ⟨rfl, Hbnd.out⟩
              · have hD1 : (nn : Int) ≤ 4096 ∧ ¬ 0 ≤ en := by omega
                have hD2 : (1 : Int) ≤ nn := by omega
                have Hs := Lib.hid hs
                clear hs
                clear d1
                go_wp2_with fail
                go_ret
                rw [← Hr5.out, Hs.out]
                exact ⟨rfl, Hbnd.out⟩
              · have hD1 : (nn : Int) ≤ 4096 ∧ 0 ≤ en ∧ ¬ en < nn := by omega
                have hD2 : (1 : Int) ≤ nn := by omega
                have Hs := Lib.hid hs
                clear hs
                clear d1
                go_wp2_with fail
                go_ret
                rw [← Hr5.out, Hs.out]
                exact ⟨rfl, Hbnd.out⟩
              · have hD1 : (nn : Int) ≤ 4096 ∧ 0 ≤ en ∧ en < nn := by omega
                have hD2 : (1 : Int) ≤ nn := by omega
                have Hs := Lib.hid hs
                clear hs
                clear d1
                go_wp2_with fail
                go_ret
                rw [← Hr5.out, Hs.out]
                exact ⟨rfl, Hbnd.out⟩
end Go.Proofs.Ytncpehhfjkncoaa
