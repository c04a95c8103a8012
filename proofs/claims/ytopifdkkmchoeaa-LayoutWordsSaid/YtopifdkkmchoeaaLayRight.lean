/- Walk of the document's question whether a layout is that of a graph. Conditions: the graph lies in memory and is right; the layout is the one that is handed back. -/
import Derived.Test.YtopifdkkmchoeaaLayRef
set_option linter.unusedVariables false
set_option linter.unusedSimpArgs false
namespace Go.Proofs.Ytopifdkkmchoeaa
open Go.RowKit

theorem wordsL_app (a b : Nat) : wordsL 0 a ++ wordsL a b = wordsL 0 (a + b) := by
  induction b with
  | zero => simp [wordsL]
  | succ b ih => rw [wordsL_snoc, ← List.append_assoc, ih, ← Nat.add_assoc, wordsL_snoc, Nat.zero_add]
theorem wordsL_get (o n t : Nat) (h : t < n) : (wordsL o n)[t]? = some ((8 * (o + t) : Nat) : Int) := by
  unfold wordsL
  rw [List.getElem?_map, List.getElem?_range h]; rfl
theorem saveL_get : ∀ (l : List Nat) (o t r : Nat), l[t]? = some r → (saveL l o)[t]? = some ((r : Int), ((8 * (o + t) : Nat) : Int))
  | [], _, _, _, h => by simp at h
  | x :: l, o, 0, r, h => by simp at h; subst h; rfl
  | x :: l, o, t + 1, r, h => by
    rw [saveL, List.getElem?_cons_succ, saveL_get l (o + 1) t r (by simpa using h), show o + 1 + t = o + (t + 1) by omega]
theorem wordsL_not (n t : Nat) (h : t < n) : ((8 * (0 + t) : Nat) : Int) ∉ (wordsL 0 n).take t := fun hm => by
  obtain ⟨i, hi, e⟩ := List.getElem_of_mem hm
  have hi2 : i < t := by simp [wordsL] at hi; omega
  have h2 : ((wordsL 0 n).take t)[i]? = some ((8 * (0 + i) : Nat) : Int) := by rw [List.getElem?_take, if_pos hi2, wordsL_get 0 n i (by omega)]
  rw [List.getElem?_eq_getElem hi, e] at h2
  injection h2 with h2
  omega
set_option maxRecDepth 100000 in
set_option maxHeartbeats 8000000 in
theorem layright_any (w : World) (B base : Nat) (g : GraphD) (pv kv iv nv lv : Value) (hB : B ≤ w.heap.size) (hk : NumsAt .u8 w B kv g.kinds) (hN : RowsAt 12 NodeAt w B nv g.nodes) (hG : RightG g) (hL : LayOwn w base lv g) :
    Calls Try.prog 11 #[.agg (gcells g pv kv iv nv).toArray, lv] w fun e w' => e = .returned (.bool true) ∧ Below w.heap.size w w' := by
  obtain ⟨i0, hi0, iz0, iz1, iz2⟩ := info_parts infoIntL
  obtain ⟨hk0, hk1, hc0, hc1, hn1⟩ := hG
  obtain ⟨sv, cv, vv, rfl, hS, hC, hV⟩ := hL
  obtain ⟨SA, sc, rfl, hs1, hs2, hsR⟩ := own_any hS
  obtain ⟨CA, cc, rfl, hcc1, hcc2, hcR⟩ := own_any hC
  obtain ⟨VA, vc, rfl, hv1, hv2, hvR⟩ := own_any hV
  obtain ⟨KA, kc, rfl, hkc1, hkc2, _⟩ := hk.slice
  obtain ⟨kn, hkn⟩ : ∃ kn, g.kinds.length = kn := ⟨_, rfl⟩
  obtain ⟨ns, hns⟩ : ∃ ns, nSlots g = ns := ⟨_, rfl⟩
  obtain ⟨nc, hnc⟩ : ∃ nc, nCells g = nc := ⟨_, rfl⟩
  obtain ⟨nz, hnz⟩ : ∃ nz, nSaves g = nz := ⟨_, rfl⟩
  have hnz6 : nz ≤ 6 := by rw [← hnz]; exact regsK_len _ _
  have hnsk : (kn : Int) - 16 = ns := by rw [← hns]; unfold nSlots; omega
  have hncg : g.cells = (nc : Int) := by rw [← hnc]; unfold nCells; omega
  obtain ⟨sz, hsz⟩ : ∃ sz : Int, ((sizeL g : Nat) : Int) = sz := ⟨_, rfl⟩
  obtain ⟨rs, hrs⟩ : ∃ rs, resL g = rs := ⟨_, rfl⟩
  obtain ⟨br, hbr⟩ : ∃ br, g.result = br := ⟨_, rfl⟩
  rw [hns] at hS hs1 hsR
  rw [hnc] at hC hcc1 hcR
  rw [hns] at hC hcR
  rw [hnz] at hV hv1 hvR
  rw [hns, hnc] at hV hvR
  rw [hkn] at hk hkc1 hk0 hk1 ⊢
  have hns1 : ns ≤ 1008 := by omega
  have hnc1 : nc ≤ 64 := by omega
  have hszv : sz = ((8 * (ns + nc + nz + if br then 1 else 0) : Nat) : Int) := by rw [← hsz]; unfold sizeL nRes; rw [hns, hnc, hnz, hbr]
  obtain ⟨NF, hNF⟩ : ∃ NF : Nat, ns + nc + nz + (if br then 1 else 0) = NF := ⟨_, rfl⟩
  rw [hNF] at hszv
  have hNF2 : NF ≤ 1100 := by rw [← hNF]; split <;> omega
  have hrsv : rs = if br then ((8 * (ns + nc + nz) : Nat) : Int) else -1 := by rw [← hrs]; unfold resL; rw [hns, hnc, hnz, hbr]
  unfold maxLen at hs2 hcc2 hv2 hkc2
  obtain ⟨Gb, hGb⟩ : ∃ Gb, Gb = w.heap.size := ⟨_, rfl⟩
  obtain ⟨Lb, hLb⟩ : ∃ Lb, Lb = w.heap.size + 1 := ⟨_, rfl⟩
  have hX := (Blk.new w 44 #[pv, .slice KA kn kc, .int .i64 (nc : Int), iv, .bool br, .int .i64 g.keep, nv, .int .i64 g.entry]).alloc (.cells #[.int .i64 sz, .slice SA ns sc, .slice CA nc cc, .slice VA nz vc, .int .i64 rs] 36)
  have hY := Blk.new2 w (.cells #[pv, .slice KA kn kc, .int .i64 (nc : Int), iv, .bool br, .int .i64 g.keep, nv, .int .i64 g.entry] 44) 36 #[.int .i64 sz, .slice SA ns sc, .slice CA nc cc, .slice VA nz vc, .int .i64 rs]
  have hal := ((Below.refl w.heap.size w).alloc (Nat.le_refl _) (.cells #[pv, .slice KA kn kc, .int .i64 (nc : Int), iv, .bool br, .int .i64 g.keep, nv, .int .i64 g.entry] 44)).alloc (by simp) (.cells #[.int .i64 sz, .slice SA ns sc, .slice CA nc cc, .slice VA nz vc, .int .i64 rs] 36)
  obtain ⟨V, hVV⟩ : ∃ V, V = (w.alloc (.cells #[pv, .slice KA kn kc, .int .i64 (nc : Int), iv, .bool br, .int .i64 g.keep, nv, .int .i64 g.entry] 44)).alloc (.cells #[.int .i64 sz, .slice SA ns sc, .slice CA nc cc, .slice VA nz vc, .int .i64 rs] 36) := ⟨_, rfl⟩
  rw [← hVV] at hX hY hal
  rw [← hGb] at hX
  rw [← hLb] at hY
  have hzV := hal.size
  have hkB : ∀ p : Addr, p.block < B → V.cell? p = w.cell? p := fun _ hp => (hal.mono hB).cell hp
  have hsv := saves_any V B g pv (.slice KA kn kc) iv nv (Nat.le_trans hB hzV) (hN.keep hkB fun _ _ h => h.keep hkB) hn1
  simp only [gcells] at hsv ⊢
  rw [hncg, hbr] at hsv ⊢
  rw [hsz, hrs, hns, hnc, hnz]
  obtain ⟨fv, hfv⟩ : ∃ fv : Value, fv = .agg #[pv, .slice KA kn kc, .int .i64 (nc : Int), iv, .bool br, .int .i64 g.keep, nv, .int .i64 g.entry] := ⟨_, rfl⟩
  have kx0 := Blk.cell hX 0
  have kx1 := Blk.cell hX 1
  have kx2 := Blk.cell hX 2
  have kx3 := Blk.cell hX 3
  have kx4 := Blk.cell hX 4
  have kx5 := Blk.cell hX 5
  have kx6 := Blk.cell hX 6
  have kx7 := Blk.cell hX 7
  simp only [List.getElem?_toArray, List.getElem?_cons_zero, List.getElem?_cons_succ] at kx0 kx1 kx2 kx3 kx4 kx5 kx6 kx7
  have ky0 := Blk.cell hY 0
  have ky1 := Blk.cell hY 1
  have ky2 := Blk.cell hY 2
  have ky3 := Blk.cell hY 3
  have ky4 := Blk.cell hY 4
  simp only [List.getElem?_toArray, List.getElem?_cons_zero, List.getElem?_cons_succ] at ky0 ky1 ky2 ky3 ky4
  have hXl := hX.lt
  have hYl := hY.lt
  have hne0 : (ns != ns) = false := by simp
  have HS := Lib.hid hS
  have HC := Lib.hid hC
  have HV := Lib.hid hV
  have HsR := Lib.hid hsR
  have HcR := Lib.hid hcR
  have HvR := Lib.hid hvR
  have Hk := Lib.hid hk
  have HN := Lib.hid hN
  have Hsz := Lib.hid hsz
  have Hrs := Lib.hid hrs
  have Hbr := Lib.hid hbr
  have Hns := Lib.hid hns
  have Hnc := Lib.hid hnc
  have Hnz := Lib.hid hnz
  have Hszv := Lib.hid hszv
  have Hrsv := Lib.hid hrsv
  have HNF := Lib.hid hNF
  have HX := Lib.hid hX
  have HY := Lib.hid hY
  have Hal := Lib.hid hal
  have HVV := Lib.hid hVV
  have HkB := Lib.hid hkB
  have Hsv := Lib.hid hsv
  have Hfv := Lib.hid hfv
  have Hkn := Lib.hid hkn
  have HGb := Lib.hid hGb
  have HLb := Lib.hid hLb
  have Hncg := Lib.hid hncg
  have Hne0 := Lib.hid hne0
  clear hne0 hncg hLb hGb hkn hfv hsv hkB hVV hal hY hX hNF hrsv hszv hnz hnc hns hbr hrs hsz hN hk hvR hcR hsR hV hC hS
  go_enter Try.func11, Try.ntmps11
  go_upto_region 1 with fail
  rw [← HVV.out, ← HLb.out, ← HGb.out]
  go_wp2_with fail
  refine Hsv.out.mono ?_
  rintro e w2 ⟨rv, rfl, hRv, hb2⟩
  rw [show (regsK g.nodes 6).length = nz from Hnz.out] at hRv
  obtain ⟨RA, rc, rfl, hrc1, hrc2, hrR⟩ := own_any hRv
  unfold maxLen at hrc2
  have hX2 := HX.out.below hb2 hXl
  have hY2 := HY.out.below hb2 hYl
  have hb2' := Hal.out.trans (hb2.mono hzV)
  have hS2 := own_kept' (own_kept' HS.out (only_of_below Hal.out none) nofun) (only_of_below hb2 none) nofun
  have hC2 := own_kept' (own_kept' HC.out (only_of_below Hal.out none) nofun) (only_of_below hb2 none) nofun
  have hV2 := own_kept' (own_kept' HV.out (only_of_below Hal.out none) nofun) (only_of_below hb2 none) nofun
  clear kx0 kx1 kx2 kx3 kx4 kx5 kx6 kx7 ky0 ky1 ky2 ky3 ky4
  have kx1 := Blk.cell hX2 1
  have kx2 := Blk.cell hX2 2
  have kx4 := Blk.cell hX2 4
  simp only [List.getElem?_toArray, List.getElem?_cons_zero, List.getElem?_cons_succ] at kx1 kx2 kx4
  have ky0 := Blk.cell hY2 0
  have ky1 := Blk.cell hY2 1
  have ky2 := Blk.cell hY2 2
  have ky3 := Blk.cell hY2 3
  have ky4 := Blk.cell hY2 4
  simp only [List.getElem?_toArray, List.getElem?_cons_zero, List.getElem?_cons_succ] at ky0 ky1 ky2 ky3 ky4
  have hz2 := hb2'.size
  have hXl2 := hX2.lt
  have hYl2 := hY2.lt
  have hrneg : (rs == -1) = !br := by
    have h := Hrsv.out
    cases br
    · simp only [Bool.false_eq_true, if_false] at h; rw [h]; rfl
    · simp only [if_true] at h
      rw [Bool.not_true, beq_eq_false_iff_ne]; omega
  have Hb2 := Lib.hid hb2
  have HRv := Lib.hid hRv
  have HrR := Lib.hid hrR
  have HX2 := Lib.hid hX2
  have HY2 := Lib.hid hY2
  have Hb2' := Lib.hid hb2'
  have HS2 := Lib.hid hS2
  have HC2 := Lib.hid hC2
  have HV2 := Lib.hid hV2
  clear hV2 hC2 hS2 hb2' hY2 hX2 hrR hRv hb2
  cases br
  all_goals
    try simp only [Bool.not_true, Bool.not_false] at hrneg
    have hE := own_lit0 w2 3 1
    have hS2a := HS2.out.alloc (.cells #[] 3)
    have hSr := Reads.of_own hS2a
    have HE := Lib.hid hE
    have HS2a := Lib.hid hS2a
    have HSr := Lib.hid hSr
    clear hSr hS2a hE
    go_upto_region 4 with fail
    go_upto_region 5 with (first
      | (at_builtin
         refine wpList_append_any _ rfl (.tmp 45) (.tmp 47) _ rfl w2.heap.size 3 i0 _ 1 8 Try.underlying22 hi0 iz0 iz1 iz2 rfl (by omega) (.slice (some ⟨w2.heap.size, 0, none⟩) 0 0) 0 [] rfl HE.out _ SA ns sc ((wordsL 0 ns).map (Value.int .i64)) rfl HSr.out ?c1 ?c2 ?c3 ?c4 ?_
         case c1 => intro u hu; obtain ⟨y, _, rfl⟩ := List.mem_map.1 hu; rfl
         case c2 => unfold maxLen; omega
         case c3 => omega
         case c4 => simp
         intro v3 w3 hown3 hg3 hat3
         have hO3 := own_app (ys := (wordsL 0 ns).map (Value.int .i64)) hown3 rfl
         obtain ⟨A3, x3, rfl, _⟩ := own_any hO3
         have HO3 := Lib.hid hO3
         have Hg3 := Lib.hid hg3
         clear hO3 hown3 hg3 hat3))
    have hb3 : Below w2.heap.size w2 w3 := ((Below.refl _ _).alloc (Nat.le_refl _) _).grown Hg3.out (by simp) (fun k e => by injection e with e; simp only at e; omega)
    have hC3 := own_kept' HC2.out (only_of_below hb3 none) nofun
    have hV3 := own_kept' HV2.out (only_of_below hb3 none) nofun
    have hR3 := own_kept' HRv.out (only_of_below hb3 none) nofun
    have hX3 := HX2.out.below hb3 HX2.out.lt
    have hY3 := HY2.out.below hb3 HY2.out.lt
    have hCr := Reads.of_own hC3
    have hz3 := hb3.size
    have hXl3 := hX3.lt
    have hYl3 := hY3.lt
    clear kx1 kx2 kx4 ky0 ky1 ky2 ky3 ky4
    have kx4 := Blk.cell hX3 4
    simp only [List.getElem?_toArray, List.getElem?_cons_zero, List.getElem?_cons_succ] at kx4
    have ky0 := Blk.cell hY3 0
    have ky2 := Blk.cell hY3 2
    have ky3 := Blk.cell hY3 3
    have ky4 := Blk.cell hY3 4
    simp only [List.getElem?_toArray, List.getElem?_cons_zero, List.getElem?_cons_succ] at ky0 ky2 ky3 ky4
    have Hb3 := Lib.hid hb3
    have HC3 := Lib.hid hC3
    have HV3 := Lib.hid hV3
    have HR3 := Lib.hid hR3
    have HX3 := Lib.hid hX3
    have HY3 := Lib.hid hY3
    have HCr := Lib.hid hCr
    clear hCr hY3 hX3 hR3 hV3 hC3 hb3
    go_upto_region 6 with (first
      | (at_builtin
         refine wpList_append_any _ rfl (.tmp 49) (.tmp 51) _ rfl w2.heap.size 3 i0 _ 1 8 Try.underlying22 hi0 iz0 iz1 iz2 rfl (by omega) (.slice A3 ns x3) ns ((wordsL 0 ns).map (Value.int .i64)) rfl HO3.out _ CA nc cc ((wordsL ns nc).map (Value.int .i64)) rfl HCr.out ?c1 ?c2 ?c3 ?c4 ?_
         case c1 => intro u hu; obtain ⟨y, _, rfl⟩ := List.mem_map.1 hu; rfl
         case c2 => unfold maxLen; omega
         case c3 => omega
         case c4 => omega
         intro v4 w4 hown4 hg4 hat4
         obtain ⟨A4, x4, rfl, _⟩ := own_any hown4
         have Hown4 := Lib.hid hown4
         have Hg4 := Lib.hid hg4
         clear hown4 hg4 hat4))
    obtain ⟨N0, hN0⟩ : ∃ N0, ns + nc = N0 := ⟨_, rfl⟩
    have hO4 : w4.ownsRow w2.heap.size 3 1 (.slice A4 N0 x4) N0 ((wordsL 0 N0).map (Value.int .i64)) := by rw [← hN0, ← wordsL_app, List.map_append]; exact Hown4.out
    rw [hN0]
    have hb4 : Below w2.heap.size w2 w4 := Hb3.out.grown Hg4.out hz3 (fun b e => (World.ownsRow.lt HO3.out b e).1)
    have hV4 := own_kept' HV2.out (only_of_below hb4 none) nofun
    have hR4 := own_kept' HRv.out (only_of_below hb4 none) nofun
    have hX4 := HX2.out.below hb4 HX2.out.lt
    have hY4 := HY2.out.below hb4 HY2.out.lt
    clear kx4 ky0 ky2 ky3 ky4
    have ky3 := Blk.cell hY4 3
    simp only [List.getElem?_toArray, List.getElem?_cons_zero, List.getElem?_cons_succ] at ky3
    have hN1 : N0 ≤ 1072 := by omega
    have hR4l : ∀ t, t < nz → ∃ r : Nat, (regsK g.nodes 6)[t]? = some r := fun t ht => ⟨_, List.getElem?_eq_getElem (by have := Hnz.out; unfold nSaves at this; omega)⟩
    have HO4 := Lib.hid hO4
    have Hb4 := Lib.hid hb4
    have HV4 := Lib.hid hV4
    have HR4 := Lib.hid hR4
    have HX4 := Lib.hid hX4
    have HY4 := Lib.hid hY4
    have HN0 := Lib.hid hN0
    have HR4l := Lib.hid hR4l
    clear hR4l hN0 hY4 hX4 hR4 hV4 hb4 hO4
    go_wp2_with fail
    clear ky3
    go_loopw [6, 56] (fun av i wr => ∃ (t : Nat) (AA : Option Addr) (ac : Nat), t ≤ nz ∧ i = .int .i64 t ∧ av = .slice AA (N0 + t) ac ∧ wr.ownsRow w2.heap.size 3 1 (.slice AA (N0 + t) ac) (N0 + t) ((wordsL 0 (N0 + t)).map (Value.int .i64)) ∧ Below w2.heap.size w2 wr) (fun _ i _ => nz - (intOf i).toNat)
    case atStart => exact ⟨0, A4, x4, by omega, rfl, rfl, HO4.out, Hb4.out⟩
    case round =>
      obtain ⟨t, AA, ac, ht, rfl, rfl, hO, hbq⟩ := hrel
      have hzq := hbq.size
      have hVq := own_kept' HV2.out (only_of_below hbq none) nofun
      have hRq := own_kept' HRv.out (only_of_below hbq none) nofun
      have hXq := HX2.out.below hbq HX2.out.lt
      have hYq := HY2.out.below hbq HY2.out.lt
      have hXlq := hXq.lt
      have hYlq := hYq.lt
      by_cases htz : t < nz
      · have htzI : (t : Int) < nz := by omega
        obtain ⟨r, hr⟩ := HR4l.out t htz
        have hsg := saveL_get (regsK g.nodes 6) (ns + nc) t r hr
        rw [HN0.out] at hsg hVq
        obtain ⟨q1, q2⟩ := mcells_get _ t _ hsg
        obtain ⟨_, gv, hgv, _, ⟨gvc, hgvB⟩, _⟩ := own_row hVq (by omega)
        subst hgv
        have c0 := hVq.cells (g := gv) rfl _ _ q1
        have c1 := hVq.cells (g := gv) rfl _ _ q2
        rw [addr_zero] at c0 c1
        obtain ⟨o, ho⟩ : ∃ o : Int, ((8 * (N0 + t) : Nat) : Int) = o := ⟨_, rfl⟩
        simp only [ho] at c0 c1
        obtain ⟨_, gr, hgr, _, ⟨grc, hgrB⟩, _⟩ := own_row hRq (by omega)
        subst hgr
        have cr := hRq.cells (g := gr) rfl t (.int .i64 (r : Int)) (by rw [List.getElem?_map, List.getElem?_map, hr]; rfl)
        rw [addr_zero] at cr
        have hT := Blk.new wr 65 #[.int .i64 (r : Int), .int .i64 o]
        have hal2 := (Below.refl wr.heap.size wr).alloc (Nat.le_refl _) (.cells #[.int .i64 (r : Int), .int .i64 o] 65)
        have hOa := own_kept' hO (only_of_below hal2 none) nofun
        have hba := hbq.trans (hal2.mono hzq)
        have crl : gr < wr.heap.size := hgrB.lt
        have cr2 : (wr.alloc (.cells #[.int .i64 (r : Int), .int .i64 o] 65)).cell? ⟨gr, t, none⟩ = some (.int .i64 (r : Int)) := (hal2.cell (p := ⟨gr, t, none⟩) crl).trans cr
        obtain ⟨V2, hV2⟩ : ∃ V2, V2 = wr.alloc (.cells #[.int .i64 (r : Int), .int .i64 o] 65) := ⟨_, rfl⟩
        obtain ⟨T, hTT⟩ : ∃ T, T = wr.heap.size := ⟨_, rfl⟩
        rw [← hV2] at hT hOa hba cr2 hal2
        rw [← hTT] at hT
        have hTl := hT.lt
        have hzb := hba.size
        have kt0 := Blk.cell hT 0
        have kt1 := Blk.cell hT 1
        simp only [List.getElem?_toArray, List.getElem?_cons_zero, List.getElem?_cons_succ] at kt0 kt1
        obtain ⟨Nt, hNt⟩ : ∃ Nt, N0 + t = Nt := ⟨_, rfl⟩
        have hNt2 : Nt ≤ 1080 := by omega
        have hsnc := wordsL_snoc 0 Nt
        rw [Nat.zero_add, ← hNt, ho, hNt] at hsnc
        rw [hNt] at hOa hO ⊢
        have hOb := hOa.alloc (.cells #[.int .i64 o] 3)
        have HO := Lib.hid hO
        have Hbq := Lib.hid hbq
        have HVq := Lib.hid hVq
        have HRq := Lib.hid hRq
        have HXq := Lib.hid hXq
        have HYq := Lib.hid hYq
        have Hr := Lib.hid hr
        have Hsg := Lib.hid hsg
        have Q1 := Lib.hid q1
        have Q2 := Lib.hid q2
        have HgvB := Lib.hid hgvB
        have HgrB := Lib.hid hgrB
        have Ho := Lib.hid ho
        have HT := Lib.hid hT
        have Hal2 := Lib.hid hal2
        have HOa := Lib.hid hOa
        have Hba := Lib.hid hba
        have HV2 := Lib.hid hV2
        have HTT := Lib.hid hTT
        have HNt := Lib.hid hNt
        have Hsnc := Lib.hid hsnc
        have HOb := Lib.hid hOb
        clear hOb hsnc hNt hTT hV2 hba hOa hal2 hT ho hgrB hgvB q2 q1 hsg hr hYq hXq hRq hVq hbq hO
        clear cr crl
        go_upto_region 9 with fail
        rw [← HV2.out, ← HTT.out]
        clear c0 c1
        go_quiet (fail)
        go_upto_region 12 with (first
          | (at_builtin
             refine wpList_append_any _ rfl (.tmp 68) (.tmp 71) _ rfl w2.heap.size 3 i0 _ 1 8 Try.underlying22 hi0 iz0 iz1 iz2 rfl (by omega) (.slice AA Nt ac) Nt ((wordsL 0 Nt).map (Value.int .i64)) rfl (show _ from HOb.out) (V2.heap.size + 1) (some ⟨V2.heap.size, 0, none⟩) 1 1 [.int .i64 o] rfl (show _ from Reads.new1 V2 (.int .i64 o) 3) ?c1 ?c2 ?c3 ?c4 ?_
             case c1 => intro u hu; simp at hu; rw [hu]; rfl
             case c2 => unfold maxLen; omega
             case c3 => omega
             case c4 => simp; omega
             intro v7 w7 hown7 hg7 hat7
             obtain ⟨A7, x7, rfl, _⟩ := own_any hown7
             have Hown7 := Lib.hid hown7
             have Hg7 := Lib.hid hg7
             clear hown7 hg7 hat7))
        have hb7 : Below w2.heap.size w2 w7 := ((below_drewN Hba.out _).alloc (by simpa using hzb) _).grown Hg7.out (by simp; omega) (fun b e => (World.ownsRow.lt HO.out b e).1)
        have hO7 : w7.ownsRow w2.heap.size 3 1 (.slice A7 (Nt + 1) x7) (Nt + 1) ((wordsL 0 (Nt + 1)).map (Value.int .i64)) := by rw [Hsnc.out, List.map_append]; exact Hown7.out
        clear kt0 kt1 cr2
        have Hb7 := Lib.hid hb7
        have HO7 := Lib.hid hO7
        clear hO7 hb7
        go_wp2_with fail
        have e1 : N0 + (t + 1) = Nt + 1 := by have := HNt.out; omega
        exact ⟨⟨t + 1, A7, x7, by omega, by go_num, by rw [e1], by rw [e1]; exact HO7.out, Hb7.out⟩, by simp [intOf]; omega⟩
      · obtain rfl : t = nz := by omega
        have htzI : ¬ (t : Int) < t := by omega
        have kx4 := Blk.cell hXq 4
        simp only [List.getElem?_toArray, List.getElem?_cons_zero, List.getElem?_cons_succ] at kx4
        have ky0 := Blk.cell hYq 0
        have ky4 := Blk.cell hYq 4
        simp only [List.getElem?_toArray, List.getElem?_cons_zero, List.getElem?_cons_succ] at ky0 ky4
        obtain ⟨Nt, hNt⟩ : ∃ Nt, N0 + t = Nt := ⟨_, rfl⟩
        have hNt2 : Nt ≤ 1080 := by omega
        rw [hNt] at hO ⊢
        have HO := Lib.hid hO
        have Hbq := Lib.hid hbq
        have HVq := Lib.hid hVq
        have HRq := Lib.hid hRq
        have HXq := Lib.hid hXq
        have HYq := Lib.hid hYq
        have HNt := Lib.hid hNt
        clear hNt hYq hXq hRq hVq hbq hO
        first
        | (have hgt : g.result = true := Hbr.out
           have hrt : rs = ((8 * Nt : Nat) : Int) := by have h := Hrsv.out; simp only [if_true] at h; rw [h, ← HNt.out, ← HN0.out]
           have hnf : NF = Nt + 1 := by have h := HNF.out; simp only [if_true] at h; rw [← h, ← HNt.out, ← HN0.out]
           have hsnc := wordsL_snoc 0 Nt
           rw [Nat.zero_add, ← hrt, ← hnf] at hsnc
           have hOb := HO.out.alloc (.cells #[.int .i64 rs] 3)
           have Hgt := Lib.hid hgt
           have Hrt := Lib.hid hrt
           have Hnf := Lib.hid hnf
           have Hsnc := Lib.hid hsnc
           have HOb := Lib.hid hOb
           clear hOb hsnc hnf hrt hgt
           go_upto_region 15 with (first
             | (at_builtin
                refine wpList_append_any _ rfl (.tmp 76) (.tmp 79) _ rfl w2.heap.size 3 i0 _ 1 8 Try.underlying22 hi0 iz0 iz1 iz2 rfl (by omega) (.slice AA Nt ac) Nt ((wordsL 0 Nt).map (Value.int .i64)) rfl HOb.out (wr.heap.size + 1) (some ⟨wr.heap.size, 0, none⟩) 1 1 [.int .i64 rs] rfl (Reads.new1 _ _ _) ?c1 ?c2 ?c3 ?c4 ?_
                case c1 => intro u hu; simp at hu; rw [hu]; rfl
                case c2 => unfold maxLen; omega
                case c3 => omega
                case c4 => simp; omega
                intro v8 w8 hown8 hg8 hat8
                have hO8 : w8.ownsRow w2.heap.size 3 1 v8 NF ((wordsL 0 NF).map (Value.int .i64)) := by rw [Hsnc.out, Hnf.out, List.map_append]; exact hown8
                have hb8 : Below w2.heap.size w2 w8 := (Hbq.out.alloc hzq _).grown hg8 (by simp; omega) (fun b e => (World.ownsRow.lt HO.out b e).1)
                obtain ⟨A8, x8, rfl, _⟩ := own_any hO8
                have HO8 := Lib.hid hO8
                have Hb8 := Lib.hid hb8
                clear hO8 hb8 hown8 hg8 hat8)))
        | (have hgf : g.result = false := Hbr.out
           have hnf : NF = Nt := by have h := HNF.out; simp only [Bool.false_eq_true, if_false] at h; rw [← h, ← HNt.out, ← HN0.out]; rfl
           subst hnf
           obtain ⟨w8, hw8⟩ : ∃ w8, w8 = wr := ⟨_, rfl⟩
           subst hw8
           obtain ⟨A8, hA8⟩ : ∃ A8, A8 = AA := ⟨_, rfl⟩
           subst hA8
           obtain ⟨x8, hx8⟩ : ∃ x8, x8 = ac := ⟨_, rfl⟩
           subst hx8
           have HO8 := Lib.hid HO.out
           have Hb8 := Lib.hid Hbq.out
           have Hgf := Lib.hid hgf
           clear hgf
           go_upto_region 15 with fail)
        clear kx4 ky0 ky4
        have hY8 := HY2.out.below Hb8.out HY2.out.lt
        have kz0 := Blk.cell hY8 0
        simp only [List.getElem?_toArray, List.getElem?_cons_zero, List.getElem?_cons_succ] at kz0
        obtain ⟨_, _, e8, hx1, hx2, hr8⟩ := own_any HO8.out
        injection e8 with e8 _ e9
        subst e8 e9
        unfold maxLen at hx2
        have hm8 : (sz != 8 * (NF : Int)) = false := by
          rw [bne_eq_false_iff_eq, Hszv.out]; omega
        have hbw8 := Hb2'.out.trans (Hb8.out.mono hz2)
        have HY8 := Lib.hid hY8
        have Hr8 := Lib.hid hr8
        have Hbw8 := Lib.hid hbw8
        clear hbw8 hr8 hY8
        go_wp2_with fail
        clear hm8
        go_loopw [89] (fun i wq => ∃ t : Nat, t ≤ NF ∧ i = .int .i64 t ∧ wq = w8) (fun i _ => NF - (intOf i).toNat)
        case atStart => exact ⟨0, by omega, rfl, rfl⟩
        case round =>
          obtain ⟨t, ht, rfl, hwr⟩ := hrel
          subst hwr
          by_cases htn : t < NF
          · have htnI : (t : Int) < NF := by omega
            obtain ⟨ad, u0, hA, _, hu0, hce⟩ := Hr8.out.at_ htn
            subst hA
            rw [List.getElem?_map, wordsL_get 0 NF t htn] at hu0
            injection hu0 with hu0
            subst hu0
            have hnot := wordsL_not NF t htn
            obtain ⟨o, ho⟩ : ∃ o : Int, ((8 * (0 + t) : Nat) : Int) = o := ⟨_, rfl⟩
            simp only [ho] at hce
            rw [ho] at hnot
            have hrt : Reads wr wr.heap.size 1 (some ad) t (((wordsL 0 NF).take t).map (Value.int .i64)) := by rw [List.map_take]; exact Hr8.out.take (by omega)
            have hin := in_any wr _ (some ad) t x8 ((wordsL 0 NF).take t) hrt (by simp [wordsL]; omega) (by omega) o
            rw [decide_eq_false hnot] at hin
            have o0 : ¬ o < 0 := by omega
            have o1 : ¬ sz ≤ o := by have := Hszv.out; omega
            have o2 : o.tmod 8 = 0 := by rw [Int.tmod_eq_emod_of_nonneg (by omega)]; omega
            have htx : t ≤ x8 := by omega
            have Ho := Lib.hid ho
            have Hnot := Lib.hid hnot
            have Hrt := Lib.hid hrt
            have Hin := Lib.hid hin
            clear hin hrt hnot ho
            go_wp2_with fail
            refine Hin.out.mono ?_
            rintro e w' ⟨rfl, rfl⟩
            go_wp2_with fail
            exact ⟨⟨t + 1, by omega, by go_num, by first | rfl | trivial⟩, by simp [intOf]; omega⟩
          · obtain rfl : t = NF := by omega
            have htnI : ¬ (t : Int) < t := by omega
            go_wp2_with fail
            go_ret
            exact ⟨rfl, Hbw8.out⟩
end Go.Proofs.Ytopifdkkmchoeaa
