/- Walk of the checker's question whether all is well with a call. Conditions: checker and node lie in memory. Walk of ir.Check. Conditions: the graphs lie in memory. -/
import Derived.Test.YtncpehhfjkncoaaPlAA
import Derived.Test.YtncpehhfjkncoaaPlAJ
set_option linter.unusedVariables false
set_option linter.unusedSimpArgs false
set_option maxRecDepth 100000
set_option maxHeartbeats 16000000
namespace Go.Proofs.Ytncpehhfjkncoaa
open Go.RowKit

theorem nodecall_ir {w : World} {B cb : Nat} {allv : Value} {gs : List GraphD} {ga : Addr} {g : GraphD} {pv kv iv nv : Value} {bound : Bool} (h : Ck w B cb allv gs ga g pv kv iv nv bound)
  (hpar : ∀ f ∈ gs, ∀ p ∈ f.params, 0 <= p /\ p < f.kinds.length) (hgl : gs.length <= 16) (x : NodeD) (av : Value) (D : Nat) (hD : D <= w.heap.size) (hav : NumsAt .i64 w D av x.args) (hal : x.args.length <= 140737488351232) (hpl : ∀ f ∈ gs, f.params.length <= 4) (hkl : ∀ f ∈ gs, f.kinds.length <= 1024) (hop : x.op = 11) :
  Calls Try.prog 19 #[.pointer (some ⟨cb, 0, none⟩), .agg (ncells x av).toArray] w fun e w' => e = .returned (.bool (nodeB gs g bound x)) /\ Below w.heap.size w w' := by
 obtain ⟨r, hr⟩ := mn (nodeB gs g bound x);rw [hr];unfold nodeB at hr;obtain ⟨r2, hr2⟩ := mn (opB gs g bound x);rw [hr2] at hr;obtain ⟨G, hG⟩ := nm (w.heap.size);obtain ⟨NC, hNC⟩ := nm ((ncells x av).toArray : Array Value);rw [<- hNC];have hP := Blk.new w 52 NC;have hb := (Below.refl w.heap.size w).alloc (Nat.le_refl _) (.cells NC 52);have hC := h.below hb;have hA := hav.below (hb.mono hD);have hnx := next_any (w.alloc (.cells NC 52)) x av;rw [<- hNC] at hnx;obtain ⟨V, hV⟩ := nm (w.alloc (.cells NC 52));rw [<- hV] at hC hb hA hP hnx
 have hGV : G < V.heap.size := by rw [hV, World.size_alloc, hG]; omega
 rw [<- hG] at hP;obtain ⟨NA, nn, nc, css, rfl, _, _, hnn, hrest⟩ := hC.gm.nodes
 have hNS : NC.size = 12 := by rw [hNC]; rfl
 obtain ⟨Hrest, Hb, HA, HC, Hr, Hr2, HP, H⟩ := hd8 hrest hb hA hC hr hr2 hP h;obtain ⟨Hpar, Hpl, HNC, HV, Hkl, HG, Hnx, Hnn⟩ := hd8 hpar hpl hNC hV hkl hG hnx hnn;obtain ⟨Hav, HNS⟩ := hd2 hav hNS;clear hNS hav hnn hnx hG hkl hV hNC hpl hpar h hP hr2 hr hC hA hb hrest;go_enter Try.func19, Try.ntmps19;go_upto_region 1 with fail;rw [<- HV.out, <- HG.out]
 have hrange : V.rangeAt G 0 (ncells x av) := fun j v hv => by
  rw [HP.out.cell (0 + j), HNC.out, Nat.zero_add, List.getElem?_toArray];exact hv
 have hag : (ncells x av).toArray = NC := HNC.out.symm;have Hrange := Lib.hid hrange;clear hrange;go_wp2_with (refine wpList_load_mid rfl 52 _ rfl G 0 rfl (ncells x av) _ Hrange.out Try.underlying52 rfl (by kernel_rfl) ?_);refine Hnx.out.mono ?_;rintro e w1 ⟨⟨v, rfl, hL⟩, hb1⟩;obtain ⟨LA, lc, rfl, _, hlc, hLr⟩ := hL;obtain ⟨L, hLe⟩ := mn (nextL x);obtain ⟨m, hm⟩ := mn (L.length);rw [hLe] at hLr ⊢;rw [hm] at hLr ⊢
 have hm2 : m <= 2 := by
  rw [<- hm, <- hLe];unfold nextL
  repeat' split
  all_goals simp
 have hC1 := HC.out.below hb1;have hbb1 := Hb.out.trans (hb1.mono Hb.out.size);have hP1 := HP.out.below hb1 hGV
 have hG1 : G < w1.heap.size := by have := hb1.size; omega
 have hA1 := HA.out.below (hb1.mono (by have := Hb.out.size; omega));have hrA := Hr.out;rw [hLe] at hrA;obtain ⟨HC1, Hbb1, HP1, HLr, HLe, Hm, HrA, HA1⟩ := hd8 hC1 hbb1 hP1 hLr hLe hm hrA hA1;clear hA1 hrA hm hLe hLr hP1 hbb1 hC1;clear hb1;go_wp2_with fail
 go_loopw [10] (fun i wq => ∃ j : Nat, j <= m /\ i = .int .i64 j /\ wq = w1 /\ Hid (∀ t ∈ L.take j, (decide (0 <= t) && decide (t < g.nodes.length)) = true)) (fun i _ => m - (intOf i).toNat)
 case atStart => exact ⟨0, by omega, rfl, rfl, (show ∀ t ∈ L.take 0, (decide (0 <= t) && decide (t < g.nodes.length)) = true from fun t ht => by simp at ht)⟩
 case round =>
  obtain ⟨j, hj, rfl, hwr, hall⟩ := hrel;subst hwr
  by_cases hjm : j < m
  ·obtain ⟨ad, u0, hAd, _, hu0, hce⟩ := HLr.out.at_ hjm;subst hAd
   obtain ⟨p, hpj, rfl⟩ : ∃ p, L[j]? = some p /\ u0 = .int .i64 p := by
    rw [List.getElem?_map, Option.map_eq_some_iff] at hu0;obtain ⟨x, h1, h2⟩ := hu0;exact ⟨x, h1, h2.symm⟩
   have hmem := List.mem_of_getElem? hpj
   have hjI : (j : Int) < m := by omega
   have g6 := HC1.out.gm.c6;have kc1 := bc HC1.out.blk 1
   have hbad : (decide (0 <= p) && decide (p < g.nodes.length)) = false -> r = false := fun hf => by
    rw [<- HrA.out]
    rcases hq : L.all (fun t => decide (0 <= t) && decide (t < g.nodes.length)) with _ | _
    ·rfl
    ·rw [List.all_eq_true.1 hq p hmem] at hf; cases hf
   clear hu0
   by_cases c0 : 0 <= p
   ·by_cases c1 : p < nn
    ·have hs : ∀ t ∈ L.take (j + 1), (decide (0 <= t) && decide (t < g.nodes.length)) = true := fun t ht => by
      rw [List.take_add_one, hpj] at ht
      rcases List.mem_append.1 ht with ht | ht
      ·exact hall.out t ht
      ·simp at ht; rw [ht, Hnn.out]; simp [c0, c1]
     have c0' : ¬ p < 0 := by omega
     have c1' : ¬ (nn : Int) <= p := by omega
     obtain ⟨Hs, Hall, Hpj, Hmem, Hbad⟩ := hd5 hs hall hpj hmem hbad;clear hbad hmem hpj hall hs;clear c0 c1;go_wp2_with fail;exact ⟨⟨j + 1, by omega, by go_num, trivial, Lib.hid Hs.out⟩, by simp [intOf]; omega⟩
    ·have hs := hbad (by rw [Hnn.out]; simp [c1])
     have c0' : ¬ p < 0 := by omega
     have c1' : (nn : Int) <= p := by omega
     obtain ⟨Hs, Hall, Hpj, Hmem, Hbad⟩ := hd5 hs hall hpj hmem hbad;clear hbad hmem hpj hall hs;clear c0 c1;go_wp2_with fail;go_ret;rw [Hs.out];exact ⟨rfl, Hbb1.out⟩
   ·have hs := hbad (by simp [c0])
    have c0' : p < 0 := by omega
    obtain ⟨Hs, Hall, Hpj, Hmem, Hbad⟩ := hd5 hs hall hpj hmem hbad;clear hbad hmem hpj hall hs;clear c0;go_wp2_with fail;go_ret;rw [Hs.out];exact ⟨rfl, Hbb1.out⟩
  ·have hrr : r2 = r := by
    have h1 := HrA.out;rw [List.take_of_length_le (by rw [Hm.out]; omega)] at hall;rw [List.all_eq_true.2 hall.out, Bool.true_and] at h1;exact h1
   have HCq := HC1;have Hbnd := Hbb1;have hNC2 := HNC.out;obtain ⟨op, byo, d, e_, a, b, f, cell, imm, args, next, els⟩ := x;have hPq := HP1.out;rw [hNC2] at hPq;have hPq : Blk wr G 52 #[.int .u8 op, .int .u8 byo, .int .i64 d, .int .i64 e_, .int .i64 a, .int .i64 b, .int .i64 f, .int .i64 cell, .int .u64 imm, av, .int .i64 next, .int .i64 els] := hPq;have kp0 := bc hPq 0;have kp1 := bc hPq 1;have kp2 := bc hPq 2;have kp3 := bc hPq 3;have kp4 := bc hPq 4;have kp5 := bc hPq 5;have kp6 := bc hPq 6;have kp7 := bc hPq 7;obtain ⟨Hrr, Hall, HNC2, HPq⟩ := hd4 hrr hall hNC2 hPq;clear hPq hNC2 hall hrr
   have hjI : ¬ (j : Int) < m := by omega
   simp only at hop;subst hop;have hres : (argsB gs g bound ⟨11, byo, d, e_, a, b, f, cell, imm, args, next, els⟩ && (decide (d = -1) || (isB g bound 0 [d] && (match gs[f.toNat]? with | none => false | some f => f.result) && (!bound || decide (d = 0))))) = r2 := Hr2.out;obtain ⟨ba, hba⟩ := mn (argsB gs g bound ⟨11, byo, d, e_, a, b, f, cell, imm, args, next, els⟩);have hwd : Below wr.heap.size wr wr.drew := (Below.refl wr.heap.size wr).drew;have hCd := HCq.out.below hwd;have har := args_any hCd Hpar.out hgl ⟨11, byo, d, e_, a, b, f, cell, imm, args, next, els⟩ av D (by have := HCq.out.blk.lt; have := Hbnd.out.size; show D <= wr.heap.size; omega) (HA1.out.below (hwd.mono (by have := HCq.out.blk.lt; have := Hbnd.out.size; omega))) hal Hpl.out Hkl.out;rw [hba, <- HNC2.out] at har;rw [hba] at hres
   have hrange2 : wr.drew.rangeAt G 0 (ncells ⟨11, byo, d, e_, a, b, f, cell, imm, args, next, els⟩ av) := fun j v hv => by
    show wr.cell? _ = _;rw [HPq.out.cell (0 + j), Nat.zero_add];exact (List.getElem?_toArray ..).trans hv
   obtain ⟨GA, gc, hga, _, _⟩ := HCq.out.all.slice;have hall0 := HCq.out.blk;rw [hga] at hall0;have kc0 := bc hall0 0;have kc2 := bc hall0 2;obtain ⟨Z, hZ⟩ := mn (gs.length);rw [hZ] at kc0;have hcbl := HCq.out.blk.lt;obtain ⟨Hres, Har, Hrange2, Hga, Hall0, HCd, Hba, Hwd⟩ := hd8 hres har hrange2 hga hall0 hCd hba hwd;have HZ := Lib.hid hZ;clear hZ hwd hba hCd hall0 hga hrange2 har hres;have hnc : (ncells ⟨11, byo, d, e_, a, b, f, cell, imm, args, next, els⟩ av).length = 12 := rfl;have HLN := Lib.hid hnc;clear hnc
   cases ba
   case false =>
    have hs : false = r2 := by rw [<- Hres.out]; rfl
    have Hs := Lib.hid hs;clear hs;go_upto_region 37 with fail;clear kp0 kp1 kp2 kp3 kp4 kp5 kp6 kp7;refine wp_region_noPanic ?_;refine wp_region_held_drew (S := fun W => W.rangeAt G 0 (ncells ⟨11, byo, d, e_, a, b, f, cell, imm, args, next, els⟩ av)) (by kernel_rfl) Hrange2.out (fun hHeld => ?_);refine wpAnyH_tk 0 ?_;refine wpAnyH_take (i := 1) rfl (by kernel_rfl) (by kernel_rfl) (by kernel_rfl) (fun _ _ _ h => h) (yieldsIf_load_mid (by rfl) 52 _ rfl G 0 rfl (ncells ⟨11, byo, d, e_, a, b, f, cell, imm, args, next, els⟩ av) _ (fun w h => h) Try.underlying52 rfl (by kernel_rfl)) (by assumption) ?_;refine lay ?_;refine wpAnyH_rd 2 (fun K hK => ?_);go_simp;refine Har.out.mono ?_;rintro e w9 ⟨rfl, hb9⟩
    have hr9 : w9.rangeAt G 0 (ncells ⟨11, byo, d, e_, a, b, f, cell, imm, args, next, els⟩ av) := fun j v hv => (hb9.cell (p := ⟨G, 0 + j, none⟩) HPq.out.lt).trans (Hrange2.out j v hv)
    have hfin := Hbnd.out.trans ((Hwd.out.trans (hb9.mono Hwd.out.size)).mono Hbnd.out.size);refine hK.out _ _ hr9 (fun hHeld2 => ?_);obtain ⟨Hfin, Hb9, Hr9⟩ := hd3 hfin hb9 hr9;clear hr9 hb9 hfin;clear hK K hHeld;refine lay ?_;refine wpAnyH_tk 3 ?_;refine wpAnyH_sk 4 ?_;refine wpAnyH_sk 5 ?_;refine wpAnyH_sk 6 ?_;refine wpAnyH_sk 7 ?_;refine wpAnyH_sk 8 ?_;refine wpAnyH_sk 9 ?_;refine wpAnyH_sk 10 ?_;refine wpAnyH_sk 11 ?_;refine wpAnyH_sk 12 ?_;refine wpAnyH_sk 13 ?_;refine wpAnyH_sk 14 ?_;refine wpAnyH_sk 15 ?_;refine wpAnyH_sk 16 ?_;refine wpAnyH_sk 17 ?_;refine wpAnyH_sk 18 ?_;refine wpAnyH_sk 19 ?_;refine wpAnyH_sk 20 ?_;refine wpAnyH_sk 21 ?_;refine wpAnyH_sk 22 ?_;refine wpAnyH_sk 23 ?_;refine wpAnyH_sk 24 ?_;refine wpAnyH_sk 25 ?_;refine wpAnyH_sk 26 ?_;refine wpAnyH_sk 27 ?_;refine wpAnyH_sk 28 ?_;refine wpAnyH_sk 29 ?_;refine wpAnyH_sk 30 ?_;refine wpAnyH_sk 31 ?_;refine wpAnyH_sk 32 ?_;refine wpAnyH_sk 33 ?_;refine wpAnyH_sk 34 ?_;refine wpAnyH_sk 35 ?_;refine wpAnyH_sk 36 ?_;refine wpAnyH_tk 37 ?_;refine wpAnyH_tk 38 ?_;refine wpAnyH_done (by kernel_rfl) ?_ _;refine NoPanic.normal ?_;clear hHeld2;go_wp2_with fail;go_ret;rw [<- Hrr.out, <- Hs.out];exact ⟨rfl, Hfin.out⟩
   case true =>
    have hba := Hba.out;unfold argsB at hba;simp only [Bool.and_eq_true, decide_eq_true_eq] at hba;obtain ⟨hf0, hfm⟩ := hba;obtain ⟨F, rfl⟩ := Int.eq_ofNat_of_zero_le hf0;rw [Int.toNat_natCast] at hfm
    obtain ⟨ff, hff⟩ : ∃ ff, gs[F]? = some ff := by
     cases hq : gs[F]? with
     | none => rw [hq] at hfm; cases hfm
     | some y => exact ⟨y, rfl⟩
    clear hfm
    have hFZ : F < Z := by rw [<- HZ.out]; exact (List.getElem?_eq_some_iff.1 hff).1
    have hFZi : (F : Int) < Z := by omega
    have hallq := HCq.out.all;rw [Hga.out] at hallq;obtain ⟨fad, fpv, fkv, fiv, fnv, hGA, _, hFM⟩ := hallq.at_ hff;subst hGA;have m4 := hFM.c4;have lf : (fad.add (F * 8)).block < wr.heap.size := Nat.lt_of_lt_of_le hFM.lt (by have := HCq.out.le; omega);have hs0 := Hres.out;rw [Int.toNat_natCast, hff] at hs0;simp only [Bool.true_and] at hs0;obtain ⟨fr, hfr⟩ := mn (ff.result);rw [hfr] at hs0 m4;have lG := HPq.out.lt;have kg2 : wr.drew.cell? ⟨G, 2, none⟩ = some (.int .i64 d) := kp2;have kg6 : wr.drew.cell? ⟨G, 6, none⟩ = some (.int .i64 F) := kp6;obtain ⟨Hs0, Hff, Hallq, HFM, Hfr⟩ := hd5 hs0 hff hallq hFM hfr;clear hfr hFM hallq hff hs0;go_upto_region 37 with fail;clear kp0 kp1 kp2 kp3 kp4 kp5 kp6 kp7;refine wp_region_noPanic ?_;refine wp_region_held_drew (S := fun W => W.rangeAt G 0 (ncells ⟨11, byo, d, e_, a, b, ↑F, cell, imm, args, next, els⟩ av) /\ W.cell? ⟨G, 2, none⟩ = some (.int .i64 d) /\ W.cell? ⟨G, 6, none⟩ = some (.int .i64 F) /\ W.cell? ⟨cb, 0, none⟩ = some (.slice (some fad) Z gc) /\ W.cell? ⟨cb, 2, none⟩ = some (.bool bound) /\ W.cell? ⟨(fad.add (F * 8)).block, (fad.add (F * 8)).off + 4, none⟩ = some (.bool fr)) (by kernel_rfl) ⟨Hrange2.out, kg2, kg6, kc0, kc2, m4⟩ (fun hHeld => ?_);refine wpAnyH_tk 0 ?_;refine wpAnyH_take (i := 1) rfl (by kernel_rfl) (by kernel_rfl) (by kernel_rfl) (fun _ _ _ h => h) (yieldsIf_load_mid (by rfl) 52 _ rfl G 0 rfl (ncells ⟨11, byo, d, e_, a, b, ↑F, cell, imm, args, next, els⟩ av) _ (fun w h => h.1) Try.underlying52 rfl (by kernel_rfl)) (by assumption) ?_;refine lay ?_;refine wpAnyH_rd 2 (fun K hK => ?_);go_simp;refine Har.out.mono ?_;rintro e w9 ⟨rfl, hb9⟩
    have hr9 : w9.rangeAt G 0 (ncells ⟨11, byo, d, e_, a, b, ↑F, cell, imm, args, next, els⟩ av) := fun j v hv => (hb9.cell (p := ⟨G, 0 + j, none⟩) lG).trans (Hrange2.out j v hv)
    have q2 := (hb9.cell (p := ⟨G, 2, none⟩) lG).trans kg2;have q6 := (hb9.cell (p := ⟨G, 6, none⟩) lG).trans kg6;have qc0 := (hb9.cell (p := ⟨cb, 0, none⟩) hcbl).trans kc0;have qc2 := (hb9.cell (p := ⟨cb, 2, none⟩) hcbl).trans kc2;have qm4 := (hb9.cell (p := ⟨(fad.add (F * 8)).block, (fad.add (F * 8)).off + 4, none⟩) lf).trans m4;have hfin := Hbnd.out.trans ((Hwd.out.trans (hb9.mono Hwd.out.size)).mono Hbnd.out.size);have hC9 := HCd.out.below hb9;refine hK.out _ _ ⟨hr9, q2, q6, qc0, qc2, qm4⟩ (fun hHeld2 => ?_);obtain ⟨Hfin, Hb9, Hr9, HC9⟩ := hd4 hfin hb9 hr9 hC9;clear hC9 hr9 hb9 hfin;clear hK K hHeld kg2 kg6 kc0 kc2 m4;refine lay ?_;refine wpAnyH_tk 3 ?_
    by_cases hd : d = -1
    ·have hde : (d == -1) = true := by simp [hd]
     have hz : true = r2 := by rw [<- Hs0.out]; simp [hd]
     obtain ⟨Hd, HZ0⟩ := hd2 hd hz;clear hz hd;refine wpAnyH_tk 4 ?_;refine wpAnyH_tk 5 ?_;refine wpAnyH_tk 6 ?_;refine wpAnyH_tk 7 ?_;refine wpAnyH_sk 8 ?_;refine wpAnyH_sk 9 ?_;refine wpAnyH_sk 10 ?_;refine wpAnyH_sk 11 ?_;refine wpAnyH_sk 12 ?_;refine wpAnyH_sk 13 ?_;refine wpAnyH_sk 14 ?_;refine wpAnyH_sk 15 ?_;refine wpAnyH_sk 16 ?_;refine wpAnyH_sk 17 ?_;refine wpAnyH_sk 18 ?_;refine wpAnyH_sk 19 ?_;refine wpAnyH_sk 20 ?_;refine wpAnyH_sk 21 ?_;refine wpAnyH_sk 22 ?_;refine wpAnyH_sk 23 ?_;refine wpAnyH_sk 24 ?_;refine wpAnyH_sk 25 ?_;refine wpAnyH_sk 26 ?_;refine wpAnyH_sk 27 ?_;refine wpAnyH_sk 28 ?_;refine wpAnyH_sk 29 ?_;refine wpAnyH_sk 30 ?_;refine wpAnyH_sk 31 ?_;refine wpAnyH_sk 32 ?_;refine wpAnyH_sk 33 ?_;refine wpAnyH_sk 34 ?_;refine wpAnyH_sk 35 ?_;refine wpAnyH_tk 36 ?_;refine wpAnyH_tk 37 ?_;refine wpAnyH_tk 38 ?_;refine wpAnyH_done (by kernel_rfl) ?_ _;refine NoPanic.normal ?_;clear hHeld2 q2 q6 qc0 qc2 qm4;go_wp2_with fail;go_ret;rw [<- Hrr.out, <- HZ0.out];exact ⟨rfl, Hfin.out⟩
    ·have hde : (d == -1) = false := by simp [hd]
     have hal9 := (Below.refl w9.heap.size w9).alloc (Nat.le_refl _) (.cells #[.int .i64 d] 3);have hCal := HC9.out.below hal9;have hfin2 := Hfin.out.trans (hal9.mono Hfin.out.size);have lG9 : G < w9.heap.size := Nat.lt_of_lt_of_le lG Hb9.out.size;have lc9 : cb < w9.heap.size := Nat.lt_of_lt_of_le hcbl Hb9.out.size;have lf9 : (fad.add (F * 8)).block < w9.heap.size := Nat.lt_of_lt_of_le lf Hb9.out.size
     have hrA : (w9.alloc (.cells #[.int .i64 d] 3)).rangeAt G 0 (ncells ⟨11, byo, d, e_, a, b, ↑F, cell, imm, args, next, els⟩ av) := fun j v hv => (hal9.cell (p := ⟨G, 0 + j, none⟩) lG9).trans (Hr9.out j v hv)
     have p2 := (hal9.cell (p := ⟨G, 2, none⟩) lG9).trans q2;have p6 := (hal9.cell (p := ⟨G, 6, none⟩) lG9).trans q6;have pc0 := (hal9.cell (p := ⟨cb, 0, none⟩) lc9).trans qc0;have pc2 := (hal9.cell (p := ⟨cb, 2, none⟩) lc9).trans qc2;have pm4 := (hal9.cell (p := ⟨(fad.add (F * 8)).block, (fad.add (F * 8)).off + 4, none⟩) lf9).trans qm4;obtain ⟨bi, hbi⟩ := mn (isB g bound 0 [d]);have hz := Hs0.out;rw [hbi, show decide (d = -1) = false from decide_eq_false hd, Bool.false_or] at hz;obtain ⟨Hd, Hal9, HCal, Hfin2, HrA, Hbi, HZ0⟩ := hd7 hd hal9 hCal hfin2 hrA hbi hz;clear hz hbi hrA hfin2 hCal hal9 hd;refine wpAnyH_tk 4 ?_;refine wpAnyH_tk 5 ?_;refine wpAnyH_tk 6 ?_;refine wpAnyH_tk 7 ?_;refine wpAnyH_tk 8 ?_;refine wpAnyH_tk 9 ?_;refine wpAnyH_tk 10 ?_;refine wpAnyH_rd 11 (fun K hK => ?_);go_simp;refine hK.out _ _ ⟨HrA.out, p2, p6, pc0, pc2, pm4⟩ (fun hHeld3 => ?_);clear hK K hHeld2 q2 q6 qc0 qc2 qm4;refine lay ?_;refine wpAnyH_rd 12 (fun K hK => ?_);go_simp;refine (is_any HCal.out 0 (w9.heap.size + 1) (some ⟨w9.heap.size, 0, none⟩) 1 1 [d] (Reads.new1 _ _ _) rfl (by omega)).mono ?_;rintro e w8 ⟨rfl, rfl⟩;rw [Hbi.out];refine hK.out _ _ ⟨HrA.out, p2, p6, pc0, pc2, pm4⟩ (fun hHeld4 => ?_);clear hK K hHeld3;refine lay ?_;refine wpAnyH_tk 13 ?_
     cases bi
     ·have hz : false = r2 := HZ0.out;have HZ1 := Lib.hid hz;clear hz;refine wpAnyH_sk 14 ?_;refine wpAnyH_sk 15 ?_;refine wpAnyH_sk 16 ?_;refine wpAnyH_sk 17 ?_;refine wpAnyH_sk 18 ?_;refine wpAnyH_sk 19 ?_;refine wpAnyH_sk 20 ?_;refine wpAnyH_sk 21 ?_;refine wpAnyH_sk 22 ?_;refine wpAnyH_tk 23 ?_;refine wpAnyH_tk 24 ?_;refine wpAnyH_sk 25 ?_;refine wpAnyH_sk 26 ?_;refine wpAnyH_sk 27 ?_;refine wpAnyH_sk 28 ?_;refine wpAnyH_sk 29 ?_;refine wpAnyH_sk 30 ?_;refine wpAnyH_sk 31 ?_;refine wpAnyH_sk 32 ?_;refine wpAnyH_sk 33 ?_;refine wpAnyH_sk 34 ?_;refine wpAnyH_tk 35 ?_;refine wpAnyH_tk 36 ?_;refine wpAnyH_tk 37 ?_;refine wpAnyH_tk 38 ?_;refine wpAnyH_done (by kernel_rfl) ?_ _;refine NoPanic.normal ?_;clear hHeld4 p2 p6 pc0 pc2 pm4;go_wp2_with fail;go_ret;rw [<- Hrr.out, <- HZ1.out];exact ⟨rfl, Hfin2.out⟩
     ·skip
      refine wpAnyH_tk 14 ?_;refine wpAnyH_tk 15 ?_;refine wpAnyH_tk 16 ?_;refine wpAnyH_tk 17 ?_;refine wpAnyH_tk 18 ?_;refine wpAnyH_tk 19 ?_;refine wpAnyH_tk 20 ?_;refine wpAnyH_tk 21 ?_;refine wpAnyH_tk 22 ?_;refine wpAnyH_tk 23 ?_;refine wpAnyH_tk 24 ?_
      cases fr
      ·have hz : false = r2 := HZ0.out;have HZ1 := Lib.hid hz;clear hz;refine wpAnyH_sk 25 ?_;refine wpAnyH_sk 26 ?_;refine wpAnyH_sk 27 ?_;refine wpAnyH_sk 28 ?_;refine wpAnyH_sk 29 ?_;refine wpAnyH_sk 30 ?_;refine wpAnyH_sk 31 ?_;refine wpAnyH_sk 32 ?_;refine wpAnyH_sk 33 ?_;refine wpAnyH_sk 34 ?_;refine wpAnyH_tk 35 ?_;refine wpAnyH_tk 36 ?_;refine wpAnyH_tk 37 ?_;refine wpAnyH_tk 38 ?_;refine wpAnyH_done (by kernel_rfl) ?_ _;refine NoPanic.normal ?_;clear hHeld4 p2 p6 pc0 pc2 pm4;go_wp2_with fail;go_ret;rw [<- Hrr.out, <- HZ1.out];exact ⟨rfl, Hfin2.out⟩
      ·cases bound
       ·have hz : true = r2 := HZ0.out;have HZ1 := Lib.hid hz;clear hz;refine wpAnyH_tk 25 ?_;refine wpAnyH_tk 26 ?_;refine wpAnyH_tk 27 ?_;refine wpAnyH_tk 28 ?_;refine wpAnyH_tk 29 ?_;refine wpAnyH_tk 30 ?_;refine wpAnyH_sk 31 ?_;refine wpAnyH_sk 32 ?_;refine wpAnyH_sk 33 ?_;refine wpAnyH_tk 34 ?_;refine wpAnyH_tk 35 ?_;refine wpAnyH_tk 36 ?_;refine wpAnyH_tk 37 ?_;refine wpAnyH_tk 38 ?_;refine wpAnyH_done (by kernel_rfl) ?_ _;refine NoPanic.normal ?_;clear hHeld4 p2 p6 pc0 pc2 pm4;go_wp2_with fail;go_ret;rw [<- Hrr.out, <- HZ1.out];exact ⟨rfl, Hfin2.out⟩
       ·have hz : decide (d = 0) = r2 := HZ0.out;refine wpAnyH_tk 25 ?_;refine wpAnyH_tk 26 ?_;refine wpAnyH_tk 27 ?_;refine wpAnyH_tk 28 ?_;refine wpAnyH_tk 29 ?_;refine wpAnyH_tk 30 ?_
        by_cases hd0 : d = 0
        ·have hd1 : (d == 0) = true := by simp [hd0]
         have hz1 : true = r2 := by rw [<- hz]; simp [hd0]
         obtain ⟨HZ1, Hz, Hd0⟩ := hd3 hz1 hz hd0;clear hd0 hz hz1;refine wpAnyH_tk 31 ?_;refine wpAnyH_tk 32 ?_;refine wpAnyH_tk 33 ?_;refine wpAnyH_tk 34 ?_;refine wpAnyH_tk 35 ?_;refine wpAnyH_tk 36 ?_;refine wpAnyH_tk 37 ?_;refine wpAnyH_tk 38 ?_;refine wpAnyH_done (by kernel_rfl) ?_ _;refine NoPanic.normal ?_;clear hHeld4 p2 p6 pc0 pc2 pm4;go_wp2_with fail;go_ret;rw [<- Hrr.out, <- HZ1.out];exact ⟨rfl, Hfin2.out⟩
        ·have hd1 : (d == 0) = false := by simp [hd0]
         have hz1 : false = r2 := by rw [<- hz]; simp [hd0]
         obtain ⟨HZ1, Hz, Hd0⟩ := hd3 hz1 hz hd0;clear hd0 hz hz1;refine wpAnyH_tk 31 ?_;refine wpAnyH_tk 32 ?_;refine wpAnyH_tk 33 ?_;refine wpAnyH_tk 34 ?_;refine wpAnyH_tk 35 ?_;refine wpAnyH_tk 36 ?_;refine wpAnyH_tk 37 ?_;refine wpAnyH_tk 38 ?_;refine wpAnyH_done (by kernel_rfl) ?_ _;refine NoPanic.normal ?_;clear hHeld4 p2 p6 pc0 pc2 pm4;go_wp2_with fail;go_ret;rw [<- Hrr.out, <- HZ1.out];exact ⟨rfl, Hfin2.out⟩
theorem node_all {w : World} {B cb : Nat} {allv : Value} {gs : List GraphD} {ga : Addr} {g : GraphD} {pv kv iv nv : Value} {bound : Bool} (h : Ck w B cb allv gs ga g pv kv iv nv bound)
  (hpar : ∀ f ∈ gs, ∀ p ∈ f.params, 0 <= p /\ p < f.kinds.length) (hgl : gs.length <= 16) (x : NodeD) (av : Value) (D : Nat) (hD : D <= w.heap.size) (hav : NumsAt .i64 w D av x.args) (hal : x.args.length <= 140737488351232) (hpl : ∀ f ∈ gs, f.params.length <= 4) (hkl : ∀ f ∈ gs, f.kinds.length <= 1024) :
  Calls Try.prog 19 #[.pointer (some ⟨cb, 0, none⟩), .agg (ncells x av).toArray] w fun e w' => e = .returned (.bool (nodeB gs g bound x)) /\ Below w.heap.size w w' := by
 by_cases hop : x.op = 11
 ·exact nodecall_ir h hpar hgl x av D hD hav hal hpl hkl hop
 ·exact node_any h hpar hgl x av D hD hav hal hpl hkl hop
end Go.Proofs.Ytncpehhfjkncoaa
namespace Go.Proofs.Ytncpehhfjkncoaa
open Go.RowKit

def checkB (gs : List GraphD) (bound : Bool) : Bool := (match gs[0]? with | none => false | some g => decide (gs.length <= 16) && decide (g.params.length = 0) && !g.result) && gs.all (fun g => headB g bound) && gs.all fun g => g.nodes.all (nodeB gs g bound)
/-- graphs as they may come in -/
structure GraphsOk (gs : List GraphD) : Prop where
 kinds : ∀ g ∈ gs, g.kinds.length <= 140737488351232
 args : ∀ g ∈ gs, ∀ x ∈ g.nodes, x.args.length <= 140737488351232
theorem head_par {g : GraphD} {bound : Bool} (h : headB g bound = true) : (∀ p ∈ g.params, 0 <= p /\ p < g.kinds.length) /\ g.params.length <= 4 /\ g.kinds.length <= 1024 /\ g.nodes.length <= 4096 := by
 unfold headB at h;simp only [Bool.and_eq_true, Bool.not_eq_true'] at h;obtain ⟨⟨⟨h1, h2⟩, h3⟩, h4⟩ := h;refine ⟨fun p hp => ?_, ?_, ?_, ?_⟩
 ·obtain ⟨i, hi, rfl⟩ := List.getElem_of_mem hp;have h5 := List.all_eq_true.1 h3 i (List.mem_range.2 hi);unfold parB at h5
  have hg : g.params.getD i 0 = g.params[i] := by rw [List.getD_eq_getElem?_getD, List.getElem?_eq_getElem hi]; rfl
  rw [hg] at h5;simp only [Bool.and_eq_true, Bool.not_eq_true', Bool.or_eq_false_iff, decide_eq_false_iff_not] at h5;obtain ⟨⟨⟨⟨h6, h7⟩, _⟩, _⟩, _⟩ := h5
  omega
 ·unfold head2 at h2;simp only [Bool.or_eq_false_iff, decide_eq_false_iff_not] at h2
  omega
 ·unfold head1 at h1;simp only [Bool.or_eq_false_iff, decide_eq_false_iff_not] at h1
  omega
 ·unfold head3 at h4;simp only [Bool.and_eq_true, decide_eq_true_eq] at h4
  omega
theorem check_any {w : World} {B : Nat} {allv : Value} {gs : List GraphD} (h : GraphsAt w B allv gs) (hB : B <= w.heap.size) (hok : GraphsOk gs) (bound : Bool) :
  Calls Try.prog 12 #[.agg #[allv], .bool bound] w fun e w' => e = .returned (.int .i64 (if checkB gs bound then 0 else 70)) /\ Below w.heap.size w w' := by
 obtain ⟨r, hr⟩ := mn (checkB gs bound);rw [hr];obtain ⟨rv, hrv⟩ := mn ((if r = true then (0 : Int) else 70) : Int);rw [hrv];unfold checkB at hr;obtain ⟨G, hG⟩ := nm (w.heap.size);have hP := Blk.new w 24 #[allv];have hb := (Below.refl w.heap.size w).alloc (Nat.le_refl _) (.cells #[allv] 24);have hA := h.below ((Below.refl B w).alloc hB (.cells #[allv] 24));obtain ⟨V, hV⟩ := nm (w.alloc (.cells #[allv] 24));rw [<- hV] at hb hA hP;rw [<- hG] at hP
 have hGV : G < V.heap.size := by rw [hV, World.size_alloc, hG]; omega
 have hBV : B <= V.heap.size := by rw [hV, World.size_alloc]; omega
 obtain ⟨GA, gc, rfl, _, _⟩ := hA.slice;obtain ⟨Z, hZ⟩ := mn (gs.length);rw [hZ] at hr hP hV ⊢;rw [hZ] at hA;have kp0 := bc hP 0
 by_cases hZ0 : Z = 0
 ·have hs : r = false := by rw [<- hr, List.getElem?_eq_none (by omega)]; rfl
  have hz : ((Z : Int) == 0) = true := by simp [hZ0]
  obtain ⟨HA, Hb, HP, Hr, HZ, Hs, H, Hok⟩ := hd8 hA hb hP hr hZ hs h hok;obtain ⟨HG, HV, Hrv, HZ0⟩ := hd4 hG hV hrv hZ0;clear hZ0 hrv hV hG hok h hs hZ hr hP hb hA;go_enter Try.func12, Try.ntmps12;go_upto_region 1 with fail;rw [<- HV.out, <- HG.out];go_wp2_with fail;go_ret;rw [<- Hrv.out, Hs.out];exact ⟨rfl, Hb.out⟩
 have hz : ((Z : Int) == 0) = false := by simp [hZ0]
 obtain ⟨g0, hg0⟩ : ∃ g0, gs[0]? = some g0 := ⟨_, List.getElem?_eq_getElem (by omega)⟩
 rw [hg0] at hr;simp only at hr
 by_cases hZ16 : Z <= 16
 case neg =>
  have hs : r = false := by rw [<- hr]; simp [hZ16]
  have hz2 : (16 : Int) < Z := by omega
  obtain ⟨HA, Hb, HP, Hr, HZ, Hs, H, Hok⟩ := hd8 hA hb hP hr hZ hs h hok;obtain ⟨HG, HV, Hrv, HZ0⟩ := hd4 hG hV hrv hZ0;clear hZ0 hrv hV hG hok h hs hZ hr hP hb hA;clear hZ16;go_enter Try.func12, Try.ntmps12;go_upto_region 1 with fail;rw [<- HV.out, <- HG.out];go_wp2_with fail;go_ret;rw [<- Hrv.out, Hs.out];exact ⟨rfl, Hb.out⟩
 have hz2 : ¬ (16 : Int) < Z := by omega
 have hz3 : (0 : Int) < Z := by omega
 have hz4 : 0 < Z := by omega
 obtain ⟨ad, pv0, kv0, iv0, nv0, hGA, _, hM0⟩ := hA.at_ hg0;subst hGA;obtain ⟨PA0, pc0, hpv0, _, _, _⟩ := hM0.params.slice;subst hpv0;have m0 := hM0.c0;have m4 := hM0.c4
 have ead : ad.add (0 * 8) = ad := by rw [Nat.zero_mul]; first | rfl | simp [Addr.add]
 rw [ead] at m0 m4;obtain ⟨P0, hP0⟩ := mn (g0.params.length);obtain ⟨b0, hb0⟩ := mn (g0.result);rw [hP0] at m0 hr;rw [hb0] at m4 hr;have hZd : decide (Z <= 16) = true := decide_eq_true hZ16;rw [hZd, Bool.true_and] at hr
 by_cases hp0 : P0 = 0
 case neg =>
  have hs : r = false := by rw [<- hr]; simp [hp0]
  have hz5 : (0 : Int) < P0 := by omega
  have hz6 : 0 < P0 := by omega
  obtain ⟨HA, Hb, HP, Hr, HZ, Hs, H, Hok⟩ := hd8 hA hb hP hr hZ hs h hok;obtain ⟨HG, HV, Hrv, HZ0, HM0, Hg0, HZd, HP0⟩ := hd8 hG hV hrv hZ0 hM0 hg0 hZd hP0;have Hb0 := Lib.hid hb0;clear hb0 hP0 hZd hg0 hM0 hZ0 hrv hV hG hok h hs hZ hr hP hb hA;clear hZ16 hp0;go_enter Try.func12, Try.ntmps12;go_upto_region 1 with fail;rw [<- HV.out, <- HG.out];go_wp2_with fail;go_ret;rw [<- Hrv.out, Hs.out];exact ⟨rfl, Hb.out⟩
 have hz5 : ¬ (0 : Int) < P0 := by omega
 have hz6 : ¬ 0 < P0 := by omega
 have hPd : decide (P0 = 0) = true := decide_eq_true hp0;rw [hPd, Bool.true_and] at hr
 cases b0
 case true =>
  have hs : r = false := by rw [<- hr]; rfl
  obtain ⟨HA, Hb, HP, Hr, HZ, Hs, H, Hok⟩ := hd8 hA hb hP hr hZ hs h hok;obtain ⟨HG, HV, Hrv, HZ0, HM0, Hg0, HZd, HP0⟩ := hd8 hG hV hrv hZ0 hM0 hg0 hZd hP0;obtain ⟨Hb0, HPd⟩ := hd2 hb0 hPd;clear hPd hb0 hP0 hZd hg0 hM0 hZ0 hrv hV hG hok h hs hZ hr hP hb hA;clear hZ16 hp0;go_enter Try.func12, Try.ntmps12;go_upto_region 1 with fail;rw [<- HV.out, <- HG.out];go_wp2_with fail;go_ret;rw [<- Hrv.out, Hs.out];exact ⟨rfl, Hb.out⟩
 case false =>
  rw [Bool.not_false, Bool.true_and] at hr;obtain ⟨HA, Hb, HP, Hr, HZ, H, Hok, HG⟩ := hd8 hA hb hP hr hZ h hok hG;obtain ⟨HV, Hrv, HZ0, HM0, Hg0, HZd, HP0, Hb0⟩ := hd8 hV hrv hZ0 hM0 hg0 hZd hP0 hb0;have HPd := Lib.hid hPd;clear hPd hb0 hP0 hZd hg0 hM0 hZ0 hrv hV hG hok h hZ hr hP hb hA;clear hp0;go_enter Try.func12, Try.ntmps12;go_upto_region 1 with fail;rw [<- HV.out, <- HG.out];go_wp2_with fail;clear kp0 m0 m4
  go_loopw [39] (fun i wq => ∃ j : Nat, j <= Z /\ i = .int .i64 j /\ Below V.heap.size V wq /\ Hid (∀ g ∈ gs.take j, headB g bound = true)) (fun i _ => Z - (intOf i).toNat)
  case atStart => exact ⟨0, by omega, rfl, Below.refl _ _, (show ∀ g ∈ gs.take 0, headB g bound = true by simp)⟩
  case round =>
   obtain ⟨j, hj, rfl, hbq, hall⟩ := hrel;have hsq := hbq.size;have hAq := HA.out.below (hbq.mono hBV);have hPq := HP.out.below hbq hGV;have hbnd := Hb.out.trans (hbq.mono Hb.out.size);have kp0 := bc hPq 0
   by_cases hjZ : j < Z
   ·obtain ⟨g, hgj⟩ : ∃ g, gs[j]? = some g := ⟨_, List.getElem?_eq_getElem (by rw [HZ.out]; exact hjZ)⟩
    obtain ⟨ad', pv, kv, iv, nv, hadd, _, hM⟩ := hAq.at_ hgj;injection hadd with hadd;subst hadd;have hgm := List.mem_of_getElem? hgj
    have hjI : (j : Int) < Z := by omega
    have hbx := Blk.new wr.drew 67 #[.slice (some ad) Z gc, .pointer (some (ad.add (j * 8))), .bool bound];have hal := (Below.refl wr.heap.size wr).drew.alloc (Nat.le_refl _) (.cells #[.slice (some ad) Z gc, .pointer (some (ad.add (j * 8))), .bool bound] 67)
    have hCk : Ck (wr.drew.alloc (.cells #[.slice (some ad) Z gc, .pointer (some (ad.add (j * 8))), .bool bound] 67)) B wr.heap.size (.slice (some ad) Z gc) gs (ad.add (j * 8)) g pv kv iv nv bound :=
     ⟨hbx, by omega, hAq.below (hal.mono (by omega)), hM.below (hal.mono (by omega))⟩
    have kp0' := (hal.cell (p := ⟨G, 0, none⟩) (by show G < _; omega)).trans kp0;obtain ⟨bh, hbh⟩ := mn (headB g bound);have hhd := head_any hCk (Hok.out.kinds g hgm);rw [hbh] at hhd
    have hstep : bh = true -> ∀ g' ∈ gs.take (j + 1), headB g' bound = true := fun e g' hg' => by
     rw [List.take_add_one, hgj] at hg'
     rcases List.mem_append.1 hg' with h1 | h1
     ·exact hall.out g' h1
     ·simp at h1; rw [h1, hbh, e]
    have hbad : bh = false -> r = false := fun e => by
     rw [<- Hr.out]
     rcases hq : gs.all (fun g => headB g bound) with _ | _
     ·rfl
     ·rw [List.all_eq_true.1 hq g hgm] at hbh; rw [e] at hbh; cases hbh
    obtain ⟨Hbq, Hall, HAq, HPq, Hbnd, Hgj, HM, Hgm⟩ := hd8 hbq hall hAq hPq hbnd hgj hM hgm;obtain ⟨Hbx, Hal, HCk, Hbh, Hhd, Hstep, Hbad⟩ := hd7 hbx hal hCk hbh hhd hstep hbad;clear hbad hstep hhd hbh hCk hal hbx hgm hM hgj hbnd hPq hAq hall hbq;go_upto_region 6 with fail;refine wp_region_noPanic ?_;refine wp_region_held_drew (S := fun W => W.cell? ⟨G, 0, none⟩ = some (.slice (some ad) Z gc)) (by kernel_rfl) kp0 (fun hHeld => ?_);refine wpAnyH_tk 0 ?_;refine wpAnyH_tk 1 ?_;refine wpAnyH_tk 2 ?_;refine wpAnyH_tk 3 ?_;refine wpAnyH_tk 4 ?_;refine wpAnyH_tk 5 ?_;refine wpAnyH_tk 6 ?_;refine wpAnyH_tk 7 ?_;refine wpAnyH_rd 8 (fun K hK => ?_);go_simp;refine hK.out _ _ kp0' (fun hHeld2 => ?_);clear hK K hHeld;refine lay ?_;refine wpAnyH_rd 9 (fun K hK => ?_);go_simp;refine Hhd.out.mono ?_;rintro e w8 ⟨rfl, hb8⟩;have kp8 := (hb8.cell (p := ⟨G, 0, none⟩) (by rw [World.size_alloc]; show G < _; have : wr.drew.heap.size = wr.heap.size := rfl; omega)).trans kp0';have hal8 : Below wr.heap.size wr w8 := Hal.out.trans (hb8.mono Hal.out.size);refine hK.out _ _ kp8 (fun hHeld3 => ?_);clear hK K hHeld2;refine lay ?_;refine wpAnyH_tk 10 ?_;refine wpAnyH_done (by kernel_rfl) ?_ _;refine NoPanic.normal ?_;have hbe := Hbq.out.trans (hal8.mono Hbq.out.size);have hbe2 := Hbnd.out.trans (hal8.mono Hbnd.out.size);clear hHeld3 kp8 kp0' kp0 hb8 hal8
    cases bh
    ·have hs := Hbad.out rfl;obtain ⟨Hs, Hbe, Hbe2⟩ := hd3 hs hbe hbe2;clear hbe2 hbe hs;go_wp2_with fail;go_ret;rw [<- Hrv.out, Hs.out];exact ⟨rfl, Hbe2.out⟩
    ·have hs := Hstep.out rfl;obtain ⟨Hs, Hbe, Hbe2⟩ := hd3 hs hbe hbe2;clear hbe2 hbe hs;go_wp2_with fail;exact ⟨⟨j + 1, by omega, by go_num, Hbe.out, Lib.hid Hs.out⟩, by simp [intOf]; omega⟩
   ·have hheads : ∀ g ∈ gs, headB g bound = true := by
     rw [List.take_of_length_le (by rw [HZ.out]; omega)] at hall;exact hall.out
    have hr2 : (gs.all fun g => g.nodes.all (nodeB gs g bound)) = r := by
     have h1 := Hr.out;rw [List.all_eq_true.2 hheads, Bool.true_and] at h1;exact h1
    have hjI : ¬ (j : Int) < Z := by omega
    have hpar : ∀ f ∈ gs, ∀ p ∈ f.params, 0 <= p /\ p < f.kinds.length := fun f hf => (head_par (hheads f hf)).1
    have hpl : ∀ f ∈ gs, f.params.length <= 4 := fun f hf => (head_par (hheads f hf)).2.1
    have hkl : ∀ f ∈ gs, f.kinds.length <= 1024 := fun f hf => (head_par (hheads f hf)).2.2.1
    have hnl : ∀ f ∈ gs, f.nodes.length <= 4096 := fun f hf => (head_par (hheads f hf)).2.2.2
    obtain ⟨Hheads, Hr2, Hpar, Hpl, Hkl, Hnl, Hbq, Hall⟩ := hd8 hheads hr2 hpar hpl hkl hnl hbq hall;obtain ⟨HAq, HPq, Hbnd⟩ := hd3 hAq hPq hbnd;clear hbnd hPq hAq hall hbq hnl hkl hpl hpar hr2 hheads;go_wp2_with fail;clear kp0
    go_loopw [57] (fun i wq => ∃ j : Nat, j <= Z /\ i = .int .i64 j /\ Below V.heap.size V wq /\ Hid (∀ g ∈ gs.take j, g.nodes.all (nodeB gs g bound) = true)) (fun i _ => Z - (intOf i).toNat)
    case atStart => exact ⟨0, by omega, rfl, Hbq.out, (show ∀ g ∈ gs.take 0, g.nodes.all (nodeB gs g bound) = true by simp)⟩
    case round =>
     obtain ⟨j2, hj2, rfl, hbq2, hall2⟩ := hrel;have hsq2 := hbq2.size;have hAq2 := HA.out.below (hbq2.mono hBV);have hPq2 := HP.out.below hbq2 hGV;have hbnd2 := Hb.out.trans (hbq2.mono Hb.out.size);have kp0 := bc hPq2 0
     by_cases hjZ2 : j2 < Z
     ·obtain ⟨g, hgj⟩ : ∃ g, gs[j2]? = some g := ⟨_, List.getElem?_eq_getElem (by rw [HZ.out]; exact hjZ2)⟩
      obtain ⟨ad', pv, kv, iv, nv, hadd, _, hM⟩ := hAq2.at_ hgj;injection hadd with hadd;subst hadd;have hgm := List.mem_of_getElem? hgj
      have hjI2 : (j2 : Int) < Z := by omega
      have hbx := Blk.new wr.drew 67 #[.slice (some ad) Z gc, .pointer (some (ad.add (j2 * 8))), .bool bound];have hal := (Below.refl wr.heap.size wr).drew.alloc (Nat.le_refl _) (.cells #[.slice (some ad) Z gc, .pointer (some (ad.add (j2 * 8))), .bool bound] 67)
      have hCk : Ck (wr.drew.alloc (.cells #[.slice (some ad) Z gc, .pointer (some (ad.add (j2 * 8))), .bool bound] 67)) B wr.heap.size (.slice (some ad) Z gc) gs (ad.add (j2 * 8)) g pv kv iv nv bound :=
       ⟨hbx, by omega, hAq2.below (hal.mono (by omega)), hM.below (hal.mono (by omega))⟩
      have kp0' := (hal.cell (p := ⟨G, 0, none⟩) (by show G < _; omega)).trans kp0;obtain ⟨W2, hW2⟩ := nm (wr.drew.alloc (.cells #[.slice (some ad) Z gc, .pointer (some (ad.add (j2 * 8))), .bool bound] 67));have hbq3 := hbq2.trans (hal.mono hsq2);have hbnd3 := hbnd2.trans (hal.mono hbnd2.size);rw [<- hW2] at hCk hal hbq3 hbnd3;obtain ⟨bh, hbh⟩ := mn (g.nodes.all (nodeB gs g bound))
      have hstep : bh = true -> ∀ g' ∈ gs.take (j2 + 1), g'.nodes.all (nodeB gs g' bound) = true := fun e g' hg' => by
       rw [List.take_add_one, hgj] at hg'
       rcases List.mem_append.1 hg' with h1 | h1
       ·exact hall2.out g' h1
       ·simp at h1; rw [h1, hbh, e]
      have hbad : bh = false -> r = false := fun e => by
       rw [<- Hr2.out]
       rcases hq : (gs.all fun g => g.nodes.all (nodeB gs g bound)) with _ | _
       ·rfl
       ·rw [List.all_eq_true.1 hq g hgm] at hbh; rw [e] at hbh; cases hbh
      obtain ⟨NA, nn, nc, css, hnv, _, _, hnn, _⟩ := id hCk.gm.nodes;subst hnv;obtain ⟨cb, hcb⟩ := nm (wr.heap.size);have hn4 := Hnl.out g hgm;rw [hnn] at hn4;obtain ⟨Hbq2, Hall2, HAq2, HPq2, Hbnd2, Hgj, HM, Hgm⟩ := hd8 hbq2 hall2 hAq2 hPq2 hbnd2 hgj hM hgm;obtain ⟨Hbx, Hal, HCk, Hbh, Hstep, Hbad, HW2, Hbq3⟩ := hd8 hbx hal hCk hbh hstep hbad hW2 hbq3;obtain ⟨Hbnd3, Hnn⟩ := hd2 hbnd3 hnn;clear hnn hbnd3 hbq3 hW2 hbad hstep hbh hCk hal hbx hgm hM hgj hbnd2 hPq2 hAq2 hall2 hbq2;go_upto_region 12 with fail;refine wp_region_noPanic ?_;refine wp_region_held_drew (S := fun W => W.cell? ⟨G, 0, none⟩ = some (.slice (some ad) Z gc)) (by kernel_rfl) kp0 (fun hHeld => ?_);refine wpAnyH_tk 0 ?_;refine wpAnyH_tk 1 ?_;refine wpAnyH_tk 2 ?_;refine wpAnyH_tk 3 ?_;refine wpAnyH_tk 4 ?_;refine wpAnyH_tk 5 ?_;refine wpAnyH_tk 6 ?_;refine wpAnyH_tk 7 ?_;refine wpAnyH_rd 8 (fun K hK => ?_);go_simp;refine hK.out _ _ kp0' (fun hHeld2 => ?_);clear hK K hHeld;refine lay ?_;refine wpAnyH_tk 9 ?_;refine wpAnyH_done (by kernel_rfl) ?_ _;refine NoPanic.normal ?_;clear hHeld2 kp0' kp0;have eW : (wr.alloc (.cells #[.slice (some ad) Z gc, .pointer (some (ad.add (j2 * 8))), .bool bound] 67)).drew = W2 := HW2.out.symm;rw [eW];have hCk := HCk.out;have ecb : wr.heap.size = cb := hcb.symm;rw [ecb];rw [<- hcb] at hCk;have kc1 := bc hCk.blk 1;have g6 := hCk.gm.c6;obtain ⟨HCK, HECB, Hcb, HEW⟩ := hd4 hCk ecb hcb eW;clear eW hcb ecb hCk;go_wp2_with fail;clear kc1 g6
      go_loopw [77] (fun i wq => ∃ k : Nat, k <= nn /\ i = .int .i64 k /\ Below W2.heap.size W2 wq /\ Hid (∀ x ∈ g.nodes.take k, nodeB gs g bound x = true)) (fun i _ => nn - (intOf i).toNat)
      case atStart => exact ⟨0, by omega, rfl, Below.refl _ _, (show ∀ x ∈ g.nodes.take 0, nodeB gs g bound x = true by simp)⟩
      case round =>
       obtain ⟨k, hk, rfl, hbq4, hall4⟩ := hrel;have hsq4 := hbq4.size;have hC4 := HCK.out.below hbq4;have hbnd4 := Hbnd3.out.trans (hbq4.mono Hbnd3.out.size);have hbq5 := Hbq3.out.trans (hbq4.mono Hbq3.out.size)
       by_cases hkn : k < nn
       ·obtain ⟨x, hxk⟩ : ∃ x, g.nodes[k]? = some x := ⟨_, List.getElem?_eq_getElem (by rw [Hnn.out]; exact hkn)⟩
        have hxm := List.mem_of_getElem? hxk;obtain ⟨nad, cs, hna, _, _, _, ⟨av, hcs, hav⟩, z0, nj⟩ := RowsAt.at_ hC4.gm.nodes hxk;subst hna hcs;obtain ⟨AA, aac, hava, _, _, _⟩ := hav.slice;subst hava;have n0 : wr.cell? (nad.add (k * 12)) = some (.int .u8 x.op) := z0 _ rfl;have n1 := nj 1 _ (by omega) rfl;have n2 := nj 2 _ (by omega) rfl;have n3 := nj 3 _ (by omega) rfl;have n4 := nj 4 _ (by omega) rfl;have n5 := nj 5 _ (by omega) rfl;have n6 := nj 6 _ (by omega) rfl;have n7 := nj 7 _ (by omega) rfl;have n8 := nj 8 _ (by omega) rfl;have n9 := nj 9 _ (by omega) rfl;have n10 := nj 10 _ (by omega) rfl;have n11 := nj 11 _ (by omega) rfl;clear nj z0
        have hkI : (k : Int) < nn := by omega
        obtain ⟨bn, hbn⟩ := mn (nodeB gs g bound x)
        have hstep4 : bn = true -> ∀ y ∈ g.nodes.take (k + 1), nodeB gs g bound y = true := fun e y hy => by
         rw [List.take_add_one, hxk] at hy
         rcases List.mem_append.1 hy with h1 | h1
         ·exact hall4.out y h1
         ·simp at h1; rw [h1, hbn, e]
        have hbad4 : bn = false -> r = false := fun e => Hbad.out (by
         rw [<- Hbh.out]
         rcases hq : g.nodes.all (nodeB gs g bound) with _ | _
         ·rfl
         ·rw [List.all_eq_true.1 hq x hxm] at hbn; rw [e] at hbn; cases hbn)
        have hal4 := (Below.refl wr.heap.size wr).alloc (Nat.le_refl _) (.cells (ncells x (.slice AA x.args.length aac)).toArray 52);have hPn := Blk.new wr 52 (ncells x (.slice AA x.args.length aac)).toArray;have hC5 := hC4.below hal4;have hav5 := hav.below (hal4.mono (by have := hC4.le; have := hC4.blk.lt; omega));obtain ⟨G3, hG3⟩ := nm (wr.heap.size);have hbq6 := hbq4.trans (hal4.mono hsq4);have hbnd6 := hbnd4.trans (hal4.mono hbnd4.size);have hnd := node_all hC5 Hpar.out (by rw [HZ.out]; omega) x (.slice AA x.args.length aac) B (by have := hC5.le; have := hC5.blk.lt; omega) hav5 (Hok.out.args g Hgm.out x hxm) Hpl.out Hkl.out;rw [hbn] at hnd;obtain ⟨W3, hW3⟩ := nm (wr.alloc (.cells (ncells x (.slice AA x.args.length aac)).toArray 52));rw [<- hW3] at hPn hC5 hav5 hbq6 hbnd6 hnd;rw [<- hG3] at hPn
        have hrange : W3.rangeAt G3 0 (ncells x (.slice AA x.args.length aac)) := fun j v hv => by
         rw [hPn.cell (0 + j), Nat.zero_add, List.getElem?_toArray];exact hv
        have hW3' : wr.alloc (.cells #[.int .u8 x.op, .int .u8 x.byo, .int .i64 x.d, .int .i64 x.e, .int .i64 x.a, .int .i64 x.b, .int .i64 x.f, .int .i64 x.cell, .int .u64 x.imm, .slice AA x.args.length aac, .int .i64 x.next, .int .i64 x.els] 52) = W3 := hW3.symm;obtain ⟨Hbq4, Hall4, HC4, Hbnd4, Hbq5, Hxk, Hxm, Hav⟩ := hd8 hbq4 hall4 hC4 hbnd4 hbq5 hxk hxm hav;obtain ⟨Hbn, Hstep4, Hbad4, Hal4, HPn, HC5, Hav5, Hbq6⟩ := hd8 hbn hstep4 hbad4 hal4 hPn hC5 hav5 hbq6;obtain ⟨Hbnd6, Hnd, HW3, Hrange, HW4, HG3⟩ := hd6 hbnd6 hnd hW3 hrange hW3' hG3;clear hG3 hW3' hrange hW3 hnd hbnd6 hbq6 hav5 hC5 hPn hal4 hbad4 hstep4 hbn hav hxm hxk hbq5 hbnd4 hC4 hall4 hbq4;go_upto_region 16 with fail;rw [HW4.out, <- HG3.out];clear n0 n1 n2 n3 n4 n5 n6 n7 n8 n9 n10 n11;go_wp2_with (refine wpList_load_mid rfl 52 _ rfl G3 0 rfl (ncells x (.slice AA x.args.length aac)) _ Hrange.out Try.underlying52 rfl (by kernel_rfl) ?_);refine Hnd.out.mono ?_;rintro e w9 ⟨rfl, hb9⟩;have hbe := Hbq6.out.trans (hb9.mono Hbq6.out.size);have hbe2 := Hbnd6.out.trans (hb9.mono Hbnd6.out.size);clear hb9
        cases bn
        ·have hs := Hbad4.out rfl;obtain ⟨Hs, Hbe, Hbe2⟩ := hd3 hs hbe hbe2;clear hbe2 hbe hs;go_wp2_with fail;go_ret;rw [<- Hrv.out, Hs.out];exact ⟨rfl, Hbe2.out⟩
        ·have hs := Hstep4.out rfl;obtain ⟨Hs, Hbe, Hbe2⟩ := hd3 hs hbe hbe2;clear hbe2 hbe hs;go_wp2_with fail;exact ⟨⟨k + 1, by omega, by go_num, Hbe.out, Lib.hid Hs.out⟩, by simp [intOf]; omega⟩
       ·have hkI : ¬ (k : Int) < nn := by omega
        have hs := Hstep.out (by
         rw [<- Hbh.out];rw [List.take_of_length_le (by rw [Hnn.out]; omega)] at hall4
         exact List.all_eq_true.2 hall4.out)
        obtain ⟨Hs, Hbq4, Hall4, HC4, Hbnd4, Hbq5⟩ := hd6 hs hbq4 hall4 hC4 hbnd4 hbq5;clear hbq5 hbnd4 hC4 hall4 hbq4 hs;go_wp2_with fail;exact ⟨⟨j2 + 1, by omega, by go_num, Hbq5.out, Lib.hid Hs.out⟩, by simp [intOf]; omega⟩
     ·have hs : r = true := by
       rw [<- Hr2.out];rw [List.take_of_length_le (by rw [HZ.out]; omega)] at hall2;exact List.all_eq_true.2 hall2.out
      have hjI2 : ¬ (j2 : Int) < Z := by omega
      obtain ⟨Hs, Hbq2, Hall2, HAq2, HPq2, Hbnd2⟩ := hd6 hs hbq2 hall2 hAq2 hPq2 hbnd2;clear hbnd2 hPq2 hAq2 hall2 hbq2 hs;go_wp2_with fail;go_ret;rw [<- Hrv.out, Hs.out];exact ⟨rfl, Hbnd2.out⟩
end Go.Proofs.Ytncpehhfjkncoaa
