/- Walk of the checker's question whether all is well with a node. Conditions: checker and node lie in memory. -/
import Derived.Test.YtncpehhfjkncoaaIrHead
import Derived.Deep.MidRow
set_option linter.unusedVariables false
set_option linter.unusedSimpArgs false
namespace Go.Proofs.Ytncpehhfjkncoaa
open Go.RowKit

def opB (gs : List GraphD) (g : GraphD) (bound : Bool) (x : NodeD) : Bool :=
  if x.op = 1 ∨ x.op = 16 then isB g bound 0 [x.d]
  else if x.op = 2 then isB g bound 0 [x.d, x.a] || isB g bound 1 [x.d, x.a]
  else if x.op = 3 then decide (7 ≤ x.byo) && decide (x.byo ≤ 20) && isB g bound 0 [x.d, x.a, x.b]
  else if x.op = 4 then cellB g x.cell && isB g bound 0 [x.d]
  else if x.op = 5 then cellB g x.cell && isB g bound 0 [x.a]
  else if x.op = 6 then cellB g x.cell && isB g bound 1 [x.d]
  else if x.op = 7 then isB g bound 0 [x.d] && isB g bound 1 [x.a]
  else if x.op = 8 then isB g bound 1 [x.a] && isB g bound 0 [x.b]
  else if x.op = 10 then true
  else if x.op = 9 ∨ x.op = 14 ∨ x.op = 18 ∨ x.op = 17 then isB g bound 0 [x.a]
  else if x.op = 15 then decide (x.d ≠ x.e) && isB g bound 0 [x.d, x.e]
  else if x.op = 13 then argsB gs g bound x
  else if x.op = 11 then argsB gs g bound x && (decide (x.d = -1) || (isB g bound 0 [x.d] && (match gs[x.f.toNat]? with | none => false | some f => f.result) && (!bound || decide (x.d = 0))))
  else if x.op = 12 then (decide (x.a = -1) && !g.result) || (decide (x.a ≠ -1) && g.result && isB g bound 0 [x.a])
  else false
def nodeB (gs : List GraphD) (g : GraphD) (bound : Bool) (x : NodeD) : Bool := ((nextL x).all fun t => decide (0 ≤ t) && decide (t < g.nodes.length)) && opB gs g bound x
theorem Reads.newL' (w : World) (t : TypeId) (l : List Int) {cs : Array Value} {g n B : Nat} (hc : cs = (l.map (Value.int .i64)).toArray) (hg : g = w.heap.size) (hB : B = w.heap.size + 1) (hn : n = l.length := by rfl) : Reads (w.alloc (.cells cs t)) B 1 (some ⟨g, 0, none⟩) n (l.map (Value.int .i64)) := by
  subst hc hg hB hn
  have h := Reads.newL w t (l.map (Value.int .i64))
  rw [List.length_map] at h
  exact h
set_option maxRecDepth 100000 in
set_option maxHeartbeats 10000000 in
theorem node_any {w : World} {B cb : Nat} {allv : Value} {gs : List GraphD} {ga : Addr} {g : GraphD} {pv kv iv nv : Value} {bound : Bool} (h : Ck w B cb allv gs ga g pv kv iv nv bound)
    (hpar : ∀ f ∈ gs, ∀ p ∈ f.params, 0 ≤ p ∧ p < f.kinds.length) (hgl : gs.length ≤ 16) (x : NodeD) (av : Value) (D : Nat) (hD : D ≤ w.heap.size) (hav : NumsAt .i64 w D av x.args) (hal : x.args.length ≤ 140737488351232) (hpl : ∀ f ∈ gs, f.params.length ≤ 4) (hkl : ∀ f ∈ gs, f.kinds.length ≤ 1024) (hno : x.op ≠ 11) :
    Calls Try.prog 19 #[.pointer (some ⟨cb, 0, none⟩), .agg (ncells x av).toArray] w fun e w' => e = .returned (.bool (nodeB gs g bound x)) ∧ Below w.heap.size w w' := by
  obtain ⟨r, hr⟩ : ∃ r, nodeB gs g bound x = r := ⟨_, rfl⟩
  rw [hr]
  unfold nodeB at hr
  obtain ⟨r2, hr2⟩ : ∃ r2, opB gs g bound x = r2 := ⟨_, rfl⟩
  rw [hr2] at hr
  obtain ⟨G, hG⟩ : ∃ G, G = w.heap.size := ⟨_, rfl⟩
  obtain ⟨NC, hNC⟩ : ∃ NC : Array Value, NC = (ncells x av).toArray := ⟨_, rfl⟩
  rw [← hNC]
  have hP := Blk.new w 52 NC
  have hb := (Below.refl w.heap.size w).alloc (Nat.le_refl _) (.cells NC 52)
  have hC := h.below hb
  have hA := hav.below (hb.mono hD)
  have hnx := next_any (w.alloc (.cells NC 52)) x av
  rw [← hNC] at hnx
  obtain ⟨V, hV⟩ : ∃ V, V = w.alloc (.cells NC 52) := ⟨_, rfl⟩
  rw [← hV] at hC hb hA hP hnx
  have hGV : G < V.heap.size := by rw [hV, World.size_alloc, hG]; omega
  rw [← hG] at hP
  obtain ⟨NA, nn, nc, css, rfl, _, _, hnn, hrest⟩ := hC.gm.nodes
  have hNS : NC.size = 12 := by rw [hNC]; rfl
  have Hrest := Lib.hid hrest
  have Hb := Lib.hid hb
  have HA := Lib.hid hA
  have HC := Lib.hid hC
  have Hr := Lib.hid hr
  have Hr2 := Lib.hid hr2
  have HP := Lib.hid hP
  have H := Lib.hid h
  have Hpar := Lib.hid hpar
  have Hpl := Lib.hid hpl
  have HNC := Lib.hid hNC
  have HV := Lib.hid hV
  have Hkl := Lib.hid hkl
  have HG := Lib.hid hG
  have Hnx := Lib.hid hnx
  have Hnn := Lib.hid hnn
  have Hav := Lib.hid hav
  have HNS := Lib.hid hNS
  clear hNS hav hnn hnx hG hkl hV hNC hpl hpar h hP hr2 hr hC hA hb hrest
  go_enter Try.func19, Try.ntmps19
  go_upto_region 1 with fail
  rw [← HV.out, ← HG.out]
  have hrange : V.rangeAt G 0 (ncells x av) := fun j v hv => by
    rw [HP.out.cell (0 + j), HNC.out, Nat.zero_add, List.getElem?_toArray]
    exact hv
  have hag : (ncells x av).toArray = NC := HNC.out.symm
  have Hrange := Lib.hid hrange
  clear hrange
  go_wp2_with (refine wpList_load_mid rfl 52 _ rfl G 0 rfl (ncells x av) _ Hrange.out Try.underlying52 rfl (by kernel_rfl) ?_)
  refine Hnx.out.mono ?_
  rintro e w1 ⟨⟨v, rfl, hL⟩, hb1⟩
  obtain ⟨LA, lc, rfl, _, hlc, hLr⟩ := hL
  obtain ⟨L, hLe⟩ : ∃ L, nextL x = L := ⟨_, rfl⟩
  obtain ⟨m, hm⟩ : ∃ m, L.length = m := ⟨_, rfl⟩
  rw [hLe] at hLr ⊢
  rw [hm] at hLr ⊢
  have hm2 : m ≤ 2 := by
    rw [← hm, ← hLe]
    unfold nextL
    repeat' split
    all_goals simp
  have hC1 := HC.out.below hb1
  have hbb1 := Hb.out.trans (hb1.mono Hb.out.size)
  have hP1 := HP.out.below hb1 hGV
  have hG1 : G < w1.heap.size := by have := hb1.size; omega
  have hA1 := HA.out.below (hb1.mono (by have := Hb.out.size; omega))
  have hrA := Hr.out
  rw [hLe] at hrA
  have HC1 := Lib.hid hC1
  have Hbb1 := Lib.hid hbb1
  have HP1 := Lib.hid hP1
  have HLr := Lib.hid hLr
  have HLe := Lib.hid hLe
  have Hm := Lib.hid hm
  have HrA := Lib.hid hrA
  have HA1 := Lib.hid hA1
  clear hA1 hrA hm hLe hLr hP1 hbb1 hC1
  clear hb1
  go_wp2_with fail
  go_loopw [10] (fun i wq => ∃ j : Nat, j ≤ m ∧ i = .int .i64 j ∧ wq = w1 ∧ Hid (∀ t ∈ L.take j, (decide (0 ≤ t) && decide (t < g.nodes.length)) = true)) (fun i _ => m - (intOf i).toNat)
  case atStart => exact ⟨0, by omega, rfl, rfl, (show ∀ t ∈ L.take 0, (decide (0 ≤ t) && decide (t < g.nodes.length)) = true from fun t ht => by simp at ht)⟩
  case round =>
    obtain ⟨j, hj, rfl, hwr, hall⟩ := hrel
    subst hwr
    by_cases hjm : j < m
    · obtain ⟨ad, u0, hAd, _, hu0, hce⟩ := HLr.out.at_ hjm
      subst hAd
      obtain ⟨p, hpj, rfl⟩ : ∃ p, L[j]? = some p ∧ u0 = .int .i64 p := by
        rw [List.getElem?_map, Option.map_eq_some_iff] at hu0
        obtain ⟨x, h1, h2⟩ := hu0
        exact ⟨x, h1, h2.symm⟩
      have hmem := List.mem_of_getElem? hpj
      have hjI : (j : Int) < m := by omega
      have g6 := HC1.out.gm.c6
      have kc1 := Blk.cell HC1.out.blk 1
      simp only [List.getElem?_toArray, List.getElem?_cons_zero, List.getElem?_cons_succ] at kc1
      have hbad : (decide (0 ≤ p) && decide (p < g.nodes.length)) = false → r = false := fun hf => by
        rw [← HrA.out]
        rcases hq : L.all (fun t => decide (0 ≤ t) && decide (t < g.nodes.length)) with _ | _
        · rfl
        · rw [List.all_eq_true.1 hq p hmem] at hf; cases hf
      clear hu0
      by_cases c0 : 0 ≤ p
      · by_cases c1 : p < nn
        · have hs : ∀ t ∈ L.take (j + 1), (decide (0 ≤ t) && decide (t < g.nodes.length)) = true := fun t ht => by
            rw [List.take_add_one, hpj] at ht
            rcases List.mem_append.1 ht with ht | ht
            · exact hall.out t ht
            · simp at ht; rw [ht, Hnn.out]; simp [c0, c1]
          have c0' : ¬ p < 0 := by omega
          have c1' : ¬ (nn : Int) ≤ p := by omega
          have Hs := Lib.hid hs
          have Hall := Lib.hid hall
          have Hpj := Lib.hid hpj
          have Hmem := Lib.hid hmem
          have Hbad := Lib.hid hbad
          clear hbad hmem hpj hall hs
          clear c0 c1
          go_wp2_with fail
          exact ⟨⟨j + 1, by omega, by go_num, trivial, Lib.hid Hs.out⟩, by simp [intOf]; omega⟩
        · have hs := hbad (by rw [Hnn.out]; simp [c1])
          have c0' : ¬ p < 0 := by omega
          have c1' : (nn : Int) ≤ p := by omega
          have Hs := Lib.hid hs
          have Hall := Lib.hid hall
          have Hpj := Lib.hid hpj
          have Hmem := Lib.hid hmem
          have Hbad := Lib.hid hbad
          clear hbad hmem hpj hall hs
          clear c0 c1
          go_wp2_with fail
          go_ret
          rw [Hs.out]
          exact ⟨rfl, Hbb1.out⟩
      · have hs := hbad (by simp [c0])
        have c0' : p < 0 := by omega
        have Hs := Lib.hid hs
        have Hall := Lib.hid hall
        have Hpj := Lib.hid hpj
        have Hmem := Lib.hid hmem
        have Hbad := Lib.hid hbad
        clear hbad hmem hpj hall hs
        clear c0
        go_wp2_with fail
        go_ret
        rw [Hs.out]
        exact ⟨rfl, Hbb1.out⟩
    · have hrr : r2 = r := by
        have h1 := HrA.out
        rw [List.take_of_length_le (by rw [Hm.out]; omega)] at hall
        rw [List.all_eq_true.2 hall.out, Bool.true_and] at h1
        exact h1
      have HCq := HC1
      have Hbnd := Hbb1
      have hNC2 := HNC.out
      obtain ⟨op, byo, d, e_, a, b, f, cell, imm, args, next, els⟩ := x
      have hPq := HP1.out
      rw [hNC2] at hPq
      have hPq : Blk wr G 52 #[.int .u8 op, .int .u8 byo, .int .i64 d, .int .i64 e_, .int .i64 a, .int .i64 b, .int .i64 f, .int .i64 cell, .int .u64 imm, av, .int .i64 next, .int .i64 els] := hPq
      have kp0 := Blk.cell hPq 0
      have kp1 := Blk.cell hPq 1
      have kp2 := Blk.cell hPq 2
      have kp3 := Blk.cell hPq 3
      have kp4 := Blk.cell hPq 4
      have kp5 := Blk.cell hPq 5
      have kp6 := Blk.cell hPq 6
      have kp7 := Blk.cell hPq 7
      simp only [List.getElem?_toArray, List.getElem?_cons_zero, List.getElem?_cons_succ] at kp0 kp1 kp2 kp3 kp4 kp5 kp6 kp7
      have Hrr := Lib.hid hrr
      have Hall := Lib.hid hall
      have HNC2 := Lib.hid hNC2
      have HPq := Lib.hid hPq
      clear hPq hNC2 hall hrr
      have hjI : ¬ (j : Int) < m := by omega
      go_upto_region 7 with fail
      by_cases e : op = 1 ∨ op = 16
      · rcases e with e | e
        all_goals
          subst e
          have hres : isB g bound 0 [d] = r2 := Hr2.out
          have hal := (Below.refl wr.heap.size wr).alloc (Nat.le_refl _) (.cells #[.int .i64 d] 3)
          have hDal := HCq.out.below hal
          have Hal := Lib.hid hal
          have HDal := Lib.hid hDal
          have Hres := Lib.hid hres
          clear hres hDal hal
          go_wp2_with fail
          refine (is_any HDal.out 0 (wr.heap.size + 1) (some ⟨wr.heap.size, 0, none⟩) 1 1 [d] (Reads.newL' wr 3 [d] rfl rfl rfl) rfl (by omega)).mono ?_
          rintro e w9 ⟨rfl, rfl⟩
          rw [Hres.out]
          go_wp2_with fail
          go_ret
          rw [Hrr.out]
          exact ⟨rfl, Hbnd.out.trans (Hal.out.mono Hbnd.out.size)⟩
      by_cases e : op = 2
      · subst e
        have hres : (isB g bound 0 [d, a] || isB g bound 1 [d, a]) = r2 := Hr2.out
        obtain ⟨bc, hbc⟩ : ∃ bc, isB g bound 0 [d, a] = bc := ⟨_, rfl⟩
        rw [hbc] at hres
        have hal := (Below.refl wr.heap.size wr).alloc (Nat.le_refl _) (.cells #[.int .i64 d, .int .i64 a] 3)
        have hDal := HCq.out.below hal
        have hal2 := hal.alloc hal.size (.cells #[.int .i64 d, .int .i64 a] 3)
        have hDal2 := HCq.out.below hal2
        have Hal := Lib.hid hal
        have HDal := Lib.hid hDal
        have Hres := Lib.hid hres
        have Hbc := Lib.hid hbc
        have Hal2 := Lib.hid hal2
        have HDal2 := Lib.hid hDal2
        clear hDal2 hal2 hbc hres hDal hal
        go_wp2_with fail
        refine (is_any HDal.out 0 (wr.heap.size + 1) (some ⟨wr.heap.size, 0, none⟩) 2 2 [d, a] (Reads.newL' wr 3 [d, a] rfl rfl rfl) rfl (by omega)).mono ?_
        rintro e w9 ⟨rfl, rfl⟩
        rw [Hbc.out]
        have hres := Hres.out
        cases bc
        · rw [Bool.false_or] at hres
          have HR9 := Lib.hid hres
          clear hres
          go_wp2_with fail
          refine (is_any HDal2.out 1 (wr.heap.size + 1 + 1) (some ⟨wr.heap.size + 1, 0, none⟩) 2 2 [d, a] (Reads.newL' (wr.alloc (.cells #[.int .i64 d, .int .i64 a] 3)) 3 [d, a] rfl (by rw [World.size_alloc]) (by rw [World.size_alloc])) rfl (by omega)).mono ?_
          rintro e w9 ⟨rfl, rfl⟩
          rw [HR9.out]
          go_wp2_with fail
          go_ret
          rw [Hrr.out]
          exact ⟨rfl, Hbnd.out.trans (Hal2.out.mono Hbnd.out.size)⟩
        · rw [Bool.true_or] at hres
          have HR9 := Lib.hid hres
          clear hres
          go_wp2_with fail
          go_ret
          rw [← Hrr.out, ← HR9.out]
          exact ⟨rfl, Hbnd.out.trans (Hal.out.mono Hbnd.out.size)⟩
      by_cases e : op = 4
      · subst e
        have hres : (cellB g cell && isB g bound 0 [d]) = r2 := Hr2.out
        obtain ⟨bc, hbc⟩ : ∃ bc, cellB g cell = bc := ⟨_, rfl⟩
        rw [hbc] at hres
        have hal := (Below.refl wr.heap.size wr).alloc (Nat.le_refl _) (.cells #[.int .i64 d] 3)
        have hDal := HCq.out.below hal
        have Hal := Lib.hid hal
        have HDal := Lib.hid hDal
        have Hres := Lib.hid hres
        have Hbc := Lib.hid hbc
        clear hbc hres hDal hal
        go_wp2_with fail
        refine (cell_any HCq.out cell).mono ?_
        rintro e w9 ⟨rfl, rfl⟩
        rw [Hbc.out]
        have hres := Hres.out
        cases bc
        · rw [Bool.false_and] at hres
          have HR9 := Lib.hid hres
          clear hres
          go_wp2_with fail
          go_ret
          rw [← Hrr.out, ← HR9.out]
          exact ⟨rfl, Hbnd.out⟩
        · rw [Bool.true_and] at hres
          have HR9 := Lib.hid hres
          clear hres
          go_wp2_with fail
          refine (is_any HDal.out 0 (wr.heap.size + 1) (some ⟨wr.heap.size, 0, none⟩) 1 1 [d] (Reads.newL' wr 3 [d] rfl rfl rfl) rfl (by omega)).mono ?_
          rintro e w9 ⟨rfl, rfl⟩
          rw [HR9.out]
          go_wp2_with fail
          go_ret
          rw [Hrr.out]
          exact ⟨rfl, Hbnd.out.trans (Hal.out.mono Hbnd.out.size)⟩
      by_cases e : op = 5
      · subst e
        have hres : (cellB g cell && isB g bound 0 [a]) = r2 := Hr2.out
        obtain ⟨bc, hbc⟩ : ∃ bc, cellB g cell = bc := ⟨_, rfl⟩
        rw [hbc] at hres
        have hal := (Below.refl wr.heap.size wr).alloc (Nat.le_refl _) (.cells #[.int .i64 a] 3)
        have hDal := HCq.out.below hal
        have Hal := Lib.hid hal
        have HDal := Lib.hid hDal
        have Hres := Lib.hid hres
        have Hbc := Lib.hid hbc
        clear hbc hres hDal hal
        go_wp2_with fail
        refine (cell_any HCq.out cell).mono ?_
        rintro e w9 ⟨rfl, rfl⟩
        rw [Hbc.out]
        have hres := Hres.out
        cases bc
        · rw [Bool.false_and] at hres
          have HR9 := Lib.hid hres
          clear hres
          go_wp2_with fail
          go_ret
          rw [← Hrr.out, ← HR9.out]
          exact ⟨rfl, Hbnd.out⟩
        · rw [Bool.true_and] at hres
          have HR9 := Lib.hid hres
          clear hres
          go_wp2_with fail
          refine (is_any HDal.out 0 (wr.heap.size + 1) (some ⟨wr.heap.size, 0, none⟩) 1 1 [a] (Reads.newL' wr 3 [a] rfl rfl rfl) rfl (by omega)).mono ?_
          rintro e w9 ⟨rfl, rfl⟩
          rw [HR9.out]
          go_wp2_with fail
          go_ret
          rw [Hrr.out]
          exact ⟨rfl, Hbnd.out.trans (Hal.out.mono Hbnd.out.size)⟩
      by_cases e : op = 6
      · subst e
        have hres : (cellB g cell && isB g bound 1 [d]) = r2 := Hr2.out
        obtain ⟨bc, hbc⟩ : ∃ bc, cellB g cell = bc := ⟨_, rfl⟩
        rw [hbc] at hres
        have hal := (Below.refl wr.heap.size wr).alloc (Nat.le_refl _) (.cells #[.int .i64 d] 3)
        have hDal := HCq.out.below hal
        have Hal := Lib.hid hal
        have HDal := Lib.hid hDal
        have Hres := Lib.hid hres
        have Hbc := Lib.hid hbc
        clear hbc hres hDal hal
        go_wp2_with fail
        refine (cell_any HCq.out cell).mono ?_
        rintro e w9 ⟨rfl, rfl⟩
        rw [Hbc.out]
        have hres := Hres.out
        cases bc
        · rw [Bool.false_and] at hres
          have HR9 := Lib.hid hres
          clear hres
          go_wp2_with fail
          go_ret
          rw [← Hrr.out, ← HR9.out]
          exact ⟨rfl, Hbnd.out⟩
        · rw [Bool.true_and] at hres
          have HR9 := Lib.hid hres
          clear hres
          go_wp2_with fail
          refine (is_any HDal.out 1 (wr.heap.size + 1) (some ⟨wr.heap.size, 0, none⟩) 1 1 [d] (Reads.newL' wr 3 [d] rfl rfl rfl) rfl (by omega)).mono ?_
          rintro e w9 ⟨rfl, rfl⟩
          rw [HR9.out]
          go_wp2_with fail
          go_ret
          rw [Hrr.out]
          exact ⟨rfl, Hbnd.out.trans (Hal.out.mono Hbnd.out.size)⟩
      by_cases e : op = 7
      · subst e
        have hres : (isB g bound 0 [d] && isB g bound 1 [a]) = r2 := Hr2.out
        obtain ⟨bc, hbc⟩ : ∃ bc, isB g bound 0 [d] = bc := ⟨_, rfl⟩
        rw [hbc] at hres
        have hal := (Below.refl wr.heap.size wr).alloc (Nat.le_refl _) (.cells #[.int .i64 d] 3)
        have hDal := HCq.out.below hal
        have hal2 := hal.alloc hal.size (.cells #[.int .i64 a] 3)
        have hDal2 := HCq.out.below hal2
        have Hal := Lib.hid hal
        have HDal := Lib.hid hDal
        have Hres := Lib.hid hres
        have Hbc := Lib.hid hbc
        have Hal2 := Lib.hid hal2
        have HDal2 := Lib.hid hDal2
        clear hDal2 hal2 hbc hres hDal hal
        go_wp2_with fail
        refine (is_any HDal.out 0 (wr.heap.size + 1) (some ⟨wr.heap.size, 0, none⟩) 1 1 [d] (Reads.newL' wr 3 [d] rfl rfl rfl) rfl (by omega)).mono ?_
        rintro e w9 ⟨rfl, rfl⟩
        rw [Hbc.out]
        have hres := Hres.out
        cases bc
        · rw [Bool.false_and] at hres
          have HR9 := Lib.hid hres
          clear hres
          go_wp2_with fail
          go_ret
          rw [← Hrr.out, ← HR9.out]
          exact ⟨rfl, Hbnd.out.trans (Hal.out.mono Hbnd.out.size)⟩
        · rw [Bool.true_and] at hres
          have HR9 := Lib.hid hres
          clear hres
          go_wp2_with fail
          refine (is_any HDal2.out 1 (wr.heap.size + 1 + 1) (some ⟨wr.heap.size + 1, 0, none⟩) 1 1 [a] (Reads.newL' (wr.alloc (.cells #[.int .i64 d] 3)) 3 [a] rfl (by rw [World.size_alloc]) (by rw [World.size_alloc])) rfl (by omega)).mono ?_
          rintro e w9 ⟨rfl, rfl⟩
          rw [HR9.out]
          go_wp2_with fail
          go_ret
          rw [Hrr.out]
          exact ⟨rfl, Hbnd.out.trans (Hal2.out.mono Hbnd.out.size)⟩
      by_cases e : op = 8
      · subst e
        have hres : (isB g bound 1 [a] && isB g bound 0 [b]) = r2 := Hr2.out
        obtain ⟨bc, hbc⟩ : ∃ bc, isB g bound 1 [a] = bc := ⟨_, rfl⟩
        rw [hbc] at hres
        have hal := (Below.refl wr.heap.size wr).alloc (Nat.le_refl _) (.cells #[.int .i64 a] 3)
        have hDal := HCq.out.below hal
        have hal2 := hal.alloc hal.size (.cells #[.int .i64 b] 3)
        have hDal2 := HCq.out.below hal2
        have Hal := Lib.hid hal
        have HDal := Lib.hid hDal
        have Hres := Lib.hid hres
        have Hbc := Lib.hid hbc
        have Hal2 := Lib.hid hal2
        have HDal2 := Lib.hid hDal2
        clear hDal2 hal2 hbc hres hDal hal
        go_wp2_with fail
        refine (is_any HDal.out 1 (wr.heap.size + 1) (some ⟨wr.heap.size, 0, none⟩) 1 1 [a] (Reads.newL' wr 3 [a] rfl rfl rfl) rfl (by omega)).mono ?_
        rintro e w9 ⟨rfl, rfl⟩
        rw [Hbc.out]
        have hres := Hres.out
        cases bc
        · rw [Bool.false_and] at hres
          have HR9 := Lib.hid hres
          clear hres
          go_wp2_with fail
          go_ret
          rw [← Hrr.out, ← HR9.out]
          exact ⟨rfl, Hbnd.out.trans (Hal.out.mono Hbnd.out.size)⟩
        · rw [Bool.true_and] at hres
          have HR9 := Lib.hid hres
          clear hres
          go_wp2_with fail
          refine (is_any HDal2.out 0 (wr.heap.size + 1 + 1) (some ⟨wr.heap.size + 1, 0, none⟩) 1 1 [b] (Reads.newL' (wr.alloc (.cells #[.int .i64 a] 3)) 3 [b] rfl (by rw [World.size_alloc]) (by rw [World.size_alloc])) rfl (by omega)).mono ?_
          rintro e w9 ⟨rfl, rfl⟩
          rw [HR9.out]
          go_wp2_with fail
          go_ret
          rw [Hrr.out]
          exact ⟨rfl, Hbnd.out.trans (Hal2.out.mono Hbnd.out.size)⟩
      by_cases e : op = 9 ∨ op = 14 ∨ op = 18 ∨ op = 17
      · rcases e with e | e | e | e
        all_goals
          subst e
          have hres : isB g bound 0 [a] = r2 := Hr2.out
          have hal := (Below.refl wr.heap.size wr).alloc (Nat.le_refl _) (.cells #[.int .i64 a] 3)
          have hDal := HCq.out.below hal
          have Hal := Lib.hid hal
          have HDal := Lib.hid hDal
          have Hres := Lib.hid hres
          clear hres hDal hal
          go_wp2_with fail
          refine (is_any HDal.out 0 (wr.heap.size + 1) (some ⟨wr.heap.size, 0, none⟩) 1 1 [a] (Reads.newL' wr 3 [a] rfl rfl rfl) rfl (by omega)).mono ?_
          rintro e w9 ⟨rfl, rfl⟩
          rw [Hres.out]
          go_wp2_with fail
          go_ret
          rw [Hrr.out]
          exact ⟨rfl, Hbnd.out.trans (Hal.out.mono Hbnd.out.size)⟩
      by_cases e : op = 10
      · subst e
        have hres : true = r2 := Hr2.out
        have Hres := Lib.hid hres
        clear hres
        go_wp2_with fail
        go_ret
        rw [← Hrr.out, ← Hres.out]
        exact ⟨rfl, Hbnd.out⟩
      by_cases e : op = 3
      · subst e
        have hres : (decide (7 ≤ byo) && decide (byo ≤ 20) && isB g bound 0 [d, a, b]) = r2 := Hr2.out
        by_cases c7 : 7 ≤ byo
        case neg =>
          have hs : false = r2 := by rw [← hres]; simp [c7]
          have Hs := Lib.hid hs
          have Hres := Lib.hid hres
          clear hres hs
          go_wp2_with fail
          go_ret
          rw [← Hrr.out, ← Hs.out]
          exact ⟨rfl, Hbnd.out⟩
        by_cases c20 : byo ≤ 20
        case neg =>
          have hs : false = r2 := by rw [← hres]; simp [c20]
          have Hs := Lib.hid hs
          have Hres := Lib.hid hres
          clear hres hs
          go_wp2_with fail
          go_ret
          rw [← Hrr.out, ← Hs.out]
          exact ⟨rfl, Hbnd.out⟩
        have hs : isB g bound 0 [d, a, b] = r2 := by rw [← hres]; simp [c7, c20]
        have hal := (Below.refl wr.heap.size wr).alloc (Nat.le_refl _) (.cells #[.int .i64 d, .int .i64 a, .int .i64 b] 3)
        have hDal := HCq.out.below hal
        have Hal := Lib.hid hal
        have HDal := Lib.hid hDal
        have Hres := Lib.hid hres
        have Hs := Lib.hid hs
        clear hs hres hDal hal
        go_wp2_with fail
        refine (is_any HDal.out 0 (wr.heap.size + 1) (some ⟨wr.heap.size, 0, none⟩) 3 3 [d, a, b] (Reads.newL' wr 3 [d, a, b] rfl rfl rfl) rfl (by omega)).mono ?_
        rintro e w9 ⟨rfl, rfl⟩
        rw [Hs.out]
        go_wp2_with fail
        go_ret
        rw [Hrr.out]
        exact ⟨rfl, Hbnd.out.trans (Hal.out.mono Hbnd.out.size)⟩
      by_cases e : op = 15
      · subst e
        have hres : (decide (d ≠ e_) && isB g bound 0 [d, e_]) = r2 := Hr2.out
        by_cases cde : d = e_
        · have hs : false = r2 := by rw [← hres]; simp [cde]
          have hde : (d != e_) = false := by simp [cde]
          have Hs := Lib.hid hs
          have Hres := Lib.hid hres
          have Hcde := Lib.hid cde
          clear cde hres hs
          go_wp2_with fail
          go_ret
          rw [← Hrr.out, ← Hs.out]
          exact ⟨rfl, Hbnd.out⟩
        · have hs : isB g bound 0 [d, e_] = r2 := by rw [← hres]; simp [cde]
          have hde : (d != e_) = true := by simp [cde]
          have hal := (Below.refl wr.heap.size wr).alloc (Nat.le_refl _) (.cells #[.int .i64 d, .int .i64 e_] 3)
          have hDal := HCq.out.below hal
          have Hal := Lib.hid hal
          have HDal := Lib.hid hDal
          have Hres := Lib.hid hres
          have Hs := Lib.hid hs
          have Hcde := Lib.hid cde
          clear cde hs hres hDal hal
          go_wp2_with fail
          refine (is_any HDal.out 0 (wr.heap.size + 1) (some ⟨wr.heap.size, 0, none⟩) 2 2 [d, e_] (Reads.newL' wr 3 [d, e_] rfl rfl rfl) rfl (by omega)).mono ?_
          rintro e w9 ⟨rfl, rfl⟩
          rw [Hs.out]
          go_wp2_with fail
          go_ret
          rw [Hrr.out]
          exact ⟨rfl, Hbnd.out.trans (Hal.out.mono Hbnd.out.size)⟩
      by_cases e : op = 13
      · subst e
        have hres : argsB gs g bound ⟨13, byo, d, e_, a, b, f, cell, imm, args, next, els⟩ = r2 := Hr2.out
        have har := args_any HCq.out Hpar.out hgl ⟨13, byo, d, e_, a, b, f, cell, imm, args, next, els⟩ av D (by have := HCq.out.blk.lt; have := Hbnd.out.size; omega) HA1.out hal Hpl.out Hkl.out
        rw [hres, ← HNC2.out] at har
        have hrange2 : wr.rangeAt G 0 (ncells ⟨13, byo, d, e_, a, b, f, cell, imm, args, next, els⟩ av) := fun j v hv => by
          rw [HPq.out.cell (0 + j), Nat.zero_add]
          exact (List.getElem?_toArray ..).trans hv
        have Hres := Lib.hid hres
        have Har := Lib.hid har
        have Hrange2 := Lib.hid hrange2
        clear hrange2 har hres
        go_upto_region 35 with fail
        clear kp0 kp1 kp2 kp3 kp4 kp5 kp6 kp7
        go_wp2_with (refine wpList_load_mid rfl 52 _ rfl G 0 rfl (ncells ⟨13, byo, d, e_, a, b, f, cell, imm, args, next, els⟩ av) _ Hrange2.out Try.underlying52 rfl (by kernel_rfl) ?_)
        refine Har.out.mono ?_
        rintro e w9 ⟨rfl, hb9⟩
        have hfin := Hbnd.out.trans (hb9.mono Hbnd.out.size)
        have Hfin := Lib.hid hfin
        clear hfin
        clear hb9
        go_wp2_with fail
        go_ret
        rw [Hrr.out]
        exact ⟨rfl, Hfin.out⟩
      by_cases e : op = 12
      · subst e
        have hres : ((decide (a = -1) && !g.result) || (decide (a ≠ -1) && g.result && isB g bound 0 [a])) = r2 := Hr2.out
        have g4 := HC1.out.gm.c4
        have kc1 := Blk.cell HC1.out.blk 1
        simp only [List.getElem?_toArray, List.getElem?_cons_zero, List.getElem?_cons_succ] at kc1
        obtain ⟨gr, hgr⟩ : ∃ gr, g.result = gr := ⟨_, rfl⟩
        rw [hgr] at hres g4
        by_cases ca : a = -1
        · have ha : (a == -1) = true := by simp [ca]
          have ha2 : (a != -1) = false := by simp [ca]
          have hs : (!gr) = r2 := by rw [← hres]; simp [ca]
          have Hs := Lib.hid hs
          have Hres := Lib.hid hres
          have Hca := Lib.hid ca
          have Hgr := Lib.hid hgr
          clear hgr ca hres hs
          cases gr
          all_goals
            go_wp2_with fail
            go_ret
            rw [← Hrr.out, ← Hs.out]
            exact ⟨rfl, Hbnd.out⟩
        · have ha : (a == -1) = false := by simp [ca]
          have ha2 : (a != -1) = true := by simp [ca]
          have hs : (gr && isB g bound 0 [a]) = r2 := by rw [← hres]; simp [ca]
          have Hres := Lib.hid hres
          have Hca := Lib.hid ca
          have Hgr := Lib.hid hgr
          clear hgr ca hres
          cases gr
          · rw [Bool.false_and] at hs
            have Hs := Lib.hid hs
            clear hs
            go_wp2_with fail
            go_ret
            rw [← Hrr.out, ← Hs.out]
            exact ⟨rfl, Hbnd.out⟩
          · rw [Bool.true_and] at hs
            have hal := (Below.refl wr.heap.size wr).alloc (Nat.le_refl _) (.cells #[.int .i64 a] 3)
            have hDal := HCq.out.below hal
            have Hs := Lib.hid hs
            have Hal := Lib.hid hal
            have HDal := Lib.hid hDal
            clear hDal hal hs
            go_wp2_with fail
            refine (is_any HDal.out 0 (wr.heap.size + 1) (some ⟨wr.heap.size, 0, none⟩) 1 1 [a] (Reads.newL' wr 3 [a] rfl rfl rfl) rfl (by omega)).mono ?_
            rintro e w9 ⟨rfl, rfl⟩
            rw [Hs.out]
            go_wp2_with fail
            go_ret
            rw [Hrr.out]
            exact ⟨rfl, Hbnd.out.trans (Hal.out.mono Hbnd.out.size)⟩
      have e11 : op ≠ 11 := hno
      have hs : r2 = false := by
        rw [← Hr2.out]
        unfold opB
        simp only
        repeat (rw [if_neg (by omega)])
      have x1 : (op == 1) = false := by rw [beq_eq_false_iff_ne]; omega
      have x2 : (op == 2) = false := by rw [beq_eq_false_iff_ne]; omega
      have x3 : (op == 3) = false := by rw [beq_eq_false_iff_ne]; omega
      have x4 : (op == 4) = false := by rw [beq_eq_false_iff_ne]; omega
      have x5 : (op == 5) = false := by rw [beq_eq_false_iff_ne]; omega
      have x6 : (op == 6) = false := by rw [beq_eq_false_iff_ne]; omega
      have x7 : (op == 7) = false := by rw [beq_eq_false_iff_ne]; omega
      have x8 : (op == 8) = false := by rw [beq_eq_false_iff_ne]; omega
      have x9 : (op == 9) = false := by rw [beq_eq_false_iff_ne]; omega
      have x10 : (op == 10) = false := by rw [beq_eq_false_iff_ne]; omega
      have x11 : (op == 11) = false := by rw [beq_eq_false_iff_ne]; omega
      have x12 : (op == 12) = false := by rw [beq_eq_false_iff_ne]; omega
      have x13 : (op == 13) = false := by rw [beq_eq_false_iff_ne]; omega
      have x14 : (op == 14) = false := by rw [beq_eq_false_iff_ne]; omega
      have x15 : (op == 15) = false := by rw [beq_eq_false_iff_ne]; omega
      have x16 : (op == 16) = false := by rw [beq_eq_false_iff_ne]; omega
      have x17 : (op == 17) = false := by rw [beq_eq_false_iff_ne]; omega
      have x18 : (op == 18) = false := by rw [beq_eq_false_iff_ne]; omega
      rw [hs] at Hrr
      have Hs := Lib.hid hs
      clear hs
      go_wp2_with fail
      go_ret
      rw [← Hrr.out]
      exact ⟨rfl, Hbnd.out⟩
end Go.Proofs.Ytncpehhfjkncoaa
