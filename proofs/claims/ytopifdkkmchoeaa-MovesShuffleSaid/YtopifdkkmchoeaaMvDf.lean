/- Walk of slices.DeleteFunc at moves, those struck that lead to themselves. Conditions: the row is the call's own. -/
import Derived.Test.YtopifdkkmchoeaaMvFun
set_option linter.unusedVariables false
set_option linter.unusedSimpArgs false
namespace Go.Proofs.Ytopifdkkmchoeaa
open Go.RowKit

theorem only_trans {a b c : World} {row : Option Nat} (h : a.grownBy b row) (k : b.grownBy c row) : a.grownBy c row :=
  ⟨k.os.trans h.os, k.tape.trans h.tape, k.output.trans h.output, Nat.le_trans h.size k.size, fun i hi hne => (k.block i (Nat.lt_of_lt_of_le hi h.size) hne).trans (h.block i hi hne)⟩
def keptM (ms : List Mv) : List Mv := ms.filter fun x => !(x.1 == x.2)
/-- how the row stands when so many have been looked at -/
def DfInv (w : World) (g cap n k q : Nat) (ms : List Mv) : Prop := ∃ cur : Array Value, Blk w g 26 cur ∧ cur.size = cap * 2 ∧ q = (keptM (ms.take k)).length ∧ cur.toList.take (q * 2) = mcells (keptM (ms.take k)) ∧ (cur.toList.take (n * 2)).drop (k * 2) = mcells (ms.drop k)
theorem DfInv.kept {w w' : World} {g cap n k q : Nat} {ms : List Mv} (h : DfInv w g cap n k q ms) (hb : Below w.heap.size w w') : DfInv w' g cap n k q ms := by
  obtain ⟨cur, h1, h2⟩ := h
  exact ⟨cur, h1.below hb h1.lt, h2⟩
theorem keptM_len (l : List Mv) : (keptM l).length ≤ l.length := List.length_filter_le _ _
theorem DfInv.skip {w : World} {g cap n k q : Nat} {ms : List Mv} {m : Mv} (h : DfInv w g cap n k q ms) (hm : ms[k]? = some m) (hd : (m.1 == m.2) = true) : DfInv w g cap n (k + 1) q ms := by
  obtain ⟨cur, h1, h2, h3, h4, h5⟩ := h
  have e : keptM (ms.take (k + 1)) = keptM (ms.take k) := by
    rw [List.take_add_one, hm]; simp [keptM, hd]
  refine ⟨cur, h1, h2, by rw [e]; exact h3, by rw [e]; exact h4, ?_⟩
  have h6 := congrArg (List.drop 2) h5
  rw [List.drop_drop, mcells_drop ms k |>.symm, List.drop_drop, show k * 2 + 2 = (k + 1) * 2 by omega, mcells_drop] at h6
  exact h6
theorem DfInv.keep {w : World} {g cap n k q : Nat} {ms : List Mv} {m : Mv} (h : DfInv w g cap n k q ms) (hn : ms.length = n) (hc : n ≤ cap) (hm : ms[k]? = some m) (hd : (m.1 == m.2) = false) (hq : q < k) : DfInv (w.setCells g (q * 2) [.int .i64 m.1, .int .i64 m.2]) g cap n (k + 1) (q + 1) ms := by
  obtain ⟨cur, h1, h2, h3, h4, h5⟩ := h
  have hkn := (List.getElem?_eq_some_iff.1 hm).1
  have e : keptM (ms.take (k + 1)) = keptM (ms.take k) ++ [m] := by
    rw [List.take_add_one, hm]; simp [keptM, hd]
  have h7 := Blk.setCells [.int .i64 m.1, .int .i64 m.2] (q * 2) w cur h1 (by simp; omega)
  refine ⟨_, h7, by simp; omega, by rw [e, h3]; simp, ?_, ?_⟩
  · simp only
    rw [List.append_assoc]
    have e1 : (cur.toList.take (q * 2)).length = q * 2 := by simp; omega
    rw [List.take_append, e1, List.take_of_length_le (by rw [e1]; omega), h4, e, mcells_append]
    congr 1
    rw [show (q + 1) * 2 - q * 2 = 2 by omega]
    rfl
  · have h6 := congrArg (List.drop 2) h5
    rw [List.drop_drop, mcells_drop ms k |>.symm, List.drop_drop, show k * 2 + 2 = (k + 1) * 2 by omega, mcells_drop] at h6
    rw [← h6]
    simp only
    have e1 : (cur.toList.take (q * 2) ++ [Value.int .i64 m.1, .int .i64 m.2]).length = q * 2 + 2 := by simp; omega
    rw [List.take_append, e1, List.take_of_length_le (by rw [e1]; omega), List.drop_append, e1, List.drop_of_length_le (by rw [e1]; omega), List.nil_append]
    apply List.ext_getElem?
    intro i
    simp only [List.getElem?_drop, List.getElem?_take, List.length_cons, List.length_nil]
    have e2 : q * 2 + (0 + 1 + 1) + ((k + 1) * 2 - (q * 2 + 2) + i) = (k + 1) * 2 + i := by omega
    rw [e2]
    by_cases hi : (k + 1) * 2 + i < n * 2
    · rw [if_pos (by omega), if_pos hi]
    · rw [if_neg (by omega), if_neg hi]
theorem DfInv.cells {w : World} {g cap n k q : Nat} {ms : List Mv} {m : Mv} (h : DfInv w g cap n k q ms) (hn : ms.length = n) (hm : ms[k]? = some m) : w.cell? ⟨g, k * 2, none⟩ = some (.int .i64 m.1) ∧ w.cell? ⟨g, k * 2 + 1, none⟩ = some (.int .i64 m.2) := by
  obtain ⟨cur, h1, h2, h3, h4, h5⟩ := h
  have hkn := (List.getElem?_eq_some_iff.1 hm).1
  have h6 : (ms.drop k)[0]? = some m := by rw [List.getElem?_drop]; exact hm
  obtain ⟨q1, q2⟩ := mcells_get _ 0 m h6
  rw [← h5, List.getElem?_drop, List.getElem?_take] at q1 q2
  rw [if_pos (by omega)] at q1 q2
  rw [h1.cell, h1.cell, ← Array.getElem?_toList, ← Array.getElem?_toList]
  exact ⟨q1, q2⟩
theorem DfInv.start {w : World} {g cap n k : Nat} {ms : List Mv} {cur : Array Value} (h1 : Blk w g 26 cur) (h2 : cur.size = cap * 2) (h3 : cur.toList.take (n * 2) = mcells ms) (hk : k ≤ n) (hn : ms.length = n) (hb : ∀ x ∈ ms.take k, (x.1 == x.2) = false) : DfInv w g cap n k k ms := by
  have e : keptM (ms.take k) = ms.take k := by unfold keptM; rw [List.filter_eq_self]; intro x hx; simp [hb x hx]
  refine ⟨cur, h1, h2, by rw [e]; simp; omega, ?_, ?_⟩
  · rw [e, ← mcells_take, ← h3, List.take_take]; congr 1; omega
  · rw [h3, mcells_drop]
theorem DfInv.room {w : World} {g cap n k q t : Nat} {ms : List Mv} (h : DfInv w g cap n k q ms) (ht : t < cap) : w.frozen? ⟨g, t * 2, none⟩ = false ∧ w.frozen? ⟨g, t * 2 + 1, none⟩ = false ∧ (∃ x, w.cell? ⟨g, t * 2, none⟩ = some x) ∧ ∃ x, w.cell? ⟨g, t * 2 + 1, none⟩ = some x := by
  obtain ⟨cur, h1, h2, h3, h4, h5⟩ := h
  exact ⟨h1.frozen _, h1.frozen _, ⟨_, by rw [h1.cell]; exact Array.getElem?_eq_getElem (by omega)⟩, ⟨_, by rw [h1.cell]; exact Array.getElem?_eq_getElem (by omega)⟩⟩
theorem ms_split (ms : List Mv) (h : ¬ ∀ x ∈ ms, (x.1 == x.2) = false) : ∃ (k0 : Nat) (m0 : Mv), ms[k0]? = some m0 ∧ (m0.1 == m0.2) = true ∧ k0 < ms.length ∧ ∀ x ∈ ms.take k0, (x.1 == x.2) = false := by
  rcases hf : ms.findIdx? (fun x => x.1 == x.2) with _ | k
  · rw [List.findIdx?_eq_none_iff] at hf
    exact absurd hf h
  · rw [List.findIdx?_eq_some_iff_getElem] at hf
    obtain ⟨hl, hp, hall⟩ := hf
    refine ⟨k, ms[k], List.getElem?_eq_getElem hl, hp, hl, fun x hx => ?_⟩
    obtain ⟨j, hj, rfl⟩ := List.getElem_of_mem hx
    have hj2 : j < k := by simp at hj; omega
    rw [List.getElem_take]
    have := hall j hj2
    simpa using this
set_option maxRecDepth 100000 in
set_option maxHeartbeats 2000000 in
theorem deletefunc_any (w : World) (base n cap : Nat) (A : Option Addr) (ms : List Mv) (hown : w.ownsRow base 26 2 (.slice A n cap) n (mcells ms)) (hB : base ≤ w.heap.size) (hc : n ≤ 140737488351232) :
    Calls Try.prog 14 #[.slice A n cap, .func (.func 16) #[] #[]] w fun e w' => ∃ n', e = .returned (.slice A n' cap) ∧ w'.ownsRow base 26 2 (.slice A n' cap) n' (mcells (keptM ms)) ∧ Below base w w' := by
  have hlen : ms.length = n := by have := hown.1; rw [mcells_len] at this; omega
  obtain ⟨A', c', e1, hn1, hn2, hrd⟩ := own_any hown
  injection e1 with e1 e2 e3
  subst e1 e3
  have hix := index_any A n cap ms w w.heap.size hrd hlen hn1 hc (Nat.le_refl _) 16 #[] (fun x => x.1 == x.2) eg_dup (fun W m _ => by simpa using dup_any W m)
  unfold maxLen at hn2
  by_cases hall : ∀ x ∈ ms, (x.1 == x.2) = false
  · rw [idxM_none hall] at hix
    have hk : keptM ms = ms := by unfold keptM; rw [List.filter_eq_self]; intro x hx; simp [hall x hx]
    have Hrd := Lib.hid hrd
    have Hix := Lib.hid hix
    have Hall := Lib.hid hall
    have Hk := Lib.hid hk
    have Hlen := Lib.hid hlen
    have Hown := Lib.hid hown
    have HB := Lib.hid hB
    clear hB hown hlen hk hall hix hrd
    go_enter Try.func14, Try.ntmps14
    go_wp2_with fail
    refine Hix.out.mono ?_
    rintro e w2 ⟨rfl, hb2⟩
    have hO := own_kept' Hown.out (only_of_below hb2 none) nofun
    have Hb2 := Lib.hid hb2
    have HO := Lib.hid hO
    clear hO hb2
    go_wp2_with fail
    go_ret
    exact ⟨n, rfl, by rw [Hk.out]; exact HO.out, Hb2.out.mono HB.out⟩
  · obtain ⟨k0, m0, hk0, hd0, hlt0, hbef⟩ := ms_split ms hall
    rw [hlen] at hlt0
    rw [idxM_hit hk0 hd0 hbef] at hix
    rcases hown.2 with ⟨h, h2⟩ | ⟨g, cap', cur, hv, hbase, hblk, hnc, hcm, hcs, hcur⟩
    · omega
    injection hv with hv1 hv2 hv3
    subst hv1 hv3
    have hB1 : Blk w g 26 cur := hblk
    have hI := (DfInv.start hB1 hcs hcur (Nat.le_of_lt hlt0) hlen hbef).skip hk0 hd0
    have hgl := hB1.lt
    have hk0m : ((k0 : Int) == -1) = false := by rw [beq_eq_false_iff_ne]; omega
    clear hcm
    have Hrd := Lib.hid hrd
    have Hix := Lib.hid hix
    have Hall := Lib.hid hall
    have Hlen := Lib.hid hlen
    have Hown := Lib.hid hown
    have HB := Lib.hid hB
    have Hbef := Lib.hid hbef
    have Hk0 := Lib.hid hk0
    have Hd0 := Lib.hid hd0
    have Hcs := Lib.hid hcs
    have Hcur := Lib.hid hcur
    have HI := Lib.hid hI
    have HB1 := Lib.hid hB1
    have Hv2 := Lib.hid hv2
    clear hv2 hB1 hI hcur hcs hd0 hk0 hbef hB hown hlen hall hix hrd
    clear hblk
    go_enter Try.func14, Try.ntmps14
    go_wp2_with fail
    refine Hix.out.mono ?_
    rintro e w2 ⟨rfl, hb2⟩
    have hI2 := HI.out.kept hb2
    have hg2 : w.grownBy w2 (some g) := only_of_below hb2 _
    have Hb2 := Lib.hid hb2
    have HI2 := Lib.hid hI2
    have Hg2 := Lib.hid hg2
    clear hg2 hI2 hb2
    go_wp2_with fail
    go_loopw [5, 6] (fun i j wq => ∃ k q : Nat, k ≤ n ∧ q < k ∧ i = .int .i64 q ∧ j = .int .i64 k ∧ DfInv wq g cap n k q ms ∧ w.grownBy wq (some g)) (fun _ j _ => n - (intOf j).toNat)
    case atStart => exact ⟨k0 + 1, k0, by omega, by omega, rfl, by go_num, HI2.out, Hg2.out⟩
    case round =>
      obtain ⟨k, q, hk, hqk, rfl, rfl, hJ, hgw⟩ := hrel
      have hsz := hgw.size
      by_cases hlt : k < n
      · have hltI : (k : Int) < n := by omega
        obtain ⟨m, hmk⟩ : ∃ m, ms[k]? = some m := ⟨_, List.getElem?_eq_getElem (by have := Hlen.out; omega)⟩
        obtain ⟨c0, c1⟩ := hJ.cells Hlen.out hmk
        obtain ⟨a, b⟩ := m
        have hal := (Below.refl wr.heap.size wr).alloc (Nat.le_refl _) (.cells #[.int .i64 a, .int .i64 b] 26)
        have hT := Blk.new wr 26 #[.int .i64 a, .int .i64 b]
        obtain ⟨V, hV⟩ : ∃ V, V = wr.alloc (.cells #[.int .i64 a, .int .i64 b] 26) := ⟨_, rfl⟩
        obtain ⟨T, hTT⟩ : ∃ T, T = wr.heap.size := ⟨_, rfl⟩
        rw [← hV] at hal hT
        rw [← hTT] at hT
        have hd := dup_any V (a, b)
        have hJV := hJ.kept hal
        have hgV : w.grownBy V (some g) := only_trans hgw (only_of_below hal _)
        obtain ⟨r, hpr⟩ : ∃ r, (a == b) = r := ⟨_, rfl⟩
        simp only at hd
        rw [hpr] at hd
        unfold magg at hd
        have kt0 := Blk.cell hT 0
        have kt1 := Blk.cell hT 1
        simp only [List.getElem?_toArray, List.getElem?_cons_zero, List.getElem?_cons_succ] at kt0 kt1
        have HJ := Lib.hid hJ
        have Hgw := Lib.hid hgw
        have Hmk := Lib.hid hmk
        have Hal := Lib.hid hal
        have HT := Lib.hid hT
        have HV := Lib.hid hV
        have HTT := Lib.hid hTT
        have Hd := Lib.hid hd
        have HJV := Lib.hid hJV
        have HgV := Lib.hid hgV
        have Hpr := Lib.hid hpr
        clear hpr hgV hJV hd hTT hV hT hal hmk hgw hJ
        go_upto_region 8 with fail
        rw [← HV.out, ← HTT.out]
        clear c0 c1
        go_wp2_with fail
        refine Hd.out.mono ?_
        rintro e w3 ⟨rfl, hb3⟩
        have hT3 := HT.out.below hb3 HT.out.lt
        have hJ3 := HJV.out.kept hb3
        have hg3 : w.grownBy w3 (some g) := only_trans HgV.out (only_of_below hb3 _)
        clear kt0 kt1
        have kt0 := Blk.cell hT3 0
        have kt1 := Blk.cell hT3 1
        simp only [List.getElem?_toArray, List.getElem?_cons_zero, List.getElem?_cons_succ] at kt0 kt1
        obtain ⟨f0, f1, ⟨x0, hx0⟩, ⟨x1, hx1⟩⟩ := hJ3.room (t := q) (by omega)
        have hs3 := hg3.size
        have HT3 := Lib.hid hT3
        have HJ3 := Lib.hid hJ3
        have Hg3 := Lib.hid hg3
        have Hb3 := Lib.hid hb3
        clear hb3 hg3 hJ3 hT3
        cases r
        · have hJn := HJ3.out.keep Hlen.out (by omega) Hmk.out Hpr.out hqk
          have hgn : w.grownBy (w3.setCells g (q * 2) [.int .i64 a, .int .i64 b]) (some g) := only_trans Hg3.out (grown_setCells _ _ _ _)
          have HJn := Lib.hid hJn
          have Hgn := Lib.hid hgn
          clear hgn hJn
          go_wp2_with fail
          exact ⟨⟨k + 1, q + 1, by omega, by omega, by go_num, by go_num, HJn.out, Hgn.out⟩, by simp [intOf]; omega⟩
        · have hJn := HJ3.out.skip Hmk.out Hpr.out
          have HJn := Lib.hid hJn
          clear hJn
          go_wp2_with fail
          exact ⟨⟨k + 1, q, by omega, by omega, rfl, by go_num, HJn.out, Hg3.out⟩, by simp [intOf]; omega⟩
      · obtain rfl : k = n := by omega
        obtain ⟨cur2, j1, j2, j3, j4, j5⟩ := hJ
        have ek : ms.take k = ms := List.take_of_length_le (by have := Hlen.out; omega)
        rw [ek] at j3 j4
        clear ek
        have hcl : ∀ ty, (Builtin.clear_ #[24] ty #[.slice (some ⟨g, q * 2, none⟩) (k - q) (cap - q)]).run Try.prog wr = .ok (.tuple #[]) (wr.setCells g (q * 2) (List.replicate ((k - q) * 2) (.int .i64 0))) :=
          fun ty => run_clear_mv wr ty g _ _ _ (by omega) (fun t ht => by rw [j1.cell, Array.getElem?_eq_getElem (by omega)]; rfl) (fun t ht => j1.frozen _)
        have hB2 := Blk.setCells (List.replicate ((k - q) * 2) (.int .i64 0)) (q * 2) wr cur2 j1 (by simp; omega)
        have hg2 : w.grownBy (wr.setCells g (q * 2) (List.replicate ((k - q) * 2) (.int .i64 0))) (some g) := only_trans hgw (grown_setCells _ _ _ _)
        obtain ⟨W2, hW2⟩ : ∃ W2, W2 = wr.setCells g (q * 2) (List.replicate ((k - q) * 2) (.int .i64 0)) := ⟨_, rfl⟩
        rw [← hW2] at hB2 hg2 hcl
        have hfin : W2.ownsRow base 26 2 (.slice (some ⟨g, 0, none⟩) q cap) q (mcells (keptM ms)) := by
          refine ⟨by rw [mcells_len, ← j3], .inr ⟨g, cap, _, rfl, hbase, hB2, by omega, by unfold maxLen; omega, by simp; omega, ?_⟩⟩
          simp only
          rw [List.append_assoc, List.take_left' (by simp; omega)]
          exact j4
        have hbl : Below base w W2 := ⟨hg2.os, hg2.tape, hg2.output, hg2.size, fun i hi => hg2.block i (by have := HB.out; omega) (by intro e; injection e with e; omega)⟩
        have hqc : q ≤ cap := by omega
        have Hfin := Lib.hid hfin
        have Hbl := Lib.hid hbl
        have Hgw := Lib.hid hgw
        have HW2 := Lib.hid hW2
        have HB2 := Lib.hid hB2
        have Hg2 := Lib.hid hg2
        have J1 := Lib.hid j1
        have J2 := Lib.hid j2
        have J3 := Lib.hid j3
        have J4 := Lib.hid j4
        have J5 := Lib.hid j5
        clear j5 j4 j3 j2 j1 hg2 hB2 hW2 hgw hbl hfin
        go_wp2_with fail
        trace_state
        go_ret
        exact ⟨q, rfl, Hfin.out, Hbl.out⟩
end Go.Proofs.Ytopifdkkmchoeaa
