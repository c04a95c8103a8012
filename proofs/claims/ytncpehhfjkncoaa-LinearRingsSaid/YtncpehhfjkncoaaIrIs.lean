/- Walks of the checker's small questions: a cell, places of a kind, lists. Conditions: the checker and the lists lie in memory. -/
import Derived.Test.YtncpehhfjkncoaaIrD
set_option linter.unusedVariables false
set_option linter.unusedSimpArgs false
namespace Go.Proofs.Ytncpehhfjkncoaa
open Go.RowKit

def cellB (g : GraphD) (n : Int) : Bool := decide (0 ≤ n) && decide (n < g.cells)
def fitsB (g : GraphD) (bound : Bool) (k p : Int) : Bool := decide (0 ≤ p) && decide (p < g.kinds.length) && (bound || decide (g.kinds.getD p.toNat 0 = k))
def isB (g : GraphD) (bound : Bool) (k : Int) (ps : List Int) : Bool := ps.all (fitsB g bound k)
section
variable {w : World} {B cb : Nat} {allv : Value} {gs : List GraphD} {ga : Addr} {g : GraphD} {pv kv iv nv : Value} {bound : Bool}
set_option maxRecDepth 100000 in
set_option maxHeartbeats 400000 in
theorem cell_any (h : Ck w B cb allv gs ga g pv kv iv nv bound) (n : Int) :
    Calls Try.prog 39 #[.pointer (some ⟨cb, 0, none⟩), .int .i64 n] w fun e w' => e = .returned (.bool (cellB g n)) ∧ w = w' := by
  have kc1 := Blk.cell h.blk 1
  simp only [List.getElem?_toArray, List.getElem?_cons_zero, List.getElem?_cons_succ] at kc1
  have k2 := h.gm.c2
  clear h
  obtain ⟨r, hr⟩ : ∃ r, cellB g n = r := ⟨_, rfl⟩
  have hcase : (¬ 0 ≤ n ∧ r = false) ∨ (0 ≤ n ∧ ¬ n < g.cells ∧ r = false) ∨ (0 ≤ n ∧ n < g.cells ∧ r = true) := by
    rw [← hr]
    unfold cellB
    by_cases h1 : 0 ≤ n
    · by_cases h2 : n < g.cells
      · exact .inr (.inr ⟨h1, h2, by simp [h1, h2]⟩)
      · exact .inr (.inl ⟨h1, h2, by simp [h2]⟩)
    · exact .inl ⟨h1, by simp [h1]⟩
  rw [hr]
  clear hr
  rcases hcase with ⟨c0, rfl⟩ | ⟨c0, c1, rfl⟩ | ⟨c0, c1, rfl⟩
  all_goals
    go_enter Try.func39, Try.ntmps39
    go_wp2_with fail
    go_ret
    exact ⟨rfl, rfl⟩
set_option maxRecDepth 100000 in
set_option maxHeartbeats 2000000 in
theorem is_any (h : Ck w B cb allv gs ga g pv kv iv nv bound) (k : Int) (D : Nat) (A : Option Addr) (m c : Nat) (ps : List Int) (hP : Reads w D 1 A m (ps.map (Value.int .i64))) (hm : ps.length = m) (hmc : m ≤ 140737488351232) :
    Calls Try.prog 41 #[.pointer (some ⟨cb, 0, none⟩), .int .u8 k, .slice A m c] w fun e w' => e = .returned (.bool (isB g bound k ps)) ∧ w = w' := by
  have kc1 := Blk.cell h.blk 1
  have kc2 := Blk.cell h.blk 2
  simp only [List.getElem?_toArray, List.getElem?_cons_zero, List.getElem?_cons_succ] at kc1 kc2
  obtain ⟨KA, kc', hkv, _, _, hK⟩ := h.gm.kinds.slice
  subst hkv
  have k1 := h.gm.c1
  obtain ⟨r, hr⟩ : ∃ r, isB g bound k ps = r := ⟨_, rfl⟩
  rw [hr]
  obtain ⟨L, hL⟩ : ∃ L, g.kinds.length = L := ⟨_, rfl⟩
  rw [hL] at k1 hK
  have H := Lib.hid h
  have HP := Lib.hid hP
  have Hm := Lib.hid hm
  have Hr := Lib.hid hr
  have HK := Lib.hid hK
  have HL := Lib.hid hL
  clear hL hK hr hm hP h
  go_enter Try.func41, Try.ntmps41
  go_wp2_with fail
  go_loopw [11] (fun i wq => ∃ j : Nat, j ≤ m ∧ i = .int .i64 j ∧ wq = w ∧ Hid (∀ p ∈ ps.take j, fitsB g bound k p = true)) (fun i _ => m - (intOf i).toNat)
  case atStart => exact ⟨0, by omega, rfl, rfl, (show ∀ p ∈ ps.take 0, fitsB g bound k p = true from fun p hp => by simp at hp)⟩
  case round =>
    obtain ⟨j, hj, rfl, hwr, hall⟩ := hrel
    subst hwr
    by_cases hjm : j < m
    · obtain ⟨ad, u0, hA, _, hu0, hce⟩ := HP.out.at_ hjm
      subst hA
      obtain ⟨p, hpj, rfl⟩ : ∃ p, ps[j]? = some p ∧ u0 = .int .i64 p := by
        rw [List.getElem?_map, Option.map_eq_some_iff] at hu0
        obtain ⟨x, h1, h2⟩ := hu0
        exact ⟨x, h1, h2.symm⟩
      have hmem := List.mem_of_getElem? hpj
      have hstep : fitsB g bound k p = true → ∀ q ∈ ps.take (j + 1), fitsB g bound k q = true := fun hf q hq => by
        rw [List.take_add_one, hpj] at hq
        rcases List.mem_append.1 hq with hq | hq
        · exact hall.out q hq
        · simp at hq; rw [hq]; exact hf
      have hbad : fitsB g bound k p = false → r = false := fun hf => by
        rw [← Hr.out]
        unfold isB
        rcases hh : ps.all (fitsB g bound k) with _ | _
        · rfl
        · rw [List.all_eq_true.1 hh p hmem] at hf; cases hf
      by_cases c0 : 0 ≤ p
      · obtain ⟨P, rfl⟩ := Int.eq_ofNat_of_zero_le c0
        have c0' : ¬ (P : Int) < 0 := by omega
        clear c0
        by_cases c1 : P < L
        · have c1' : ¬ (L : Int) ≤ P := by omega
          have c1'' : (P : Int) < L := by omega
          obtain ⟨kad, ku, hkA, _, hku, hkc⟩ := HK.out.at_ c1
          subst hkA
          obtain ⟨kk, hkk, rfl⟩ : ∃ kk, g.kinds[P]? = some kk ∧ ku = .int .u8 kk := by
            rw [List.getElem?_map, Option.map_eq_some_iff] at hku
            obtain ⟨x, h1, h2⟩ := hku
            exact ⟨x, h1, h2.symm⟩
          have hfit : fitsB g bound k P = (bound || decide (kk = k)) := by
            unfold fitsB
            rw [HL.out, Int.toNat_natCast, List.getD_eq_getElem?_getD, hkk, Option.getD_some]
            simp [c1]
          rw [hfit] at hstep hbad
          clear hu0 hku
          cases bound
          · by_cases c2 : kk = k
            · have c2' : (kk != k) = false := by simp [c2]
              have hs := hstep (by simp [c2])
              have Hs := Lib.hid hs
              have Hall := Lib.hid hall
              have Hpj := Lib.hid hpj
              have Hmem := Lib.hid hmem
              have Hkk := Lib.hid hkk
              have Hfit := Lib.hid hfit
              have Hstep := Lib.hid hstep
              have Hbad := Lib.hid hbad
              have Hc2 := Lib.hid c2
              clear c2 hbad hstep hfit hkk hmem hpj hall hs
              go_wp2_with fail
              exact ⟨⟨j + 1, by omega, by go_num, trivial, Lib.hid Hs.out⟩, by simp [intOf]; omega⟩
            · have c2' : (kk != k) = true := by simp [c2]
              have hs := hbad (by simp [c2])
              have Hs := Lib.hid hs
              have Hall := Lib.hid hall
              have Hpj := Lib.hid hpj
              have Hmem := Lib.hid hmem
              have Hkk := Lib.hid hkk
              have Hfit := Lib.hid hfit
              have Hstep := Lib.hid hstep
              have Hbad := Lib.hid hbad
              have Hc2 := Lib.hid c2
              clear c2 hbad hstep hfit hkk hmem hpj hall hs
              go_wp2_with fail
              go_ret
              rw [Hs.out]
              exact ⟨rfl, rfl⟩
          · have hs := hstep rfl
            have Hs := Lib.hid hs
            have Hall := Lib.hid hall
            have Hpj := Lib.hid hpj
            have Hmem := Lib.hid hmem
            have Hkk := Lib.hid hkk
            have Hfit := Lib.hid hfit
            have Hstep := Lib.hid hstep
            have Hbad := Lib.hid hbad
            clear hbad hstep hfit hkk hmem hpj hall hs
            go_wp2_with fail
            exact ⟨⟨j + 1, by omega, by go_num, trivial, Lib.hid Hs.out⟩, by simp [intOf]; omega⟩
        · have c1' : (L : Int) ≤ P := by omega
          have hs := hbad (by unfold fitsB; rw [HL.out]; simp [c1])
          have Hs := Lib.hid hs
          have Hall := Lib.hid hall
          have Hpj := Lib.hid hpj
          have Hmem := Lib.hid hmem
          have Hstep := Lib.hid hstep
          have Hbad := Lib.hid hbad
          clear hbad hstep hmem hpj hall hs
          clear hu0
          go_wp2_with fail
          go_ret
          rw [Hs.out]
          exact ⟨rfl, rfl⟩
      · have c0' : p < 0 := by omega
        have hs := hbad (by unfold fitsB; simp [c0])
        have Hs := Lib.hid hs
        have Hall := Lib.hid hall
        have Hpj := Lib.hid hpj
        have Hmem := Lib.hid hmem
        have Hstep := Lib.hid hstep
        have Hbad := Lib.hid hbad
        have Hc0 := Lib.hid c0
        clear c0 hbad hstep hmem hpj hall hs
        clear hu0
        go_wp2_with fail
        go_ret
        rw [Hs.out]
        exact ⟨rfl, rfl⟩
    · have hs : r = true := by
        rw [← Hr.out]
        unfold isB
        rw [List.take_of_length_le (by rw [Hm.out]; omega)] at hall
        exact List.all_eq_true.2 hall.out
      have Hs := Lib.hid hs
      have Hall := Lib.hid hall
      clear hall hs
      go_wp2_with fail
      go_ret
      rw [Hs.out]
      exact ⟨rfl, rfl⟩
end
set_option maxRecDepth 100000 in
set_option maxHeartbeats 1000000 in
theorem index_any (w : World) (D : Nat) (A : Option Addr) (m c : Nat) (ps : List Int) (hP : Reads w D 1 A m (ps.map (Value.int .i64))) (hm : ps.length = m) (hmc : m ≤ 140737488351232) (x : Int) :
    Calls Try.prog 51 #[.slice A m c, .int .i64 x] w fun e w' => (∃ n : Int, e = .returned (.int .i64 n) ∧ (0 ≤ n ↔ x ∈ ps)) ∧ w = w' := by
  have HP := Lib.hid hP
  have Hm := Lib.hid hm
  clear hm hP
  go_enter Try.func51, Try.ntmps51
  go_wp2_with fail
  go_loopw [8] (fun i wq => ∃ j : Nat, j ≤ m ∧ i = .int .i64 j ∧ wq = w ∧ Hid (x ∉ ps.take j)) (fun i _ => m - (intOf i).toNat)
  case atStart => exact ⟨0, by omega, rfl, rfl, (show x ∉ ps.take 0 by simp)⟩
  case round =>
    obtain ⟨j, hj, rfl, hwr, hall⟩ := hrel
    subst hwr
    by_cases hjm : j < m
    · obtain ⟨ad, u0, hA, _, hu0, hce⟩ := HP.out.at_ hjm
      subst hA
      obtain ⟨p, hpj, rfl⟩ : ∃ p, ps[j]? = some p ∧ u0 = .int .i64 p := by
        rw [List.getElem?_map, Option.map_eq_some_iff] at hu0
        obtain ⟨x, h1, h2⟩ := hu0
        exact ⟨x, h1, h2.symm⟩
      have hmem := List.mem_of_getElem? hpj
      by_cases hx : x = p
      · have hb : (x == p) = true := by simp [hx]
        have hin : x ∈ ps := hx ▸ hmem
        have Hall := Lib.hid hall
        have Hpj := Lib.hid hpj
        have Hmem := Lib.hid hmem
        have Hx := Lib.hid hx
        have Hin := Lib.hid hin
        clear hin hx hmem hpj hall
        clear hu0
        go_wp2_with fail
        go_ret
        exact ⟨⟨j, rfl, by simp [Hin.out]⟩, rfl⟩
      · have hb : (x == p) = false := by simp [hx]
        have hs : x ∉ ps.take (j + 1) := by
          rw [List.take_add_one, hpj]
          simp only [Option.toList, List.mem_append, List.mem_singleton]
          rintro (h | h)
          · exact hall.out h
          · exact hx h
        have Hall := Lib.hid hall
        have Hpj := Lib.hid hpj
        have Hmem := Lib.hid hmem
        have Hx := Lib.hid hx
        have Hs := Lib.hid hs
        clear hs hx hmem hpj hall
        clear hu0
        go_wp2_with fail
        exact ⟨⟨j + 1, by omega, by go_num, trivial, Lib.hid Hs.out⟩, by simp [intOf]; omega⟩
    · have hs : x ∉ ps := by
        rw [List.take_of_length_le (by rw [Hm.out]; omega)] at hall
        exact hall.out
      have Hs := Lib.hid hs
      have Hall := Lib.hid hall
      clear hall hs
      go_wp2_with fail
      go_ret
      exact ⟨⟨-1, rfl, by simp [Hs.out]⟩, rfl⟩
set_option maxRecDepth 100000 in
set_option maxHeartbeats 400000 in
theorem contains_any (w : World) (D : Nat) (A : Option Addr) (m c : Nat) (ps : List Int) (hP : Reads w D 1 A m (ps.map (Value.int .i64))) (hm : ps.length = m) (hmc : m ≤ 140737488351232) (x : Int) :
    Calls Try.prog 40 #[.slice A m c, .int .i64 x] w fun e w' => e = .returned (.bool (decide (x ∈ ps))) ∧ w = w' := by
  have HP := Lib.hid hP
  have Hm := Lib.hid hm
  clear hm hP
  go_enter Try.func40, Try.ntmps40
  go_wp2_with fail
  refine (index_any w D A m c ps HP.out Hm.out hmc x).mono ?_
  rintro e w1 ⟨⟨n, rfl, hn⟩, rfl⟩
  have Hn := Lib.hid hn
  clear hn
  go_wp2_with fail
  go_ret
  exact ⟨by simp [Hn.out], rfl⟩
set_option maxRecDepth 100000 in
set_option maxHeartbeats 400000 in
theorem ptr_any (w : World) (k : Int) : Calls Try.prog 38 #[.int .u8 k] w fun e w' => e = .returned (.bool (decide (1 < k))) ∧ w = w' := by
  go_enter Try.func38, Try.ntmps38
  go_wp2_with fail
  go_ret
  exact ⟨rfl, rfl⟩
end Go.Proofs.Ytncpehhfjkncoaa
