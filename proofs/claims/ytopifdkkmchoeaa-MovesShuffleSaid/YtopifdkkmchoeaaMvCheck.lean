/- Walk of the check of moves. Conditions: the moves lie in memory. -/
import Derived.Test.YtopifdkkmchoeaaMvP
import Derived.WalkKit
import Derived.WalkSpells
import Derived.Maps.OwnOps
import Derived.Maps.Views
import Derived.BigQuiet
import Derived.Deep.CutBlock
import Derived.Deep.DeepMust
import Derived.Deep.DeepCutAuto
set_option linter.unusedVariables false
set_option linter.unusedSimpArgs false
namespace Go.Proofs.Ytopifdkkmchoeaa
open Go.RowKit Go.Maps

theorem zeroI (w : World) : (zeroValue 3).run Try.prog w = .ok (.int .i64 0) w := by kernel_rfl
/-- how often a place has been seen -/
def Counted (D : DataW Unit) (l : List Int) : Prop := IsMap D ∧ ∀ a : Int, D.atKey (.int .i64 a) (.lit (.int .i64 0)) = .lit (.int .i64 (l.count a : Nat))
theorem counted_nil : Counted (.map []) [] := ⟨isMap_empty, fun a => rfl⟩
theorem Counted.put {D : DataW Unit} {l : List Int} {a c : Int} (h : Counted D l) (hc : c = ((l.count a : Nat) : Int) + 1) : Counted (D.put (.int .i64 a) (.lit (.int .i64 c))) (l ++ [a]) := by
  subst hc
  refine ⟨h.1.put _ _, fun b => ?_⟩
  by_cases e : b = a
  · subst e
    rw [atKey_put_same (k := .int .i64 b) h.1 trivial]
    simp [List.count_append]
  · rw [atKey_put_other (by intro h2; injection h2 with _ h2; exact e h2), h.2 b]
    have e2 : ¬ a = b := fun h => e h.symm
    simp [List.count_append, List.count_singleton, e2]
def I64 (n : Int) : Prop := -9223372036854775808 ≤ n ∧ n ≤ 9223372036854775807
theorem wf_of_i64 {a : Int} (h : I64 a) : (Lit.int .i64 a).wf = true := by
  show (decide (IntKind.i64.min ≤ a) && decide (a ≤ IntKind.i64.max)) = true
  rw [decide_eq_true (show IntKind.i64.min ≤ a from h.1), decide_eq_true (show a ≤ IntKind.i64.max from h.2)]; rfl
theorem nodup_snoc {l : List Int} {a : Int} (h : l.Nodup) (ha : a ∉ l) : (l ++ [a]).Nodup := by
  rw [List.nodup_append]
  exact ⟨h, by simp, fun x hx y hy e => by simp at hy; subst hy; exact ha (e ▸ hx)⟩
theorem ret_bool {a b : Bool} (h : a = b) : Ending.returned (.bool a) = .returned (.bool b) := by rw [h]
set_option maxRecDepth 100000 in
set_option maxHeartbeats 2000000 in
theorem check_any (A : Option Addr) (n c : Nat) (ms : List Mv) (s : Int) (w : World) (B : Nat) (hr : Reads w B 2 A n (mcells ms)) (hl : ms.length = n) (hn : n ≤ c) (hc : n ≤ 140737488351232) (hB : B ≤ w.heap.size) (hi : ∀ m ∈ ms, I64 m.1 ∧ I64 m.2) :
    Calls Try.prog 13 #[.slice A n c, .int .i64 s] w fun e w' => e = .returned (.bool (decide (okM ms s))) ∧ Below w.heap.size w w' := by
  obtain ⟨r, hR⟩ : ∃ r, decide (okM ms s) = r := ⟨_, rfl⟩
  rw [hR]
  have hmm := @run_makeMap Try.prog
  obtain ⟨Mb, hMb⟩ : ∃ Mb, Mb = w.heap.size := ⟨_, rfl⟩
  have hmap0 : (w.alloc (.map #[] 0)).ownsMap Try.prog 3 (plainElem (H := Unit) Try.prog 3) Mb 0 (.map []) := by rw [hMb]; exact World.ownsMap_made _ _ _ _
  have hb0 := (Below.refl w.heap.size w).alloc (Nat.le_refl _) (.map #[] 0)
  have Hr := Lib.hid hr
  have Hl := Lib.hid hl
  have Hi := Lib.hid hi
  have HR := Lib.hid hR
  have HB := Lib.hid hB
  have Hmap0 := Lib.hid hmap0
  have HMb := Lib.hid hMb
  have Hb0 := Lib.hid hb0
  clear hb0 hMb hmap0 hB hR hi hl hr
  go_enter Try.func13, Try.ntmps13
  go_wp2_with fail
  rw [← HMb.out]
  go_loopw [11] (fun i wq => ∃ k : Nat, k ≤ n ∧ i = .int .i64 k ∧ Below w.heap.size w wq ∧ ∃ D : DataW Unit, wq.ownsMap Try.prog 3 (plainElem Try.prog 3) Mb k D ∧ Hid (Counted D ((ms.take k).map (·.1))) ∧ Hid ((∀ m ∈ ms.take k, goodM s m) ∧ ((ms.take k).map (·.1)).Nodup)) (fun i _ => n - (intOf i).toNat)
  case atStart => exact ⟨0, by omega, rfl, Hb0.out, _, Hmap0.out, counted_nil, by simp, by simp⟩
  case round =>
    obtain ⟨k, hk, rfl, hbq, D, hmap, hcnt, hok⟩ := hrel
    by_cases hlt : k < n
    · have hltI : (k : Int) < n := by omega
      obtain ⟨m, hmk⟩ : ∃ m, ms[k]? = some m := ⟨_, List.getElem?_eq_getElem (by have := Hl.out; omega)⟩
      obtain ⟨a, b⟩ := m
      have hrq := Hr.out.below (hbq.mono HB.out)
      obtain ⟨ad, hA, hadB, hce⟩ := hrq.2 (by omega)
      subst hA
      obtain ⟨q1, q2⟩ := mcells_get ms k (a, b) hmk
      have c0 := hce _ _ q1
      have c1 := hce _ _ q2
      rw [← addr_sub ad (k * 2) 1 (by omega)] at c1
      have hm := List.mem_of_getElem? hmk
      obtain ⟨ha, hb⟩ := Hi.out _ hm
      have hsz := hbq.size
      have hwa := wf_of_i64 ha
      have hal := (Below.refl wr.heap.size wr).alloc (Nat.le_refl _) (.cells #[.int .i64 a, .int .i64 b] 26)
      have hbV := hbq.trans (hal.mono hsz)
      have hT := Blk.new wr 26 #[.int .i64 a, .int .i64 b]
      have hmapV := hmap.alloc (.cells #[.int .i64 a, .int .i64 b] 26)
      have hMbT : Mb < wr.heap.size := hmap.lt
      obtain ⟨V, hV⟩ : ∃ V, V = wr.alloc (.cells #[.int .i64 a, .int .i64 b] 26) := ⟨_, rfl⟩
      obtain ⟨T, hTT⟩ : ∃ T, T = wr.heap.size := ⟨_, rfl⟩
      rw [← hV] at hbV hT hmapV hal
      rw [← hTT] at hT hMbT
      obtain ⟨cc, hrun, hat, hwc⟩ := hmapV.lookup_int (int_keyed Try.underlying3) Try.underlying70 Try.underlying3 (zeroI V) (key := .int .i64 a) (keyOf_int_mk Try.underlying3 hwa)
      have hcc : cc = ((((ms.take k).map (·.1)).count a : Nat) : Int) := by
        have h := (hcnt.out.2 a).symm.trans hat
        injection h with h
        injection h with _ h
        exact h.symm
      have hcle : ((ms.take k).map (·.1)).count a ≤ 1 := List.nodup_iff_count.1 hok.out.2 a
      have hc0 : 0 ≤ cc := by omega
      have hc1 : cc ≤ 1 := by omega
      have hsV := hbV.size
      have kt0 := Blk.cell hT 0
      have kt1 := Blk.cell hT 1
      simp only [List.getElem?_toArray, List.getElem?_cons_zero, List.getElem?_cons_succ] at kt0 kt1
      have htake : ms.take (k + 1) = ms.take k ++ [(a, b)] := by rw [List.take_add_one, hmk]; rfl
      have Hrq := Lib.hid hrq
      have Hmk := Lib.hid hmk
      have Hm := Lib.hid hm
      have Ha := Lib.hid ha
      have Hb := Lib.hid hb
      have Hcnt := Lib.hid hcnt
      have Hok := Lib.hid hok
      have HV := Lib.hid hV
      have HTT := Lib.hid hTT
      have HbV := Lib.hid hbV
      have HT := Lib.hid hT
      have Hmap := Lib.hid hmap
      have Hbq := Lib.hid hbq
      have Hat := Lib.hid hat
      have Hcc := Lib.hid hcc
      have Htake := Lib.hid htake
      have Hal := Lib.hid hal
      have Hcle := Lib.hid hcle
      clear hcle hal htake hcc hat hbq hmap hT hbV hTT hV hok hcnt hb ha hm hmk hrq
      clear hce q1 q2
      go_upto_region 5 with fail
      rw [← HV.out, ← HTT.out]
      go_upto_region 6 with (first
        | (at_mapUpdate; refine wpList_mapUpdate_own _ rfl _ _ _ 70 rfl 3 3 (int_keyed Try.underlying3) Try.underlying70 _ Mb k _ rfl hmapV (by unfold maxLen; omega) _ _ _ rfl rfl (keyOf_int_mk Try.underlying3 hwa) _ [] (plainElem_int Try.underlying3 (by first | exact wrap64_wf _ | exact wf_of_i64 (by unfold I64; omega))) ?_; intro w8 hmap8 hg8))
      have hT8 := HT.out.grown hg8 (by intro e; injection e with e; omega)
      have hb8 := HbV.out.grown hg8 (by omega) (fun g e => by injection e with e; have := HMb.out; omega)
      have hcnt8 := Counted.put (a := a) (c := cc + 1) Hcnt.out (by rw [Hcc.out])
      obtain ⟨c8, hrun8, hat8, hwc8⟩ := hmap8.lookup_int (int_keyed Try.underlying3) Try.underlying70 Try.underlying3 (zeroI w8) (key := .int .i64 a) (keyOf_int_mk Try.underlying3 hwa)
      have hc8 : c8 = cc + 1 := by
        rw [atKey_put_same (k := .int .i64 a) Hcnt.out.1 trivial] at hat8
        injection hat8 with h
        injection h with _ h
        exact h.symm
      clear kt0 kt1
      have kt0 := Blk.cell hT8 0
      have kt1 := Blk.cell hT8 1
      simp only [List.getElem?_toArray, List.getElem?_cons_zero, List.getElem?_cons_succ] at kt0 kt1
      have HT8 := Lib.hid hT8
      have Hb8 := Lib.hid hb8
      have Hcnt8 := Lib.hid hcnt8
      have Hat8 := Lib.hid hat8
      have Hc8 := Lib.hid hc8
      have Hwc8 := Lib.hid hwc8
      have Hmap8 := Lib.hid hmap8
      clear hmap8 hwc8 hc8 hat8 hcnt8 hb8 hT8
      clear hg8 hrun hmapV hwa hwc
      have hbad : ¬ (goodM s (a, b) ∧ a ∉ (ms.take k).map (·.1)) → false = r := fun h => by
        rw [← HR.out]
        refine (decide_eq_false fun h2 => h ⟨h2.1 _ Hm.out, fun h3 => ?_⟩).symm
        have h4 := h2.2.1
        rw [← List.take_append_drop (k + 1) ms, Htake.out, List.map_append, List.map_append, List.nodup_append] at h4
        obtain ⟨h5, _, _⟩ := h4
        rw [List.nodup_append] at h5
        exact h5.2.2 a h3 a (by simp) rfl
      have hmem : 1 ≤ cc → a ∈ (ms.take k).map (·.1) := fun h => by
        refine List.count_pos_iff.1 ?_
        have := Hcc.out
        omega
      have hnmem : ¬ 1 ≤ cc → a ∉ (ms.take k).map (·.1) := fun h h2 => by
        have h3 := List.count_pos_iff.2 h2
        have := Hcc.out
        omega
      have Hbad := Lib.hid hbad
      have Hmem := Lib.hid hmem
      have Hnmem := Lib.hid hnmem
      clear hnmem hmem hbad
      by_cases x1 : a < 0
      · go_wp2_with fail
        go_ret
        exact ⟨ret_bool (Hbad.out fun h => by have := h.1.1; simp only at this; omega), Hb8.out⟩
      by_cases x2 : b < 0
      · go_wp2_with fail
        go_ret
        exact ⟨ret_bool (Hbad.out fun h => by have := h.1.2.1; simp only at this; omega), Hb8.out⟩
      by_cases x3 : a = s
      · have y3 : (a == s) = true := by simp [x3]
        have HX3 := Lib.hid x3
        clear x3
        go_wp2_with fail
        go_ret
        exact ⟨ret_bool (Hbad.out fun h => h.1.2.2.1 HX3.out), Hb8.out⟩
      have y3 : (a == s) = false := by rw [beq_eq_false_iff_ne]; exact x3
      by_cases x4 : b = s
      · have y4 : (b == s) = true := by simp [x4]
        have HX3 := Lib.hid x3
        have HX4 := Lib.hid x4
        clear x4 x3
        go_wp2_with fail
        go_ret
        exact ⟨ret_bool (Hbad.out fun h => h.1.2.2.2 HX4.out), Hb8.out⟩
      have y4 : (b == s) = false := by rw [beq_eq_false_iff_ne]; exact x4
      have HX3 := Lib.hid x3
      have HX4 := Lib.hid x4
      clear x4 x3
      by_cases x5 : 1 < c8
      · go_wp2_with fail
        go_ret
        exact ⟨ret_bool (Hbad.out fun h => h.2 (Hmem.out (by have := Hc8.out; omega))), Hb8.out⟩
      · go_wp2_with fail
        refine ⟨⟨k + 1, by omega, by go_num, Hb8.out, _, Hmap8.out, ?_, ?_, ?_⟩, by simp [intOf]; omega⟩
        · have h := Hcnt8.out
          rw [Htake.out, List.map_append]
          exact h
        · rw [Htake.out]
          intro y hy
          rcases List.mem_append.1 hy with h | h
          · exact Hok.out.1 y h
          · simp at h; subst h
            exact ⟨by simp only; omega, by simp only; omega, HX3.out, HX4.out⟩
        · rw [Htake.out, List.map_append]
          exact nodup_snoc Hok.out.2 (Hnmem.out (by have := Hc8.out; omega))
    · obtain rfl : k = n := by omega
      have hltI : ¬ (k : Int) < k := by omega
      rw [List.take_of_length_le (by have := Hl.out; omega)] at hok
      have hfin : decide (0 ≤ s) = r := by
        rw [← HR.out, decide_eq_decide]
        exact ⟨fun h => ⟨hok.out.1, hok.out.2, h⟩, fun h => h.2.2⟩
      have Hbq := Lib.hid hbq
      have Hok := Lib.hid hok
      have Hcnt := Lib.hid hcnt
      have Hmap := Lib.hid hmap
      have Hfin := Lib.hid hfin
      clear hfin hmap hcnt hok hbq
      go_wp2_with fail
      go_ret
      exact ⟨ret_bool Hfin.out, Hbq.out⟩
end Go.Proofs.Ytopifdkkmchoeaa
