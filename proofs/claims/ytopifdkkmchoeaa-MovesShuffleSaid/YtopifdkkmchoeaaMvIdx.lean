/- Walks of the questions about moves, and of slices.IndexFunc and ContainsFunc at moves. Conditions: the moves lie in memory. -/
import Derived.Test.YtopifdkkmchoeaaMvP
import Derived.WalkKit
import Derived.WalkSpells
import Derived.BigQuiet
import Derived.Deep.CutBlock
import Derived.Deep.DeepMust
import Derived.Deep.DeepCutAuto
import Derived.Shelf.Abstract
set_option linter.unusedVariables false
set_option linter.unusedSimpArgs false
namespace Go.Proofs.Ytopifdkkmchoeaa
open Go.RowKit

def magg (m : Mv) : Value := .agg #[.int .i64 m.1, .int .i64 m.2]
theorem dup_any (w : World) (m : Mv) : Calls Try.prog 16 #[magg m] w fun e w' => e = .returned (.bool (m.1 == m.2)) ∧ Below w.heap.size w w' := by
  obtain ⟨a, b⟩ := m
  simp only [magg]
  go_enter Try.func16, Try.ntmps16
  go_wp2_with fail
  go_ret
  exact ⟨rfl, (Below.refl _ _).alloc (Nat.le_refl _) _⟩
theorem asks_any (w : World) (m n : Mv) (M : Nat) (hM : Blk w M 26 #[.int .i64 m.1, .int .i64 m.2]) : Calls Try.prog 20 #[magg n, .pointer (some ⟨M, 0, none⟩)] w fun e w' => e = .returned (.bool (n.2 == m.1)) ∧ Below w.heap.size w w' := by
  obtain ⟨a, b⟩ := m
  obtain ⟨c, d⟩ := n
  have hT := hM.alloc (.cells #[.int .i64 c, .int .i64 d] 26)
  have kt0 := Blk.cell hT 0
  simp only [List.getElem?_toArray, List.getElem?_cons_zero, List.getElem?_cons_succ] at kt0
  simp only [magg]
  have HM := Lib.hid hM
  have HT := Lib.hid hT
  clear hT hM
  go_enter Try.func20, Try.ntmps20
  go_wp2_with fail
  go_ret
  exact ⟨rfl, (Below.refl _ _).alloc (Nat.le_refl _) _⟩
def idxM (p : Mv → Bool) (ms : List Mv) : Int := match ms.findIdx? p with | some i => i | none => -1
theorem idxM_hit {p : Mv → Bool} {ms : List Mv} {k : Nat} {m : Mv} (h : ms[k]? = some m) (hp : p m = true) (hn : ∀ x ∈ ms.take k, p x = false) : idxM p ms = k := by
  have e : ms.findIdx? p = some k := by
    obtain ⟨hl, rfl⟩ := List.getElem?_eq_some_iff.1 h
    rw [List.findIdx?_eq_some_iff_getElem]
    refine ⟨hl, hp, fun j hj => ?_⟩
    have h2 : j < (ms.take k).length := by simp; omega
    have h3 := hn (ms.take k)[j] (List.getElem_mem h2)
    rw [List.getElem_take] at h3
    simp [h3]
  unfold idxM; rw [e]
theorem idxM_none {p : Mv → Bool} {ms : List Mv} (hn : ∀ x ∈ ms, p x = false) : idxM p ms = -1 := by
  have e : ms.findIdx? p = none := by rw [List.findIdx?_eq_none_iff]; exact hn
  unfold idxM; rw [e]
set_option maxRecDepth 100000 in
set_option maxHeartbeats 2000000 in
theorem index_any (A : Option Addr) (n c : Nat) (ms : List Mv) (w : World) (B : Nat) (hr : Reads w B 2 A n (mcells ms)) (hl : ms.length = n) (hn : n ≤ c) (hc : n ≤ 140737488351232) (hB : B ≤ w.heap.size)
    (F : Nat) (cb : Array Value) (p : Mv → Bool) (eg : ∀ args w, (callFunc F args).run Try.prog w = .ok (.enter F args) w) (hp : ∀ (W : World) (m : Mv), Below w.heap.size w W → Calls Try.prog F (#[magg m] ++ cb) W fun e W' => e = .returned (.bool (p m)) ∧ Below W.heap.size W W') :
    Calls Try.prog 17 #[.slice A n c, .func (.func F) #[] cb] w fun e w' => e = .returned (.int .i64 (idxM p ms)) ∧ Below w.heap.size w w' := by
  have Hr := Lib.hid hr
  have Hl := Lib.hid hl
  have Hp := Lib.hid hp
  have HB := Lib.hid hB
  clear hB hp hl hr
  go_enter Try.func17, Try.ntmps17
  go_wp2_with fail
  go_loopw [8] (fun i wq => ∃ k : Nat, k ≤ n ∧ i = .int .i64 k ∧ Below w.heap.size w wq ∧ Hid (∀ x ∈ ms.take k, p x = false)) (fun i _ => n - (intOf i).toNat)
  case atStart => exact ⟨0, by omega, rfl, Below.refl _ _, by intro x hx; simp at hx⟩
  case round =>
    obtain ⟨k, hk, rfl, hbq, hall⟩ := hrel
    by_cases hlt : k < n
    · have hltI : (k : Int) < n := by omega
      obtain ⟨m, hmk⟩ : ∃ m, ms[k]? = some m := ⟨_, List.getElem?_eq_getElem (by have := Hl.out; omega)⟩
      obtain ⟨ad, hA, hadB, hce⟩ := (Hr.out.below (hbq.mono HB.out)).2 (by omega)
      subst hA
      obtain ⟨q1, q2⟩ := mcells_get ms k m hmk
      have c0 := hce _ _ q1
      have c1 := hce _ _ q2
      rw [← addr_sub ad (k * 2) 1 (by omega)] at c1
      have hpw := Hp.out wr m hbq
      obtain ⟨r, hpr⟩ : ∃ r, p m = r := ⟨_, rfl⟩
      rw [hpr] at hpw
      obtain ⟨a, b⟩ := m
      have htake : ms.take (k + 1) = ms.take k ++ [(a, b)] := by rw [List.take_add_one, hmk]; rfl
      have hsz := hbq.size
      have Hmk := Lib.hid hmk
      have Hpw := Lib.hid hpw
      have Hpr := Lib.hid hpr
      have Hbq := Lib.hid hbq
      have Hall := Lib.hid hall
      have Htake := Lib.hid htake
      clear htake hall hbq hpr hpw hmk
      clear hce q1 q2
      cases r
      · go_wp2_with fail
        refine Hpw.out.mono ?_
        rintro e w2 ⟨rfl, hb2⟩
        have hbn := Hbq.out.trans (hb2.mono Hbq.out.size)
        have Hbn := Lib.hid hbn
        clear hbn
        clear hb2
        go_wp2_with fail
        refine ⟨⟨k + 1, by omega, by go_num, Hbn.out, ?_⟩, by simp [intOf]; omega⟩
        rw [Htake.out]
        intro x hx
        rcases List.mem_append.1 hx with h | h
        · exact Hall.out x h
        · simp at h; rw [h]; exact Hpr.out
      · go_wp2_with fail
        refine Hpw.out.mono ?_
        rintro e w2 ⟨rfl, hb2⟩
        have hbn := Hbq.out.trans (hb2.mono Hbq.out.size)
        have Hbn := Lib.hid hbn
        clear hbn
        clear hb2
        go_wp2_with fail
        go_ret
        rw [idxM_hit Hmk.out Hpr.out Hall.out]
        exact ⟨rfl, Hbn.out⟩
    · obtain rfl : k = n := by omega
      have hltI : ¬ (k : Int) < k := by omega
      rw [List.take_of_length_le (by have := Hl.out; omega)] at hall
      have Hbq := Lib.hid hbq
      have Hall := Lib.hid hall
      clear hall hbq
      go_wp2_with fail
      go_ret
      rw [idxM_none Hall.out]
      exact ⟨rfl, Hbq.out⟩
end Go.Proofs.Ytopifdkkmchoeaa
