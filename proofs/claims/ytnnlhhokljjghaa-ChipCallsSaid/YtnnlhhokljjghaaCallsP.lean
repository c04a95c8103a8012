/- ChipCalls: the machine's states through calls, frames and returns; each step leads to the next. Conditions: the machine lies in memory. -/
import Derived.Test.YtnnlhhokljjghaaFirstM
import Derived.Test.YtnnlhhokljjghaaStepA
import Derived.Test.YtnnlhhokljjghaaStepB
import Derived.Test.YtnnlhhokljjghaaStepC
import Derived.Test.YtnnlhhokljjghaaStepG
import Derived.Test.YtnnlhhokljjghaaStepH
import Derived.Test.YtnnlhhokljjghaaEnter
set_option linter.unusedVariables false
set_option linter.unusedSimpArgs false
namespace Go.Proofs.Ytnnlhhokljjghaa
open Go.RowKit

def callL (d n : Int) : List MInstD := [⟨1, 0, 0, 0, d⟩, ⟨9, 0, 0, 0, 3⟩, ⟨13, 0, 1, 0, 99⟩, ⟨11, 0, 0, 0, n⟩, ⟨6, 1, 1, 0, 1⟩, ⟨6, 0, 0, 0, -1⟩, ⟨8, 0, 0, 0, 8⟩, ⟨9, 0, 0, 0, 3⟩, ⟨12, 0, 0, 0, n⟩, ⟨10, 0, 0, 0, 0⟩]
def regsC (r0 r1 s : Int) : List Int := [r0, r1, 0, 0, 0, 0, 0, 0, 0, 0, 0, 0, 0, 0, s, 0]
/-- where the t-th return's place lies -/
def retAt (m t : Nat) : Nat := 8191 - t * (m + 1)
def RetsAt (m : Nat) (ws : List Int) (t : Nat) : Prop := ∀ u, u ≤ t → ws[retAt m u]? = some (if u = 0 then 2 else 8)
def CallInv (d m : Nat) (i : Nat) (r0 r1 : Int) (sp pc : Nat) (ws : List Int) : Prop :=
  (i = 0 ∧ pc = 0 ∧ r1 = 0 ∧ sp = 8192) ∨ (i = 1 ∧ pc = 1 ∧ r0 = d ∧ r1 = 0 ∧ sp = 8192) ∨
  (∃ t, t < d ∧ RetsAt m ws t ∧
    ((i = 2 + 5 * t ∧ pc = 3 ∧ r0 = d - t ∧ r1 = t ∧ sp = retAt m t) ∨
     (i = 3 + 5 * t ∧ pc = 4 ∧ r0 = d - t ∧ r1 = t ∧ sp + m = retAt m t) ∨
     (i = 4 + 5 * t ∧ pc = 5 ∧ r0 = d - t ∧ r1 = t + 1 ∧ sp + m = retAt m t) ∨
     (i = 5 + 5 * t ∧ pc = 6 ∧ r0 = d - t - 1 ∧ r1 = t + 1 ∧ sp + m = retAt m t) ∨
     (t + 1 < d ∧ i = 6 + 5 * t ∧ pc = 7 ∧ r0 = d - t - 1 ∧ r1 = t + 1 ∧ sp + m = retAt m t) ∨
     (i + 2 * t = 7 * d - 1 ∧ pc = 8 ∧ r1 = d ∧ sp + m = retAt m t) ∨
     (i + 2 * t = 7 * d ∧ pc = 9 ∧ r1 = d ∧ sp = retAt m t))) ∨
  (i = 7 * d + 1 ∧ pc = 2 ∧ r1 = d ∧ sp = 8192)
theorem retAt_bd {d m t : Nat} (hd : d ≤ 40) (hm : m < 100) (ht : t < d) : 4200 ≤ retAt m t ∧ retAt m t < 8192 := by
  have h : t * (m + 1) ≤ 39 * 100 := Nat.mul_le_mul (by omega) (by omega)
  unfold retAt
  omega
theorem retAt_succ {d m t : Nat} (hd : d ≤ 40) (hm : m < 100) (ht : t + 1 < d) : retAt m (t + 1) + m + 1 = retAt m t := by
  have h : (t + 1) * (m + 1) ≤ 39 * 100 := Nat.mul_le_mul (by omega) (by omega)
  unfold retAt
  rw [Nat.succ_mul] at h ⊢
  omega
theorem retAt_lt {d m u t : Nat} (hd : d ≤ 40) (hm : m < 100) (hut : u < t) (ht : t < d) : retAt m t < retAt m u := by
  have h : t * (m + 1) ≤ 39 * 100 := Nat.mul_le_mul (by omega) (by omega)
  have h2 : u * (m + 1) < t * (m + 1) := Nat.mul_lt_mul_of_pos_right hut (by omega)
  unfold retAt
  omega
def CallSt (w : World) (lo p : Nat) (A : Option Addr) (c : Nat) (sv : Value) (d m : Nat) (i : Nat) : Prop :=
  ∃ r0 r1 sp pc ws, ChipAt w lo p (.slice A (callL d (8 * m)).length c) sv (regsC r0 r1 (4096 + 8 * (sp : Nat))) (pc : Nat) 4096 ws ∧ CodeM w lo A c (callL d (8 * m)) ∧ ws.length = 8192 ∧ CallInv d m i r0 r1 sp pc ws
/-- at a frame -/
def EntSt (w : World) (lo p : Nat) (A : Option Addr) (c : Nat) (sv : Value) (d m : Nat) (i : Nat) : Prop :=
  ∃ r0 r1 sp ws t, ChipAt w lo p (.slice A (callL d (8 * m)).length c) sv (regsC r0 r1 (4096 + 8 * (sp : Nat))) (3 : Nat) 4096 ws ∧ CodeM w lo A c (callL d (8 * m)) ∧ ws.length = 8192 ∧ t < d ∧ RetsAt m ws t ∧ i = 2 + 5 * t ∧ r0 = d - t ∧ r1 = t ∧ sp = retAt m t
def DoneSt (w : World) (lo p : Nat) (A : Option Addr) (c : Nat) (sv : Value) (d m : Nat) : Prop :=
  ∃ r0 ws, ChipAt w lo p (.slice A (callL d (8 * m)).length c) sv (regsC r0 d 69632) 3 4096 ws
theorem call_step {w : World} {lo p : Nat} {A : Option Addr} {c : Nat} {sv : Value} {d m i : Nat} (hd0 : 0 < d) (hd : d ≤ 40) (hm : m < 100) (h : CallSt w lo p A c sv d m i) :
    Calls Try.prog 16 #[.pointer (some ⟨p, 0, none⟩)] w fun e w' => ((e = .returned (.agg #[.int .i64 0, .int .i64 0, .int .i64 0, .int .i64 0, .int .i64 0]) ∧ CallSt w' lo p A c sv d m (i + 1)) ∨
      (e = .returned (.agg #[.int .i64 2, .int .i64 0, .int .i64 0, .int .i64 0, .int .i64 (8 * m)]) ∧ EntSt w' lo p A c sv d m i) ∨
      (e = .returned (.agg #[.int .i64 1, .int .i64 0, .int .i64 1, .int .i64 0, .int .i64 99]) ∧ DoneSt w' lo p A c sv d m)) ∧ Below lo w w' := by
  obtain ⟨r0, r1, sp, pc, ws, hC, hM, hws, hs⟩ := h
  have fin : ∀ {r0' r1' s : Int} {sp' pc' : Nat} {ws' : List Int} {e : Ending} {w' : World}, StepTo w lo p (.slice A (callL d (8 * m)).length c) sv 4096 0 0 0 0 0 (regsC r0' r1' s) (pc' : Nat) ws' e w' → s = 4096 + 8 * (sp' : Nat) → ws'.length = 8192 → CallInv d m (i + 1) r0' r1' sp' pc' ws' →
      ((e = .returned (.agg #[.int .i64 0, .int .i64 0, .int .i64 0, .int .i64 0, .int .i64 0]) ∧ CallSt w' lo p A c sv d m (i + 1)) ∨
      (e = .returned (.agg #[.int .i64 2, .int .i64 0, .int .i64 0, .int .i64 0, .int .i64 (8 * m)]) ∧ EntSt w' lo p A c sv d m i) ∨
      (e = .returned (.agg #[.int .i64 1, .int .i64 0, .int .i64 1, .int .i64 0, .int .i64 99]) ∧ DoneSt w' lo p A c sv d m)) ∧ Below lo w w' := fun h1 h2 h3 h4 =>
    ⟨.inl ⟨h1.1, _, _, _, _, _, h2 ▸ h1.2.1, hM.below (hC.keepP h1.2.2) hC.loLt, h3, h4⟩, hC.keepP h1.2.2⟩
  rcases hs with ⟨rfl, rfl, rfl, rfl⟩ | ⟨rfl, rfl, rfl, rfl, rfl⟩ | ⟨t, ht, hr, hs⟩ | ⟨rfl, rfl, rfl, rfl⟩
  · exact (step_li hC hM (Nat.le_refl _) rfl (i := ⟨1, 0, 0, 0, d⟩) rfl rfl).mono fun e w' h => fin (r0' := d % 18446744073709551616) (r1' := 0) (sp' := 8192) (pc' := 1) h rfl hws (.inr (.inl ⟨rfl, rfl, by omega, rfl, rfl⟩))
  · refine (step_call_ok hC hM (Nat.le_refl _) rfl (i := ⟨9, 0, 0, 0, 3⟩) rfl 8191 (by omega) (by show (4096 + 8 * ((8192 : Nat) : Int) - 8) % 18446744073709551616 = 4096 + 8 * ((8191 : Nat) : Int); omega) rfl).mono fun e w' h => fin (r0' := d) (r1' := 0) (sp' := 8191) (pc' := 3) h rfl (by rw [List.length_set]; exact hws) (.inr (.inr (.inl ⟨0, by omega, ?_, .inl ⟨by omega, rfl, by simp, rfl, by simp [retAt]⟩⟩)))
    intro u hu
    have : u = 0 := by omega
    subst this
    rw [show retAt m 0 = 8191 by simp [retAt], List.getElem?_set_self (by omega)]
    rfl
  · have hbd := retAt_bd hd hm ht
    rcases hs with ⟨rfl, rfl, h0, h1, h2⟩ | ⟨rfl, rfl, h0, h1, h2⟩ | ⟨rfl, rfl, h0, h1, h2⟩ | ⟨rfl, rfl, h0, h1, h2⟩ | ⟨ht1, rfl, rfl, h0, h1, h2⟩ | ⟨hi, rfl, h1, h2⟩ | ⟨hi, rfl, h1, h2⟩
    · refine (step_enter hC hM (Nat.le_refl _) rfl (i := ⟨11, 0, 0, 0, 8 * m⟩) rfl rfl).mono fun e w' h => ?_
      exact ⟨.inr (.inl ⟨h.1, r0, r1, sp, ws, t, h.2.1, hM.below (hC.keepP h.2.2) hC.loLt, hws, ht, hr, rfl, h0, h1, h2⟩), hC.keepP h.2.2⟩
    · exact (step_addi hC hM (Nat.le_refl _) rfl (i := ⟨6, 1, 1, 0, 1⟩) rfl rfl).mono fun e w' h => fin (r0' := r0) (r1' := (r1 + 1) % 18446744073709551616) (sp' := sp) (pc' := 5) h rfl hws (.inr (.inr (.inl ⟨t, ht, hr, .inr (.inr (.inl ⟨by omega, rfl, h0, by omega, h2⟩))⟩)))
    · exact (step_addi hC hM (Nat.le_refl _) rfl (i := ⟨6, 0, 0, 0, -1⟩) rfl rfl).mono fun e w' h => fin (r0' := (r0 + -1) % 18446744073709551616) (r1' := r1) (sp' := sp) (pc' := 6) h rfl hws (.inr (.inr (.inl ⟨t, ht, hr, .inr (.inr (.inr (.inl ⟨by omega, rfl, by omega, h1, h2⟩)))⟩)))
    · by_cases htd : t + 1 < d
      · exact (step_bz1 hC hM (Nat.le_refl _) rfl (i := ⟨8, 0, 0, 0, 8⟩) rfl (show r0 ≠ 0 by omega) rfl).mono fun e w' h => fin (sp' := sp) (pc' := 7) h rfl hws (.inr (.inr (.inl ⟨t, ht, hr, .inr (.inr (.inr (.inr (.inl ⟨htd, by omega, rfl, h0, h1, h2⟩))))⟩)))
      · exact (step_bz0 hC hM (Nat.le_refl _) rfl (i := ⟨8, 0, 0, 0, 8⟩) rfl (show r0 = 0 by omega) rfl).mono fun e w' h => fin (sp' := sp) (pc' := 8) h rfl hws (.inr (.inr (.inl ⟨t, ht, hr, .inr (.inr (.inr (.inr (.inr (.inl ⟨by omega, rfl, by omega, h2⟩)))))⟩)))
    · have hsu := retAt_succ hd hm ht1
      refine (step_call_ok hC hM (Nat.le_refl _) rfl (i := ⟨9, 0, 0, 0, 3⟩) rfl (sp - 1) (by omega) (by show (4096 + 8 * (sp : Int) - 8) % 18446744073709551616 = 4096 + 8 * ((sp - 1 : Nat) : Int); omega) rfl).mono fun e w' h => fin (r0' := r0) (r1' := r1) (sp' := sp - 1) (pc' := 3) h rfl (by rw [List.length_set]; exact hws) (.inr (.inr (.inl ⟨t + 1, ht1, ?_, .inl ⟨by omega, rfl, by omega, by omega, by omega⟩⟩)))
      intro u hu
      rw [show sp - 1 = retAt m (t + 1) by omega]
      by_cases hut : u = t + 1
      · subst hut
        have := retAt_bd hd hm ht1
        rw [List.getElem?_set_self (by omega), if_neg (by omega)]
        rfl
      · have := retAt_lt hd hm (show u < t + 1 by omega) ht1
        rw [List.getElem?_set_ne (by omega)]
        exact hr u (by omega)
    · exact (step_leave hC hM (Nat.le_refl _) rfl (i := ⟨12, 0, 0, 0, 8 * m⟩) rfl rfl).mono fun e w' h => fin (r0' := r0) (r1' := r1) (s := (4096 + 8 * (sp : Int) + 8 * m) % 18446744073709551616) (sp' := sp + m) (pc' := 9) h (by omega) hws (.inr (.inr (.inl ⟨t, ht, hr, .inr (.inr (.inr (.inr (.inr (.inr ⟨by omega, rfl, h1, h2⟩)))))⟩)))
    · have hv := hr t (Nat.le_refl _)
      rw [← h2] at hv
      cases t with
      | zero =>
        have hsp : sp = 8191 := by rw [h2]; simp [retAt]
        exact (step_ret_ok hC hM (Nat.le_refl _) rfl (i := ⟨10, 0, 0, 0, 0⟩) rfl sp 2 hv (by omega) rfl rfl).mono fun e w' h => fin (r0' := r0) (r1' := r1) (s := (4096 + 8 * (sp : Int) + 8) % 18446744073709551616) (sp' := 8192) (pc' := 2) h (by omega) hws (.inr (.inr (.inr ⟨by omega, rfl, h1, rfl⟩)))
      | succ t =>
        have hsu := retAt_succ hd hm ht
        exact (step_ret_ok hC hM (Nat.le_refl _) rfl (i := ⟨10, 0, 0, 0, 0⟩) rfl sp 8 hv (by omega) rfl rfl).mono fun e w' h => fin (r0' := r0) (r1' := r1) (s := (4096 + 8 * (sp : Int) + 8) % 18446744073709551616) (sp' := sp + 1) (pc' := 8) h (by omega) hws (.inr (.inr (.inl ⟨t, by omega, fun u hu => hr u (by omega), .inr (.inr (.inr (.inr (.inr (.inl ⟨by omega, rfl, h1, by omega⟩)))))⟩)))
  · refine (step_sys hC hM (Nat.le_refl _) rfl (i := ⟨13, 0, 1, 0, 99⟩) rfl rfl).mono fun e w' h => ?_
    exact ⟨.inr (.inr ⟨h.1, r0, ws, h.2.1⟩), hC.keepP h.2.2⟩
theorem ent_step {w : World} {lo p : Nat} {A : Option Addr} {c : Nat} {sv : Value} {d m i : Nat} (hd : d ≤ 40) (hm : m < 100) (h : EntSt w lo p A c sv d m i) :
    Calls Try.prog 20 #[.pointer (some ⟨p, 0, none⟩)] w fun e w' => e = .returned (.bool true) ∧ CallSt w' lo p A c sv d m (i + 1) ∧ Below lo w w' := by
  obtain ⟨r0, r1, sp, ws, t, hC, hM, hws, ht, hr, hi, h0, h1, h2⟩ := h
  have hbd := retAt_bd hd hm ht
  refine (enter_in hC hM rfl (k := 3) (i := ⟨11, 0, 0, 0, 8 * m⟩) rfl rfl (by show ¬ 4096 + 8 * (sp : Int) < 4096 + 8 * m; omega) (by show ¬ 4096 + 8 * (ws.length : Int) < 4096 + 8 * sp; omega)).mono fun e w' h => ?_
  obtain ⟨he, hC2, hK⟩ := h
  have hb := hC.keepB hK
  refine ⟨he, ⟨r0, r1, sp - m, 4, ws, ?_, hM.below hb hC.loLt, hws, .inr (.inr (.inl ⟨t, ht, hr, .inr (.inl ⟨by omega, rfl, h0, h1, by omega⟩)⟩))⟩, hb⟩
  rw [show (4096 + 8 * ((sp - m : Nat) : Int)) = 4096 + 8 * (sp : Int) - 8 * m by omega]
  exact hC2
theorem call_left {w : World} {lo p : Nat} {A : Option Addr} {c : Nat} {sv : Value} {d m i : Nat} (hd0 : 0 < d) (h : CallSt w lo p A c sv d m i) : i < 20 * d + 20 := by
  obtain ⟨r0, r1, sp, pc, ws, hC, hM, hws, hs⟩ := h
  rcases hs with ⟨rfl, rfl, rfl, rfl⟩ | ⟨rfl, rfl, rfl, rfl, rfl⟩ | ⟨t, ht, hr, hs⟩ | ⟨rfl, rfl, rfl, rfl⟩
  · omega
  · omega
  · rcases hs with ⟨rfl, _⟩ | ⟨rfl, _⟩ | ⟨rfl, _⟩ | ⟨rfl, _⟩ | ⟨ht1, rfl, _⟩ | ⟨hi, _⟩ | ⟨hi, _⟩ <;> omega
  · omega
theorem CallSt.alloc {w : World} {lo p : Nat} {A : Option Addr} {c : Nat} {sv : Value} {d m i : Nat} (h : CallSt w lo p A c sv d m i) (o : Obj) : CallSt (w.alloc o) lo p A c sv d m i := by
  obtain ⟨r0, r1, sp, pc, ws, hC, hM, h3, h4⟩ := h
  exact ⟨r0, r1, sp, pc, ws, hC.alloc o, hM.below ((Below.refl lo w).alloc hC.loLt o) hC.loLt, h3, h4⟩
theorem EntSt.alloc {w : World} {lo p : Nat} {A : Option Addr} {c : Nat} {sv : Value} {d m i : Nat} (h : EntSt w lo p A c sv d m i) (o : Obj) : EntSt (w.alloc o) lo p A c sv d m i := by
  obtain ⟨r0, r1, sp, ws, t, hC, hM, h3⟩ := h
  exact ⟨r0, r1, sp, ws, t, hC.alloc o, hM.below ((Below.refl lo w).alloc hC.loLt o) hC.loLt, h3⟩
end Go.Proofs.Ytnnlhhokljjghaa
