/- Walk of the document's tape: so many bytes as a number. Conditions: the bytes lie in memory below the tape's own box. -/
import Derived.Test.YtcaefdfdngecdaaPlainCode
import Derived.Test.YtcaefdfdngecdaaRefCopy
import Derived.Test.YtcaefdfdngecdaaDec3
import Derived.BigQuiet
import Derived.Deep.QuietTactic
set_option linter.unusedVariables false
set_option linter.unusedSimpArgs false
namespace Go.Proofs.Ytcaefdfdngecdaa
open Go.RowKit

/-- a tape over bytes, and how far it is read; -1: they ended too early -/
structure TIn (w : World) (T B : Nat) (A : Option Addr) (n c : Nat) (xs : List Int) (p : Int) : Prop where
  cells : Blk w T 59 #[.slice A n c, .int .i64 p]
  bytes : Reads w B 1 A n (kindVals xs)
  len : xs.length = n
  cap : n ≤ c ∧ n ≤ 140737488355000
  byte : ∀ x ∈ xs, Byte x
  pos : p = -1 ∨ 0 ≤ p ∧ p ≤ n
section
variable {w w' : World} {T B n c : Nat} {A : Option Addr} {xs : List Int} {p : Int}
theorem TIn.kept {row : Option Nat} (h : TIn w T B A n c xs p) (hg : w.grownBy w' row) (hB : B ≤ w.heap.size) (hr : ∀ g, row = some g → B ≤ g ∧ g ≠ T) : TIn w' T B A n c xs p :=
  ⟨h.cells.grown hg (fun e => (hr _ e.symm).2 rfl), h.bytes.keep (fun q hq => World.cell?_of_block (hg.block q.block (by omega) (fun e => by have := (hr _ e.symm).1; omega))), h.len, h.cap, h.byte, h.pos⟩
theorem TIn.below {L : Nat} (h : TIn w T B A n c xs p) (hb : Below L w w') (hT : T < L) (hB : B ≤ L) : TIn w' T B A n c xs p :=
  ⟨h.cells.below hb hT, h.bytes.below (hb.mono hB), h.len, h.cap, h.byte, h.pos⟩
theorem TIn.move (h : TIn w T B A n c xs p) (hBT : B ≤ T) (q : Int) (hq : q = -1 ∨ 0 ≤ q ∧ q ≤ n) : TIn (w.setCell ⟨T, 1, none⟩ (.int .i64 q)) T B A n c xs q :=
  ⟨Blk.set_ h.cells 1 (.int .i64 q), h.bytes.keep (fun a ha => World.cell?_setCell_other w ⟨T, 1, none⟩ a _ (fun e => by subst e; simp at ha; omega)), h.len, h.cap, h.byte, hq⟩
theorem TIn.drewN (h : TIn w T B A n c xs p) (m : Nat) : TIn (w.drewN m) T B A n c xs p := ⟨h.cells, h.bytes, h.len, h.cap, h.byte, h.pos⟩
theorem grown_move (w : World) (T m : Nat) (q : Value) : w.grownBy ((w.drewN m).setCell ⟨T, 1, none⟩ q) (some T) :=
  only_setCell (g := T) (show w.grownBy (w.drewN m) (some T) from ⟨rfl, rfl, rfl, Nat.le_refl _, fun _ _ _ => rfl⟩) (p := ⟨T, 1, none⟩) (.inl rfl) q
end
theorem leV_cons (x : Int) (l : List Int) : leV (x :: l) = x + 256 * leV l := rfl
set_option maxRecDepth 100000 in
set_option maxHeartbeats 1000000 in
theorem next_short (T B k : Nat) (A : Option Addr) (n c : Nat) (xs : List Int) (p : Int) (w : World) (h : TIn w T B A n c xs p) (hBT : B ≤ T) (hk : k ≤ 8) (hs : p < 0 ∨ (n : Int) < p + k) :
    Calls Try.prog 22 #[.pointer (some ⟨T, 0, none⟩), .int .i64 k] w fun e w' => e = .returned (.int .u64 0) ∧ TIn w' T B A n c xs (-1) ∧ w.grownBy w' (some T) := by
  have hm := fun m => (h.drewN m).move hBT (-1) (.inl rfl)
  have hp := h.pos
  have hc := h.cap
  have hcl := h.cells
  obtain ⟨hc0, hc1⟩ := hc
  have k0 := Blk.cell hcl 0
  have k1 := Blk.cell hcl 1
  simp only [List.getElem?_toArray, List.getElem?_cons_zero, List.getElem?_cons_succ] at k0 k1
  have f0 := Blk.frozen hcl 0
  have f1 := Blk.frozen hcl 1
  have Hm := Lib.hid hm
  clear hm
  clear hcl h
  by_cases hn : p < 0
  · have d0 : decide (p < 0) = true := by simpa using hn
    go_enter Try.func22, Try.ntmps22
    go_upto_region 1 with fail
    go_quiet (fail)
    go_wp2_with fail
    go_ret
    exact ⟨rfl, Hm.out _, grown_move w T _ _⟩
  · have d0 : decide (p < 0) = false := by simpa using hn
    have d1 : decide ((n : Int) < p + k) = true := by simp only [decide_eq_true_eq]; omega
    go_enter Try.func22, Try.ntmps22
    go_upto_region 1 with fail
    go_quiet (fail)
    go_wp2_with fail
    go_ret
    exact ⟨rfl, Hm.out _, grown_move w T _ _⟩
set_option maxRecDepth 100000 in
set_option maxHeartbeats 1000000 in
theorem next_long (T B k : Nat) (A : Option Addr) (n c : Nat) (xs : List Int) (p : Nat) (w : World) (h : TIn w T B A n c xs p) (hBT : B ≤ T) (hk : k ≤ 8) (hs : p + k ≤ n) :
    Calls Try.prog 22 #[.pointer (some ⟨T, 0, none⟩), .int .i64 k] w fun e w' => e = .returned (.int .u64 (leV ((xs.drop p).take k))) ∧ TIn w' T B A n c xs ((p + k : Nat) : Int) ∧ w.grownBy w' (some T) := by
  have hm := fun m => (h.drewN m).move hBT ((p + k : Nat) : Int) (.inr (by omega))
  have hc := h.cap
  have hcl := h.cells
  have hrd := h.bytes
  have hl := h.len
  have hby := h.byte
  obtain ⟨hc0, hc1⟩ := hc
  have k0 := Blk.cell hcl 0
  have k1 := Blk.cell hcl 1
  simp only [List.getElem?_toArray, List.getElem?_cons_zero, List.getElem?_cons_succ] at k0 k1
  have f0 := Blk.frozen hcl 0
  have f1 := Blk.frozen hcl 1
  obtain ⟨ys, hys⟩ : ∃ ys, (xs.drop p).take k = ys := ⟨_, rfl⟩
  have hyl : ys.length = k := by rw [← hys, List.length_take, List.length_drop]; omega
  have hyb : ∀ y ∈ ys, 0 ≤ y ∧ y < 256 := fun y hy => hby y (List.mem_of_mem_drop (List.mem_of_mem_take (by rw [hys]; exact hy)))
  have hyc : ∀ j y, ys[j]? = some y → ∃ ad, A = some ad ∧ w.cell? (ad.add (p + j)) = some (.int .u8 y) := by
    intro j y hj
    have hjl := (List.getElem?_eq_some_iff.1 hj).1
    rw [← hys, List.getElem?_take_of_lt (by omega), List.getElem?_drop] at hj
    obtain ⟨ad, u, hA, _, hu, hce⟩ := hrd.at_ (k := p + j) (by omega)
    rw [kindVals, List.getElem?_map, hj] at hu
    injection hu with hu
    subst hu
    exact ⟨ad, hA, hce⟩
  have d0 : decide ((p : Int) < 0) = false := by simp
  have d1 : decide ((n : Int) < (p : Int) + k) = false := by simp only [decide_eq_false_iff_not]; omega
  have Hm := Lib.hid hm
  have Hys := Lib.hid hys
  have Hyl := Lib.hid hyl
  have Hyc := Lib.hid hyc
  have Hyb := Lib.hid hyb
  clear hyb hyc hyl hys hm
  rw [Hys.out]
  clear hcl h hrd hl hby
  go_enter Try.func22, Try.ntmps22
  go_upto_region 1 with fail
  go_quiet (fail)
  go_wp2_with fail
  clear d0 d1
  go_loopw [5, 6] (fun x i wr => ∃ j m : Nat, j ≤ k ∧ wr = w.drewN m ∧ i = .int .i64 ((j : Int) - 1) ∧ x = .int .u64 (leV (ys.drop j))) (fun _ i _ => (intOf i + 1).toNat)
  case atStart => exact ⟨k, _, by omega, rfl, rfl, by rw [List.drop_of_length_le (by have := Hyl.out; omega)]; rfl⟩
  case round =>
    obtain ⟨j1, m, hj1, rfl, rfl, rfl⟩ := hrel
    by_cases hlt : 1 ≤ j1
    · obtain ⟨j, hj⟩ : ∃ j, j1 = j + 1 := ⟨j1 - 1, by omega⟩
      obtain ⟨x, hxk⟩ : ∃ x, ys[j]? = some x := ⟨_, List.getElem?_eq_getElem (by have := Hyl.out; omega)⟩
      obtain ⟨ad, hA, hce⟩ := Hyc.out j x hxk
      subst hA
      obtain ⟨hx0, hx1⟩ := Hyb.out x (List.mem_of_getElem? hxk)
      have hb := leV_bd (ys.drop j1) (fun y hy => Hyb.out y (List.mem_of_mem_drop hy))
      have hdl : (ys.drop j1).length = k - j1 := by have := Hyl.out; simp; omega
      rw [hdl] at hb
      have hp7 : (256 : Int) ^ (k - j1) ≤ 72057594037927936 := by
        rcases pow256_cases (k - j1) (by omega) with e | e | e | e | e | e | e | e <;> rw [e] <;> omega
      have HV : Hid (leV (ys.drop j) = x + 256 * leV (ys.drop j1)) := by
        show _ = _
        obtain ⟨h1, h2⟩ := List.getElem?_eq_some_iff.1 hxk
        rw [List.drop_eq_getElem_cons h1, h2, leV_cons, hj]
      obtain ⟨hb0, hb1⟩ := hb
      have hb2 : leV (ys.drop j1) < 72057594037927936 := by omega
      have hkj : (j1 : Int) - 1 = j := by omega
      have hj8 : (j : Int) < 8 := by omega
      have hj0 : (0 : Int) ≤ j := by omega
      have hjk : j < k := by omega
      have hpn : p + j < n := by omega
      rw [hkj]
      have Hj := Lib.hid hj
      clear hj
      clear hxk hdl hkj hb1 hp7
      generalize leV (ys.drop j1) = t at *
      go_upto_region 8 with fail
      go_quiet (fail)
      go_wp2_with fail
      refine ⟨⟨j, _, by omega, rfl, rfl, ?_⟩, by simp [intOf]⟩
      rw [HV.out]
      have e : ∀ y z : Int, y = z → Value.int IntKind.u64 y = Value.int IntKind.u64 z := fun y z h => by rw [h]
      exact e _ _ (by first | (rw [IntKind.wrap_u64, IntKind.wrap_u64]; omega) | omega)
    · obtain rfl : j1 = 0 := by omega
      go_wp2_with fail
      go_ret
      exact ⟨rfl, Hm.out _, grown_move w T _ _⟩
/-- so many bytes as a number, or the end -/
theorem next_any (T B k : Nat) (A : Option Addr) (n c : Nat) (xs : List Int) (p : Int) (w : World) (h : TIn w T B A n c xs p) (hBT : B ≤ T) (hk : k ≤ 8) (K : Int) (hK : K = k) :
    Calls Try.prog 22 #[.pointer (some ⟨T, 0, none⟩), .int .i64 K] w fun e w' => ∃ v q, e = .returned (.int .u64 v) ∧ 0 ≤ v ∧ v < 256 ^ k ∧ TIn w' T B A n c xs q ∧ w.grownBy w' (some T) ∧
      (if decide (p < 0) then none else num k (xs.drop p.toNat)) = if decide (q < 0) then none else some (v, xs.drop q.toNat) := by
  subst hK
  have hl := h.len
  by_cases hs : p < 0 ∨ (n : Int) < p + k
  · refine (next_short T B k A n c xs p w h hBT hk hs).mono ?_
    rintro e w' ⟨rfl, h1, h2⟩
    refine ⟨0, -1, rfl, by omega, Int.pow_pos (by omega), h1, h2, ?_⟩
    by_cases hp : p < 0
    · simp [hp]
    · have hlt : n - p.toNat < k := by have := h.pos; omega
      simp [hp, num, hl, hlt]
  · obtain ⟨P, rfl⟩ : ∃ P : Nat, p = P := ⟨p.toNat, by omega⟩
    refine (next_long T B k A n c xs P w h hBT hk (by omega)).mono ?_
    rintro e w' ⟨rfl, h1, h2⟩
    have hbd := leV_bd ((xs.drop P).take k) (fun x hx => h.byte x (List.mem_of_mem_drop (List.mem_of_mem_take hx)))
    have hl2 : ((xs.drop P).take k).length = k := by simp; omega
    rw [hl2] at hbd
    refine ⟨_, _, rfl, hbd.1, hbd.2, h1, h2, ?_⟩
    have hlt : ¬ (n - P < k) := by omega
    have e1 : decide ((P : Int) < 0) = false := by simp
    have e2 : decide (((P + k : Nat) : Int) < 0) = false := by simp only [decide_eq_false_iff_not]; omega
    rw [e1, e2]
    simp only [Bool.false_eq_true, if_false, Int.toNat_natCast, num, List.length_drop, hl, if_neg hlt, List.drop_drop]
end Go.Proofs.Ytcaefdfdngecdaa
