/- Walk of the reader's number. Conditions: the bytes lie in memory below the reader's own box. -/
import Derived.Test.YtcaefdfdngecdaaEnc1
set_option linter.unusedVariables false
set_option linter.unusedSimpArgs false
namespace Go.Proofs.Ytcaefdfdngecdaa
open Go.RowKit

def Byte (x : Int) : Prop := 0 ≤ x ∧ x < 256
/-- a reader's two cells -/
def RAt (w : World) (R : Nat) (sv : Value) (bad : Bool) : Prop := Blk w R 54 #[sv, .bool bad]
theorem KindsAt.nil (w : World) (B : Nat) : KindsAt w B (.slice none 0 0) [] := ⟨none, 0, 0, rfl, Nat.le_refl _, Nat.zero_le _, rfl, Reads.none_⟩
theorem kinds_end {w : World} {B n k : Nat} {A : Option Addr} {rest : List Int} (hl : rest.length = n) (hk : k ≤ n) (hn : n ≤ k) : KindsAt w B (.slice A (n - k) 0) (rest.drop k) := by
  obtain rfl : n = k := by omega
  refine ⟨A, n - n, 0, rfl, by omega, by unfold maxLen; omega, by simp [hl], by simp [List.drop_of_length_le, hl, kindVals], fun h => by omega⟩
theorem kinds_cut {w : World} {B n c k : Nat} {A : Option Addr} {rest : List Int} (h : Reads w B 1 A n (kindVals rest)) (hl : rest.length = n) (hk : k ≤ n) (hc : n ≤ c) (hm : c ≤ 2 ^ 63 - 1) (hne : c ≠ k) :
    KindsAt w B (.slice (A.map (·.add k)) (n - k) (c - k)) (rest.drop k) := by
  have hr := h.cut hk hc
  rw [if_neg hne, Nat.mul_one] at hr
  refine ⟨_, _, _, rfl, by omega, by unfold maxLen; omega, by simp [hl], ?_⟩
  rw [kindVals, List.map_drop]
  exact hr
set_option maxRecDepth 100000 in
set_option maxHeartbeats 400000 in
theorem number_short (R B k : Nat) (sv : Value) (bad : Bool) (rest : List Int) (w : World) (hR : RAt w R sv bad) (hs : KindsAt w B sv rest) (hk : k ≤ 8) (hlt : rest.length < k) :
    Calls Try.prog 20 #[.pointer (some ⟨R, 0, none⟩), .int .i64 k] w fun e w' => e = .returned (.int .u64 0) ∧ RAt w' R (.slice none 0 0) true ∧ w.grownBy w' (some R) := by
  obtain ⟨A, n, c, rfl, hnc, hc, hl, hr⟩ := hs
  unfold maxLen at hc
  rw [hl] at hlt
  have k0 := Blk.cell hR 0
  have k1 := Blk.cell hR 1
  have f0 := Blk.frozen hR 0
  have f1 := Blk.frozen hR 1
  simp only [List.getElem?_toArray, List.getElem?_cons_zero, List.getElem?_cons_succ] at k0 k1
  have HR := Lib.hid hR
  clear hR hr hl
  go_enter Try.func20, Try.ntmps20
  go_wp2_with fail
  go_ret
  refine ⟨rfl, ?_, ?_⟩
  · exact ((Blk.set_ HR.out 1 (.bool true)).set_ 0 (.slice none 0 0))
  · exact only_setCell (g := R) (only_setCell (g := R) (World.grownBy.refl w _) (p := ⟨R, 1, none⟩) (.inl rfl) _) (p := ⟨R, 0, none⟩) (.inl rfl) _
set_option maxRecDepth 100000 in
set_option maxHeartbeats 400000 in
theorem number_long (R B k : Nat) (sv : Value) (bad : Bool) (rest : List Int) (w : World) (hR : RAt w R sv bad) (hs : KindsAt w B sv rest) (hb : ∀ x ∈ rest, Byte x) (hBR : B ≤ R) (hk : k ≤ 8) (hle : k ≤ rest.length) :
    Calls Try.prog 20 #[.pointer (some ⟨R, 0, none⟩), .int .i64 k] w fun e w' => e = .returned (.int .u64 (leV (rest.take k))) ∧ ∃ sv', RAt w' R sv' bad ∧ KindsAt w' B sv' (rest.drop k) ∧ w.grownBy w' (some R) := by
  obtain ⟨A, n, c, rfl, hnc, hc, hl, hr⟩ := hs
  unfold maxLen at hc
  rw [hl] at hle
  have k0 := Blk.cell hR 0
  have k1 := Blk.cell hR 1
  have f0 := Blk.frozen hR 0
  simp only [List.getElem?_toArray, List.getElem?_cons_zero, List.getElem?_cons_succ] at k0 k1
  have HR := Lib.hid hR
  have HL := Lib.hid hl
  have HS := Lib.hid hr
  have d0 : decide ((n : Int) < k) = false := by simp only [decide_eq_false_iff_not]; omega
  clear hR hr hl
  go_enter Try.func20, Try.ntmps20
  go_wp2_with fail
  go_loop [5, 28] (fun v i => ∃ j : Nat, j ≤ k ∧ i = .int .i64 j ∧ v = .int .u64 (leV (rest.take j))) (fun _ i => k - (intOf i).toNat)
  case atStart => exact ⟨0, by omega, rfl, by simp [leV]⟩
  case round =>
    obtain ⟨j, hj, rfl, rfl⟩ := hrel
    by_cases hlt : j < k
    · obtain ⟨x, hxk⟩ : ∃ x, rest[j]? = some x := ⟨_, List.getElem?_eq_getElem (by have := HL.out; omega)⟩
      obtain ⟨ad, u, rfl, _, hu, hce⟩ := HS.out.at_ (k := j) (by omega)
      rw [kindVals, List.getElem?_map, hxk] at hu
      injection hu with hu
      subst hu
      have hxm := hb x (List.mem_of_getElem? hxk)
      have hlen : (rest.take j).length = j := by have := HL.out; simp; omega
      have hbd := leV_bd (rest.take j) (fun y hy => hb y (List.mem_of_mem_take hy))
      rw [hlen] at hbd
      have H1 : Hid (leV (rest.take (j + 1)) = bits .or .u64 (leV (rest.take j)) (IntKind.u64.wrap (x * 2 ^ (8 * j)))) := by
        rw [or_step _ _ j (by omega) hbd.1 hbd.2 hxm.1 hxm.2, List.take_add_one, hxk, Option.toList, leV_snoc, hlen]
        exact rfl
      obtain ⟨hx0, hx1⟩ := hxm
      clear hlen hbd hxk
      go_wp2_with fail
      exact ⟨⟨j + 1, by omega, by go_num, by rw [H1.out]⟩, by simp [intOf]; omega⟩
    · obtain rfl : k = j := by omega
      go_wp2_with fail
      all_goals
        go_ret
        refine ⟨rfl, _, Blk.set_ HR.out 0 _, ?_, only_setCell (g := R) (World.grownBy.refl w _) (p := ⟨R, 0, none⟩) (.inl rfl) _⟩
        first
          | exact kinds_end (HL.out) (by omega) (by omega)
          | exact (kinds_cut HS.out HL.out (by omega) (by omega) hc (by omega)).keep (fun p hp => World.cell?_setCell_other w ⟨R, 0, none⟩ p _ (fun e => by subst e; simp at hp; omega))
          | trace_state
/-- so many bytes as a number -/
def num (k : Nat) (r : List Int) : Option (Int × List Int) := if r.length < k then none else some (leV (r.take k), r.drop k)
/-- a reader that stands at its bytes -/
structure RIn (w : World) (R B : Nat) (sv : Value) (bad : Bool) (rest : List Int) : Prop where
  cells : RAt w R sv bad
  bytes : KindsAt w B sv rest
  byte : ∀ x ∈ rest, Byte x
theorem RIn.grown {w w' : World} {R B : Nat} {sv : Value} {bad : Bool} {rest : List Int} {row : Option Nat} (h : RIn w R B sv bad rest) (hg : w.grownBy w' row) (hB : B ≤ w.heap.size) (hr : ∀ g, row = some g → B ≤ g ∧ g ≠ R) : RIn w' R B sv bad rest :=
  ⟨h.cells.grown hg (fun e => (hr _ e.symm).2 rfl), h.bytes.keep (fun p hp => World.cell?_of_block (hg.block p.block (by omega) (fun e => by have := (hr _ e.symm).1; omega))), h.byte⟩
theorem RIn.alloc {w : World} {R B : Nat} {sv : Value} {bad : Bool} {rest : List Int} (h : RIn w R B sv bad rest) (hB : B ≤ w.heap.size) (o : Obj) : RIn (w.alloc o) R B sv bad rest :=
  h.grown (World.grownBy_alloc w o none) hB (fun _ e => by cases e)
theorem RIn.far {w : World} {R B : Nat} {sv : Value} {bad : Bool} {rest : List Int} (h : RIn w R B sv bad rest) {p : Addr} (hB : B ≤ p.block) (hp : R ≠ p.block) (u : Value) : RIn (w.setCell p u) R B sv bad rest :=
  ⟨h.cells.far hp u, h.bytes.keep (fun q hq => World.cell?_setCell_other w p q u (fun e => by subst e; omega)), h.byte⟩
theorem RIn.bad_ {w : World} {R B : Nat} {sv : Value} {bad : Bool} {rest : List Int} (h : RIn w R B sv bad rest) (hB : B ≤ R) (b : Bool) : RIn (w.setCell ⟨R, 1, none⟩ (.bool b)) R B sv b rest :=
  ⟨Blk.set_ h.cells 1 (.bool b), h.bytes.keep (fun q hq => World.cell?_setCell_other w ⟨R, 1, none⟩ q _ (fun e => by subst e; simp at hq; omega)), h.byte⟩
theorem number_any (R B k : Nat) (sv : Value) (bad : Bool) (rest : List Int) (w : World) (h : RIn w R B sv bad rest) (hBR : B ≤ R) (hk : k ≤ 8) (K : Int) (hK : K = k) :
    Calls Try.prog 20 #[.pointer (some ⟨R, 0, none⟩), .int .i64 K] w fun e w' => ∃ v sv' bad' rest', e = .returned (.int .u64 v) ∧ 0 ≤ v ∧ v < 256 ^ k ∧ RIn w' R B sv' bad' rest' ∧ w.grownBy w' (some R) ∧
      (if bad then none else num k rest) = if bad' then none else some (v, rest') := by
  subst hK
  by_cases hlt : rest.length < k
  · refine (number_short R B k sv bad rest w h.cells h.bytes hk hlt).mono ?_
    rintro e w' ⟨rfl, h1, h2⟩
    refine ⟨0, _, true, [], rfl, by omega, Int.pow_pos (by omega), ⟨h1, KindsAt.nil _ _, fun x hx => by cases hx⟩, h2, ?_⟩
    simp [num, hlt]
  · refine (number_long R B k sv bad rest w h.cells h.bytes h.byte hBR hk (by omega)).mono ?_
    rintro e w' ⟨rfl, sv', h1, h2, h3⟩
    have hbd := leV_bd (rest.take k) (fun x hx => h.byte x (List.mem_of_mem_take hx))
    have hl : (rest.take k).length = k := by simp; omega
    rw [hl] at hbd
    refine ⟨_, sv', bad, rest.drop k, rfl, hbd.1, hbd.2, ⟨h1, h2, fun x hx => h.byte x (List.mem_of_mem_drop hx)⟩, h3, ?_⟩
    simp [num, hlt]
theorem st_step {α β : Type} {D : Option β} {G : α → Option β} {bad bad' : Bool} {X : Option α} {x : α} (hD : D = if bad then none else X.bind G) (h : (if bad then none else X) = if bad' then none else some x) : D = if bad' then none else G x := by
  cases bad <;> cases bad' <;> simp_all
theorem st_or {β : Type} {D : Option β} {bad b : Bool} {X : Option β} (hD : D = if bad then none else (if b then none else X)) : D = if bad || b then none else X := by
  cases bad <;> cases b <;> simp_all
end Go.Proofs.Ytcaefdfdngecdaa
