/- What is answered ahead of the laws of layouts. No condition. -/
import Derived.Test.YtopifdkkmchoeaaLayMain
set_option linter.unusedVariables false
set_option linter.unusedSimpArgs false
namespace Go.Proofs.Ytopifdkkmchoeaa
open Go.RowKit

theorem infoKindL : (Try.prog.info? 77).map (fun i => (i.zero, i.size, i.bytes)) = some (some (.int .u8 0), 1, 1) := by kernel_rfl
def kzero (n : Nat) : Array Value := madeCells #[.int .u8 0] n
theorem kzero_list (n : Nat) : (kzero n).toList = (List.replicate n (0 : Int)).map (Value.int .u8) := by
  unfold kzero
  rw [toList_madeCells_one]; simp
theorem nums_kzero {w : World} {K n : Nat} {t : TypeId} (h : Blk w K t (kzero n)) (hn : n ≤ maxLen) : NumsAt .u8 w w.heap.size (.slice (some ⟨K, 0, none⟩) n n) (List.replicate n 0) :=
  ⟨_, _, _, rfl, Nat.le_refl _, hn, by simp, Reads.of_blk h (kzero_list n) (by simp)⟩
theorem make_kinds (n : Nat) (hn : n ≤ 1000000) (W : World) : (Instr.makeSlice 41 (.int .i64 (n : Int)) (.int .i64 (n : Int))).run Try.prog W = .ok (.slice (some ⟨W.heap.size, 0, none⟩) n n) (W.alloc (.cells (kzero n) 77)) := by
  obtain ⟨ik, hik, hkz0, hkz1, hkz2⟩ := info_parts infoKindL
  have h := run_make_rowN (P := Try.prog) 41 77 ik _ Try.underlying41 hik hkz0 .i64 .i64 n n (Nat.le_refl _) (by rw [hkz2]; omega) (by omega) W
  rw [hkz1, Nat.mul_one] at h
  exact h
theorem nums_nil (k : IntKind) (w : World) (B : Nat) : NumsAt k w B (.slice none 0 0) [] := ⟨none, 0, 0, rfl, Nat.le_refl _, by unfold maxLen; omega, rfl, Reads.none_⟩
def ndC (d nx : Int) : NodeD := ⟨1, 0, d, 0, 0, 0, 0, 0, 0, [], nx, 0⟩
def ndR (a : Int) : NodeD := ⟨12, 0, 0, 0, a, 0, 0, 0, 0, [], 0, 0⟩
def grF : GraphD := ⟨[], List.replicate 18 0, 1, [], false, -1, [ndC 7 1, ndR (-1)], 0⟩
theorem checkF : checkB [grF] true = true := by decide
theorem sizeF : sizeL grF = 32 := by decide
theorem savesF : nSaves grF = 1 := by decide
set_option maxRecDepth 100000 in
set_option maxHeartbeats 4000000 in
theorem firstL_any (w : World) : Calls Try.prog 8 #[] w fun e w' => e = .returned (.bool true) ∧ Below w.heap.size w w' := by
  have hmk : ∀ W : World, (Instr.makeSlice 41 (.int .i64 18) (.int .i64 18)).run Try.prog W = .ok (.slice (some ⟨W.heap.size, 0, none⟩) 18 18) (W.alloc (.cells (kzero 18) 77)) := make_kinds 18 (by omega)
  obtain ⟨ka, hka⟩ : ∃ ka, ka = kzero 18 := ⟨_, rfl⟩
  obtain ⟨na, hna⟩ : ∃ na : Array Value, na = (ncells (ndC 7 1) (.slice none 0 0) ++ ncells (ndR (-1)) (.slice none 0 0)).toArray := ⟨_, rfl⟩
  obtain ⟨H, hH⟩ : ∃ H, H = w.heap.size := ⟨_, rfl⟩
  obtain ⟨ga, hga⟩ : ∃ ga : Array Value, ga = (gcells grF (.slice none 0 0) (.slice (some ⟨H, 0, none⟩) 18 18) (.slice none 0 0) (.slice (some ⟨H + 1, 0, none⟩) 2 2)).toArray := ⟨_, rfl⟩
  have hK := (((Blk.new w 77 ka).alloc (.cells na 50)).alloc (.cells ga 44)).alloc (.cells #[.slice (some ⟨H + 1 + 1, 0, none⟩) 1 1] 33)
  have hN := ((Blk.new2 w (.cells ka 77) 50 na).alloc (.cells ga 44)).alloc (.cells #[.slice (some ⟨H + 1 + 1, 0, none⟩) 1 1] 33)
  have hG := (Blk.new ((w.alloc (.cells ka 77)).alloc (.cells na 50)) 44 ga).alloc (.cells #[.slice (some ⟨H + 1 + 1, 0, none⟩) 1 1] 33)
  have hP := Blk.new (((w.alloc (.cells ka 77)).alloc (.cells na 50)).alloc (.cells ga 44)) 33 #[.slice (some ⟨H + 1 + 1, 0, none⟩) 1 1]
  have hb := ((((Below.refl w.heap.size w).alloc (Nat.le_refl _) (.cells ka 77)).alloc (by simp) (.cells na 50)).alloc (by simp; omega) (.cells ga 44)).alloc (by simp; omega) (.cells #[.slice (some ⟨H + 1 + 1, 0, none⟩) 1 1] 33)
  simp only [World.size_alloc] at hG hP
  obtain ⟨V, hV⟩ : ∃ V, V = (((w.alloc (.cells ka 77)).alloc (.cells na 50)).alloc (.cells ga 44)).alloc (.cells #[.slice (some ⟨H + 1 + 1, 0, none⟩) 1 1] 33) := ⟨_, rfl⟩
  rw [← hV] at hK hN hG hP hb
  rw [← hH] at hK hN hG hP
  have hgs : GraphsAt V V.heap.size (.slice (some ⟨H + 1 + 1, 0, none⟩) 1 1) [grF] := by
    refine ⟨_, _, _, [gcells grF (.slice none 0 0) (.slice (some ⟨H, 0, none⟩) 18 18) (.slice none 0 0) (.slice (some ⟨H + 1, 0, none⟩) 2 2)], rfl, Nat.le_refl _, by unfold maxLen; omega, rfl, rfl, by simp [gcells], Reads.of_blk hG (by rw [hga]; simp) (by simp [gcells]), fun i z hz => ?_⟩
    match i, hz with
    | 0, hz =>
      simp only [List.getElem?_cons_zero, Option.some.injEq] at hz
      subst hz
      refine ⟨_, rfl, _, _, _, _, rfl, nums_nil _ _ _, nums_kzero (by rw [← hka]; exact hK) (by unfold maxLen; omega), nums_nil _ _ _, ?_⟩
      refine ⟨_, _, _, [ncells (ndC 7 1) (.slice none 0 0), ncells (ndR (-1)) (.slice none 0 0)], rfl, Nat.le_refl _, by unfold maxLen; omega, rfl, rfl, by simp [ncells], Reads.of_blk hN (by rw [hna]; simp) (by simp [ncells]), fun i z hz => ?_⟩
      match i, hz with
      | 0, hz =>
        simp only [grF, List.getElem?_cons_zero, Option.some.injEq] at hz
        subst hz
        exact ⟨_, rfl, _, rfl, nums_nil _ _ _⟩
      | 1, hz =>
        simp only [grF, List.getElem?_cons_zero, List.getElem?_cons_succ, Option.some.injEq] at hz
        subst hz
        exact ⟨_, rfl, _, rfl, nums_nil _ _ _⟩
  have hly := layout_any V V.heap.size _ [grF] 0 grF hgs (Nat.le_refl _) ⟨by intro g hg; simp at hg; rw [hg]; simp [grF], by intro g hg; simp at hg; rw [hg]; intro x hx; simp [grF] at hx; rcases hx with rfl | rfl <;> simp [ndC, ndR]⟩ checkF rfl
  rw [show ((0 : Nat) : Int) = 0 from rfl] at hly
  have hna' : (#[.int .u8 1, .int .u8 0, .int .i64 7, .int .i64 0, .int .i64 0, .int .i64 0, .int .i64 0, .int .i64 0, .int .u64 0, .slice none 0 0, .int .i64 1, .int .i64 0, .int .u8 12, .int .u8 0, .int .i64 0, .int .i64 0, .int .i64 (-1), .int .i64 0, .int .i64 0, .int .i64 0, .int .u64 0, .slice none 0 0, .int .i64 0, .int .i64 0] : Array Value) = na := by rw [hna]; rfl
  have hga' : (#[.slice none 0 0, .slice (some ⟨H, 0, none⟩) 18 18, .int .i64 1, .slice none 0 0, .bool false, .int .i64 (-1), .slice (some ⟨H + 1, 0, none⟩) 2 2, .int .i64 0] : Array Value) = ga := by rw [hga]; rfl
  have hPl := hP.lt
  have hzV := hb.size
  have kp0 := Blk.cell hP 0
  simp only [List.getElem?_toArray, List.getElem?_cons_zero, List.getElem?_cons_succ] at kp0
  have HK := Lib.hid hK
  have HN := Lib.hid hN
  have HG := Lib.hid hG
  have HP := Lib.hid hP
  have Hb := Lib.hid hb
  have Hgs := Lib.hid hgs
  have Hly := Lib.hid hly
  have Hka := Lib.hid hka
  have Hna := Lib.hid hna
  have Hga := Lib.hid hga
  have HV := Lib.hid hV
  have HHH := Lib.hid hH
  have HNA := Lib.hid hna'
  have HGA := Lib.hid hga'
  clear hga' hna' hH hV hga hna hka hly hgs hb hP hG hN hK
  go_enter Try.func8, Try.ntmps8
  go_upto_region 2 with fail
  rw [← HHH.out, ← Hka.out, HNA.out, HGA.out, ← HV.out]
  go_wp2_with fail
  refine Hly.out.mono ?_
  rintro e w2 ⟨hb2, v, rfl, sv, cv, vv, rfl, hS, hC, hVv⟩
  rw [savesF] at hVv
  rw [sizeF, show resL grF = -1 by decide, show ((32 : Nat) : Int) = 32 from rfl]
  obtain ⟨SA, sc, rfl, _⟩ := own_any hS
  obtain ⟨CA, cc, rfl, _⟩ := own_any hC
  obtain ⟨VA, vc, rfl, _⟩ := own_any hVv
  have hbe := Hb.out.trans (hb2.mono hzV)
  have hze := hbe.size
  have Hb2 := Lib.hid hb2
  have HS := Lib.hid hS
  have HC := Lib.hid hC
  have HVv := Lib.hid hVv
  have Hbe := Lib.hid hbe
  clear hbe hVv hC hS hb2
  clear kp0
  go_wp2_with fail
  go_ret
  exact ⟨rfl, Hbe.out.alloc hze _⟩
end Go.Proofs.Ytopifdkkmchoeaa
