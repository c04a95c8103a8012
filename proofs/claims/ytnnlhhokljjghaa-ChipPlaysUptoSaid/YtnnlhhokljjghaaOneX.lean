/- One kind of call of both machines (printed by gen_one.py). Conditions: the machines lie in memory. -/
import Derived.Test.YtnnlhhokljjghaaOneP
set_option linter.unusedVariables false
set_option linter.unusedSimpArgs false
namespace Go.Proofs.Ytnnlhhokljjghaa
open Go.RowKit

set_option maxRecDepth 100000 in
set_option maxHeartbeats 8000000 in
theorem one_1in {w : World} {loC loR p : Nat} {A : Option Addr} {c : Nat} {sv : Value} {q rg wg : Nat} {A2 : Option Addr} {c2 : Nat} {l : List MInstD} {regs : List Int} {pc base : Int} {ws : List Int} (h : Duo w loC loR p A c sv q rg wg A2 c2 l regs pc base ws regs pc base ws) (kind n a v : Int) (wn : -9223372036854775808 ≤ n ∧ n ≤ 9223372036854775807) (wa : U64 a) (wv : U64 v) (bA : Option Addr) (bn bc : Nat) (hin : 0 ≤ n ∧ n ≤ 15) (hkind : (IntKind.u64.wrap kind).tmod 10 = 1) :
    Calls Try.prog 24 #[.pointer (some ⟨p, 0, none⟩), .pointer (some ⟨q, 0, none⟩), .agg #[.int .i64 kind, .int .i64 n, .int .u64 a, .int .u64 v, .slice bA bn bc]] w fun e w' => e = .returned (.bool true) ∧ Pair w' loC loR p A c q rg A2 c2 l ∧ Below loC w w' := by
  obtain ⟨wn0, wn1⟩ := wn
  have hX := Blk.new w 66 #[.int .i64 kind, .int .i64 n, .int .u64 a, .int .u64 v, .slice bA bn bc]
  have hD := h.below ((Below.refl w.heap.size w).alloc (Nat.le_refl _) (.cells #[.int .i64 kind, .int .i64 n, .int .u64 a, .int .u64 v, .slice bA bn bc] 66))
  have hbW := (Below.refl loC w).alloc (by have := h.lo; omega) (.cells #[.int .i64 kind, .int .i64 n, .int .u64 a, .int .u64 v, .slice bA bn bc] 66)
  have kx0 := Blk.cell hX 0
  have kx1 := Blk.cell hX 1
  have kx2 := Blk.cell hX 2
  have kx3 := Blk.cell hX 3
  have kx4 := Blk.cell hX 4
  simp only [List.getElem?_toArray, List.getElem?_cons_zero, List.getElem?_cons_succ] at kx0 kx1 kx2 kx3 kx4
  have kr := hD.ref.regs_
  have kpc := hD.ref.pc_
  have fpc := hD.ref.blk.frozen 2
  have hqX : q < w.heap.size := h.ref.blk.lt
  have hrX : rg < w.heap.size := h.ref.rblk.lt
  have hgX : wg < w.heap.size := h.ref.wblk.lt
  have hXp : w.heap.size ≠ p := by have := h.chip.lt; omega
  have H := Lib.hid h
  have HX := Lib.hid hX
  have HD := Lib.hid hD
  have HbW := Lib.hid hbW
  have Hwa := Lib.hid wa
  have Hwv := Lib.hid wv
  clear wv wa hbW hD hX h
  go_enter Try.func24, Try.ntmps24
  go_upto_region 1 with fail
  obtain ⟨X, hXe⟩ : ∃ X, X = w.heap.size := ⟨_, rfl⟩
  obtain ⟨W, hWe⟩ : ∃ W, W = (w.alloc (.cells #[.int .i64 kind, .int .i64 n, .int .u64 a, .int .u64 v, .slice bA bn bc] 66)) := ⟨_, rfl⟩
  have hX := HX.out
  have hD := HD.out
  have hbW := HbW.out
  rw [← hWe] at hX hD hbW kx0 kx1 kx2 kx3 kx4 kr kpc fpc ⊢
  rw [← hXe] at hX kx0 kx1 kx2 kx3 kx4 hqX hrX hgX hXp ⊢
  clear HX HD HbW
  have HX := Lib.hid hX
  have HD := Lib.hid hD
  have HbW := Lib.hid hbW
  have HXe := Lib.hid hXe
  have HWe := Lib.hid hWe
  clear hWe hXe hbW hD hX
  obtain ⟨nn, hnn⟩ := Int.eq_ofNat_of_zero_le (show 0 ≤ n by omega)
  subst hnn
  have hn16 : nn < 16 := by omega
  go_wp2_with fail
  refine (set_in HD.out.chip nn v hn16 Hwv.out nn rfl).mono ?_
  rintro e w1 ⟨rfl, hC1, hK1⟩
  obtain ⟨hE, hb1⟩ := HD.out.chipTo hC1 (hK1.mono (fun i _ hi => .inl hi))
  have hX1 := hK1.blk HX.out hXp
  clear kx0 kx1 kx2 kx3 kx4 kr kpc fpc
  have kx0 := Blk.cell hX1 0
  have kx1 := Blk.cell hX1 1
  have kx2 := Blk.cell hX1 2
  have kx3 := Blk.cell hX1 3
  have kx4 := Blk.cell hX1 4
  simp only [List.getElem?_toArray, List.getElem?_cons_zero, List.getElem?_cons_succ] at kx0 kx1 kx2 kx3 kx4
  have kr := hE.ref.regs_
  obtain ⟨y, hy⟩ : ∃ y, regs[nn]? = some y := ⟨_, List.getElem?_eq_getElem (by have := hE.ref.len; omega)⟩
  have ky := hE.ref.reg hy
  have fy := hE.ref.rblk.frozen nn
  have hR2 := (hE.ref.setReg (r := nn) Hwv.out).drewN 1
  have hK2 : Keeps (RefS q rg wg) w1 (w1.setCell ⟨rg, nn, none⟩ (.int .u64 v)).drew := ((Keeps.refl (RefS q rg wg) w1).setCell (p := ⟨rg, nn, none⟩) (.inl (.inr (.inl rfl))) _).drew
  obtain ⟨hF, hb2⟩ := hE.refTo hR2 hK2
  have hbb := HbW.out.trans (hb1.trans hb2)
  have hnI : (nn : Int) < 16 := by omega
  have HF := Lib.hid hF
  have Hbb := Lib.hid hbb
  have HE := Lib.hid hE
  have Hb1 := Lib.hid hb1
  have HR2 := Lib.hid hR2
  have HK2 := Lib.hid hK2
  have HX1 := Lib.hid hX1
  have Hy := Lib.hid hy
  clear hy hX1 hK2 hR2 hb1 hE hbb hF
  clear hC1 hK1 hb2
  go_upto_region 12 with fail
  go_region
  go_wp2_with fail
  go_ret
  exact ⟨rfl, ⟨_, _, _, _, _, _, HF.out⟩, Hbb.out⟩
set_option maxRecDepth 100000 in
set_option maxHeartbeats 8000000 in
theorem one_1out {w : World} {loC loR p : Nat} {A : Option Addr} {c : Nat} {sv : Value} {q rg wg : Nat} {A2 : Option Addr} {c2 : Nat} {l : List MInstD} {regs : List Int} {pc base : Int} {ws : List Int} (h : Duo w loC loR p A c sv q rg wg A2 c2 l regs pc base ws regs pc base ws) (kind n a v : Int) (wn : -9223372036854775808 ≤ n ∧ n ≤ 9223372036854775807) (wa : U64 a) (wv : U64 v) (bA : Option Addr) (bn bc : Nat) (hout : n < 0 ∨ 15 < n) (hkind : (IntKind.u64.wrap kind).tmod 10 = 1) :
    Calls Try.prog 24 #[.pointer (some ⟨p, 0, none⟩), .pointer (some ⟨q, 0, none⟩), .agg #[.int .i64 kind, .int .i64 n, .int .u64 a, .int .u64 v, .slice bA bn bc]] w fun e w' => e = .returned (.bool true) ∧ Pair w' loC loR p A c q rg A2 c2 l ∧ Below loC w w' := by
  obtain ⟨wn0, wn1⟩ := wn
  have hX := Blk.new w 66 #[.int .i64 kind, .int .i64 n, .int .u64 a, .int .u64 v, .slice bA bn bc]
  have hD := h.below ((Below.refl w.heap.size w).alloc (Nat.le_refl _) (.cells #[.int .i64 kind, .int .i64 n, .int .u64 a, .int .u64 v, .slice bA bn bc] 66))
  have hbW := (Below.refl loC w).alloc (by have := h.lo; omega) (.cells #[.int .i64 kind, .int .i64 n, .int .u64 a, .int .u64 v, .slice bA bn bc] 66)
  have kx0 := Blk.cell hX 0
  have kx1 := Blk.cell hX 1
  have kx2 := Blk.cell hX 2
  have kx3 := Blk.cell hX 3
  have kx4 := Blk.cell hX 4
  simp only [List.getElem?_toArray, List.getElem?_cons_zero, List.getElem?_cons_succ] at kx0 kx1 kx2 kx3 kx4
  have kr := hD.ref.regs_
  have kpc := hD.ref.pc_
  have fpc := hD.ref.blk.frozen 2
  have hqX : q < w.heap.size := h.ref.blk.lt
  have hrX : rg < w.heap.size := h.ref.rblk.lt
  have hgX : wg < w.heap.size := h.ref.wblk.lt
  have hXp : w.heap.size ≠ p := by have := h.chip.lt; omega
  have H := Lib.hid h
  have HX := Lib.hid hX
  have HD := Lib.hid hD
  have HbW := Lib.hid hbW
  have Hwa := Lib.hid wa
  have Hwv := Lib.hid wv
  clear wv wa hbW hD hX h
  go_enter Try.func24, Try.ntmps24
  go_upto_region 1 with fail
  obtain ⟨X, hXe⟩ : ∃ X, X = w.heap.size := ⟨_, rfl⟩
  obtain ⟨W, hWe⟩ : ∃ W, W = (w.alloc (.cells #[.int .i64 kind, .int .i64 n, .int .u64 a, .int .u64 v, .slice bA bn bc] 66)) := ⟨_, rfl⟩
  have hX := HX.out
  have hD := HD.out
  have hbW := HbW.out
  rw [← hWe] at hX hD hbW kx0 kx1 kx2 kx3 kx4 kr kpc fpc ⊢
  rw [← hXe] at hX kx0 kx1 kx2 kx3 kx4 hqX hrX hgX hXp ⊢
  clear HX HD HbW
  have HX := Lib.hid hX
  have HD := Lib.hid hD
  have HbW := Lib.hid hbW
  have HXe := Lib.hid hXe
  have HWe := Lib.hid hWe
  clear hWe hXe hbW hD hX
  go_wp2_with fail
  refine (set_out _ _ p rfl v n hout).mono ?_
  rintro e w1 ⟨rfl, rfl⟩
  rcases hout with ho | ho
  · have ho2 : ¬ 0 ≤ n := by omega
    go_wp2_with fail
    go_ret
    exact ⟨rfl, ⟨_, _, _, _, _, _, HD.out⟩, HbW.out⟩
  · have ho2 : 0 ≤ n := by omega
    have ho3 : ¬ n < 16 := by omega
    go_wp2_with fail
    go_ret
    exact ⟨rfl, ⟨_, _, _, _, _, _, HD.out⟩, HbW.out⟩
set_option maxRecDepth 100000 in
set_option maxHeartbeats 8000000 in
theorem one_2 {w : World} {loC loR p : Nat} {A : Option Addr} {c : Nat} {sv : Value} {q rg wg : Nat} {A2 : Option Addr} {c2 : Nat} {l : List MInstD} {regs : List Int} {pc base : Int} {ws : List Int} (h : Duo w loC loR p A c sv q rg wg A2 c2 l regs pc base ws regs pc base ws) (kind n a v : Int) (wn : -9223372036854775808 ≤ n ∧ n ≤ 9223372036854775807) (wa : U64 a) (wv : U64 v) (bA : Option Addr) (bn bc : Nat) (hkind : (IntKind.u64.wrap kind).tmod 10 = 2) :
    Calls Try.prog 24 #[.pointer (some ⟨p, 0, none⟩), .pointer (some ⟨q, 0, none⟩), .agg #[.int .i64 kind, .int .i64 n, .int .u64 a, .int .u64 v, .slice bA bn bc]] w fun e w' => e = .returned (.bool true) ∧ Pair w' loC loR p A c q rg A2 c2 l ∧ Below loC w w' := by
  obtain ⟨wn0, wn1⟩ := wn
  have hX := Blk.new w 66 #[.int .i64 kind, .int .i64 n, .int .u64 a, .int .u64 v, .slice bA bn bc]
  have hD := h.below ((Below.refl w.heap.size w).alloc (Nat.le_refl _) (.cells #[.int .i64 kind, .int .i64 n, .int .u64 a, .int .u64 v, .slice bA bn bc] 66))
  have hbW := (Below.refl loC w).alloc (by have := h.lo; omega) (.cells #[.int .i64 kind, .int .i64 n, .int .u64 a, .int .u64 v, .slice bA bn bc] 66)
  have kx0 := Blk.cell hX 0
  have kx1 := Blk.cell hX 1
  have kx2 := Blk.cell hX 2
  have kx3 := Blk.cell hX 3
  have kx4 := Blk.cell hX 4
  simp only [List.getElem?_toArray, List.getElem?_cons_zero, List.getElem?_cons_succ] at kx0 kx1 kx2 kx3 kx4
  have kr := hD.ref.regs_
  have kpc := hD.ref.pc_
  have fpc := hD.ref.blk.frozen 2
  have hqX : q < w.heap.size := h.ref.blk.lt
  have hrX : rg < w.heap.size := h.ref.rblk.lt
  have hgX : wg < w.heap.size := h.ref.wblk.lt
  have hXp : w.heap.size ≠ p := by have := h.chip.lt; omega
  have H := Lib.hid h
  have HX := Lib.hid hX
  have HD := Lib.hid hD
  have HbW := Lib.hid hbW
  have Hwa := Lib.hid wa
  have Hwv := Lib.hid wv
  clear wv wa hbW hD hX h
  go_enter Try.func24, Try.ntmps24
  go_upto_region 1 with fail
  obtain ⟨X, hXe⟩ : ∃ X, X = w.heap.size := ⟨_, rfl⟩
  obtain ⟨W, hWe⟩ : ∃ W, W = (w.alloc (.cells #[.int .i64 kind, .int .i64 n, .int .u64 a, .int .u64 v, .slice bA bn bc] 66)) := ⟨_, rfl⟩
  have hX := HX.out
  have hD := HD.out
  have hbW := HbW.out
  rw [← hWe] at hX hD hbW kx0 kx1 kx2 kx3 kx4 kr kpc fpc ⊢
  rw [← hXe] at hX kx0 kx1 kx2 kx3 kx4 hqX hrX hgX hXp ⊢
  clear HX HD HbW
  have HX := Lib.hid hX
  have HD := Lib.hid hD
  have HbW := Lib.hid hbW
  have HXe := Lib.hid hXe
  have HWe := Lib.hid hWe
  clear hWe hXe hbW hD hX
  go_wp2_with fail
  refine (jump_in HD.out.chip n ⟨wn0, wn1⟩).mono ?_
  rintro e w1 ⟨rfl, hC1, hK1⟩
  obtain ⟨hE, hb1⟩ := HD.out.chipTo hC1 (hK1.mono (fun i _ hi => .inl hi))
  have hX1 := hK1.blk HX.out hXp
  clear kx0 kx1 kx2 kx3 kx4 kr kpc fpc
  have kx0 := Blk.cell hX1 0
  have kx1 := Blk.cell hX1 1
  have kx2 := Blk.cell hX1 2
  have kx3 := Blk.cell hX1 3
  have kx4 := Blk.cell hX1 4
  simp only [List.getElem?_toArray, List.getElem?_cons_zero, List.getElem?_cons_succ] at kx0 kx1 kx2 kx3 kx4
  have kpc := hE.ref.pc_
  have fpc := hE.ref.blk.frozen 2
  have hqX2 : q ≠ X := by omega
  have hR2 := hE.ref.setPc (v := n) ⟨wn0, wn1⟩
  have hK2 : Keeps (RefS q rg wg) w1 (w1.setCell ⟨q, 2, none⟩ (.int .i64 n)) := (Keeps.refl _ w1).setCell (p := ⟨q, 2, none⟩) (.inl (.inl rfl)) _
  obtain ⟨hF, hb2⟩ := hE.refTo hR2 hK2
  have hbb := HbW.out.trans (hb1.trans hb2)
  have HF := Lib.hid hF
  have Hbb := Lib.hid hbb
  have HE := Lib.hid hE
  have Hb1 := Lib.hid hb1
  have HR2 := Lib.hid hR2
  have HK2 := Lib.hid hK2
  have HX1 := Lib.hid hX1
  clear hX1 hK2 hR2 hb1 hE hbb hF
  clear hC1 hK1 hb2
  go_wp2_with fail
  go_ret
  exact ⟨rfl, ⟨_, _, _, _, _, _, HF.out⟩, Hbb.out⟩
set_option maxRecDepth 100000 in
set_option maxHeartbeats 8000000 in
theorem one_3in {w : World} {loC loR p : Nat} {A : Option Addr} {c : Nat} {sv : Value} {q rg wg : Nat} {A2 : Option Addr} {c2 : Nat} {l : List MInstD} {regs : List Int} {pc base : Int} {ws : List Int} (h : Duo w loC loR p A c sv q rg wg A2 c2 l regs pc base ws regs pc base ws) (kind n a v : Int) (wn : -9223372036854775808 ≤ n ∧ n ≤ 9223372036854775807) (wa : U64 a) (wv : U64 v) (bA : Option Addr) (bn bc : Nat) (kk : Nat) (x : Int) (hv : ws[kk]? = some x) (hm : a = base + 8 * kk) (hkind : (IntKind.u64.wrap kind).tmod 10 = 3) :
    Calls Try.prog 24 #[.pointer (some ⟨p, 0, none⟩), .pointer (some ⟨q, 0, none⟩), .agg #[.int .i64 kind, .int .i64 n, .int .u64 a, .int .u64 v, .slice bA bn bc]] w fun e w' => e = .returned (.bool true) ∧ Pair w' loC loR p A c q rg A2 c2 l ∧ Below loC w w' := by
  obtain ⟨wn0, wn1⟩ := wn
  have hX := Blk.new w 66 #[.int .i64 kind, .int .i64 n, .int .u64 a, .int .u64 v, .slice bA bn bc]
  have hD := h.below ((Below.refl w.heap.size w).alloc (Nat.le_refl _) (.cells #[.int .i64 kind, .int .i64 n, .int .u64 a, .int .u64 v, .slice bA bn bc] 66))
  have hbW := (Below.refl loC w).alloc (by have := h.lo; omega) (.cells #[.int .i64 kind, .int .i64 n, .int .u64 a, .int .u64 v, .slice bA bn bc] 66)
  have kx0 := Blk.cell hX 0
  have kx1 := Blk.cell hX 1
  have kx2 := Blk.cell hX 2
  have kx3 := Blk.cell hX 3
  have kx4 := Blk.cell hX 4
  simp only [List.getElem?_toArray, List.getElem?_cons_zero, List.getElem?_cons_succ] at kx0 kx1 kx2 kx3 kx4
  have kr := hD.ref.regs_
  have kpc := hD.ref.pc_
  have fpc := hD.ref.blk.frozen 2
  have hqX : q < w.heap.size := h.ref.blk.lt
  have hrX : rg < w.heap.size := h.ref.rblk.lt
  have hgX : wg < w.heap.size := h.ref.wblk.lt
  have hXp : w.heap.size ≠ p := by have := h.chip.lt; omega
  have H := Lib.hid h
  have HX := Lib.hid hX
  have HD := Lib.hid hD
  have HbW := Lib.hid hbW
  have Hwa := Lib.hid wa
  have Hwv := Lib.hid wv
  have Hm := Lib.hid hm
  clear hm wv wa hbW hD hX h
  go_enter Try.func24, Try.ntmps24
  go_upto_region 1 with fail
  obtain ⟨X, hXe⟩ : ∃ X, X = w.heap.size := ⟨_, rfl⟩
  obtain ⟨W, hWe⟩ : ∃ W, W = (w.alloc (.cells #[.int .i64 kind, .int .i64 n, .int .u64 a, .int .u64 v, .slice bA bn bc] 66)) := ⟨_, rfl⟩
  have hX := HX.out
  have hD := HD.out
  have hbW := HbW.out
  rw [← hWe] at hX hD hbW kx0 kx1 kx2 kx3 kx4 kr kpc fpc ⊢
  rw [← hXe] at hX kx0 kx1 kx2 kx3 kx4 hqX hrX hgX hXp ⊢
  clear HX HD HbW
  have HX := Lib.hid hX
  have HD := Lib.hid hD
  have HbW := Lib.hid hbW
  have HXe := Lib.hid hXe
  have HWe := Lib.hid hWe
  clear hWe hXe hbW hD hX
  go_wp2_with fail
  refine (load_in HD.out.chip kk x hv a Hm.out).mono ?_
  rintro e w1 ⟨rfl, d1, rfl⟩
  have hE := HD.out.drewN d1
  have HE := Lib.hid hE
  clear hE
  go_wp2_with fail
  refine (where_in HE.out.ref a kk (List.getElem?_eq_some_iff.1 hv).1 Hm.out).mono ?_
  rintro e w2 ⟨rfl, d2, rfl⟩
  have hF := HD.out.drewN (d1 + d2)
  have kw := hF.ref.words_
  have hbb := below_drewN HbW.out (d1 + d2)
  have hkl := (List.getElem?_eq_some_iff.1 hv).1
  obtain ⟨wn', hwn'⟩ : ∃ wn', ws.length = wn' := ⟨_, rfl⟩
  have hkw : kk < wn' := by omega
  rw [hwn'] at kw
  have kv := hF.ref.word hv
  have Hv := Lib.hid hv
  have Hwn' := Lib.hid hwn'
  clear hwn' hv
  clear hkl
  have HF := Lib.hid hF
  have Hbb := Lib.hid hbb
  clear hbb hF
  go_wp2_with fail
  go_ret
  exact ⟨rfl, ⟨_, _, _, _, _, _, HF.out⟩, Hbb.out⟩
set_option maxRecDepth 100000 in
set_option maxHeartbeats 8000000 in
theorem one_3out {w : World} {loC loR p : Nat} {A : Option Addr} {c : Nat} {sv : Value} {q rg wg : Nat} {A2 : Option Addr} {c2 : Nat} {l : List MInstD} {regs : List Int} {pc base : Int} {ws : List Int} (h : Duo w loC loR p A c sv q rg wg A2 c2 l regs pc base ws regs pc base ws) (kind n a v : Int) (wn : -9223372036854775808 ≤ n ∧ n ≤ 9223372036854775807) (wa : U64 a) (wv : U64 v) (bA : Option Addr) (bn bc : Nat) (hm : ∀ k : Nat, k < ws.length → a ≠ base + 8 * k) (hkind : (IntKind.u64.wrap kind).tmod 10 = 3) :
    Calls Try.prog 24 #[.pointer (some ⟨p, 0, none⟩), .pointer (some ⟨q, 0, none⟩), .agg #[.int .i64 kind, .int .i64 n, .int .u64 a, .int .u64 v, .slice bA bn bc]] w fun e w' => e = .returned (.bool true) ∧ Pair w' loC loR p A c q rg A2 c2 l ∧ Below loC w w' := by
  obtain ⟨wn0, wn1⟩ := wn
  have hX := Blk.new w 66 #[.int .i64 kind, .int .i64 n, .int .u64 a, .int .u64 v, .slice bA bn bc]
  have hD := h.below ((Below.refl w.heap.size w).alloc (Nat.le_refl _) (.cells #[.int .i64 kind, .int .i64 n, .int .u64 a, .int .u64 v, .slice bA bn bc] 66))
  have hbW := (Below.refl loC w).alloc (by have := h.lo; omega) (.cells #[.int .i64 kind, .int .i64 n, .int .u64 a, .int .u64 v, .slice bA bn bc] 66)
  have kx0 := Blk.cell hX 0
  have kx1 := Blk.cell hX 1
  have kx2 := Blk.cell hX 2
  have kx3 := Blk.cell hX 3
  have kx4 := Blk.cell hX 4
  simp only [List.getElem?_toArray, List.getElem?_cons_zero, List.getElem?_cons_succ] at kx0 kx1 kx2 kx3 kx4
  have kr := hD.ref.regs_
  have kpc := hD.ref.pc_
  have fpc := hD.ref.blk.frozen 2
  have hqX : q < w.heap.size := h.ref.blk.lt
  have hrX : rg < w.heap.size := h.ref.rblk.lt
  have hgX : wg < w.heap.size := h.ref.wblk.lt
  have hXp : w.heap.size ≠ p := by have := h.chip.lt; omega
  have H := Lib.hid h
  have HX := Lib.hid hX
  have HD := Lib.hid hD
  have HbW := Lib.hid hbW
  have Hwa := Lib.hid wa
  have Hwv := Lib.hid wv
  have Hm := Lib.hid hm
  clear hm wv wa hbW hD hX h
  go_enter Try.func24, Try.ntmps24
  go_upto_region 1 with fail
  obtain ⟨X, hXe⟩ : ∃ X, X = w.heap.size := ⟨_, rfl⟩
  obtain ⟨W, hWe⟩ : ∃ W, W = (w.alloc (.cells #[.int .i64 kind, .int .i64 n, .int .u64 a, .int .u64 v, .slice bA bn bc] 66)) := ⟨_, rfl⟩
  have hX := HX.out
  have hD := HD.out
  have hbW := HbW.out
  rw [← hWe] at hX hD hbW kx0 kx1 kx2 kx3 kx4 kr kpc fpc ⊢
  rw [← hXe] at hX kx0 kx1 kx2 kx3 kx4 hqX hrX hgX hXp ⊢
  clear HX HD HbW
  have HX := Lib.hid hX
  have HD := Lib.hid hD
  have HbW := Lib.hid hbW
  have HXe := Lib.hid hXe
  have HWe := Lib.hid hWe
  clear hWe hXe hbW hD hX
  go_wp2_with fail
  refine (load_out HD.out.chip a Hwa.out Hm.out).mono ?_
  rintro e w1 ⟨rfl, d1, rfl⟩
  have hE := HD.out.drewN d1
  have HE := Lib.hid hE
  clear hE
  go_wp2_with fail
  refine (where_out HE.out.ref a Hwa.out Hm.out).mono ?_
  rintro e w2 ⟨rfl, d2, rfl⟩
  have hF := HD.out.drewN (d1 + d2)
  have kw := hF.ref.words_
  have hbb := below_drewN HbW.out (d1 + d2)
  clear kw
  have HF := Lib.hid hF
  have Hbb := Lib.hid hbb
  clear hbb hF
  go_wp2_with fail
  go_ret
  exact ⟨rfl, ⟨_, _, _, _, _, _, HF.out⟩, Hbb.out⟩
set_option maxRecDepth 100000 in
set_option maxHeartbeats 8000000 in
theorem one_4in {w : World} {loC loR p : Nat} {A : Option Addr} {c : Nat} {sv : Value} {q rg wg : Nat} {A2 : Option Addr} {c2 : Nat} {l : List MInstD} {regs : List Int} {pc base : Int} {ws : List Int} (h : Duo w loC loR p A c sv q rg wg A2 c2 l regs pc base ws regs pc base ws) (kind n a v : Int) (wn : -9223372036854775808 ≤ n ∧ n ≤ 9223372036854775807) (wa : U64 a) (wv : U64 v) (bA : Option Addr) (bn bc : Nat) (kk : Nat) (hkk : kk < ws.length) (hm : a = base + 8 * kk) (hkind : (IntKind.u64.wrap kind).tmod 10 = 4) :
    Calls Try.prog 24 #[.pointer (some ⟨p, 0, none⟩), .pointer (some ⟨q, 0, none⟩), .agg #[.int .i64 kind, .int .i64 n, .int .u64 a, .int .u64 v, .slice bA bn bc]] w fun e w' => e = .returned (.bool true) ∧ Pair w' loC loR p A c q rg A2 c2 l ∧ Below loC w w' := by
  obtain ⟨wn0, wn1⟩ := wn
  have hX := Blk.new w 66 #[.int .i64 kind, .int .i64 n, .int .u64 a, .int .u64 v, .slice bA bn bc]
  have hD := h.below ((Below.refl w.heap.size w).alloc (Nat.le_refl _) (.cells #[.int .i64 kind, .int .i64 n, .int .u64 a, .int .u64 v, .slice bA bn bc] 66))
  have hbW := (Below.refl loC w).alloc (by have := h.lo; omega) (.cells #[.int .i64 kind, .int .i64 n, .int .u64 a, .int .u64 v, .slice bA bn bc] 66)
  have kx0 := Blk.cell hX 0
  have kx1 := Blk.cell hX 1
  have kx2 := Blk.cell hX 2
  have kx3 := Blk.cell hX 3
  have kx4 := Blk.cell hX 4
  simp only [List.getElem?_toArray, List.getElem?_cons_zero, List.getElem?_cons_succ] at kx0 kx1 kx2 kx3 kx4
  have kr := hD.ref.regs_
  have kpc := hD.ref.pc_
  have fpc := hD.ref.blk.frozen 2
  have hqX : q < w.heap.size := h.ref.blk.lt
  have hrX : rg < w.heap.size := h.ref.rblk.lt
  have hgX : wg < w.heap.size := h.ref.wblk.lt
  have hXp : w.heap.size ≠ p := by have := h.chip.lt; omega
  have H := Lib.hid h
  have HX := Lib.hid hX
  have HD := Lib.hid hD
  have HbW := Lib.hid hbW
  have Hwa := Lib.hid wa
  have Hwv := Lib.hid wv
  have Hm := Lib.hid hm
  clear hm wv wa hbW hD hX h
  go_enter Try.func24, Try.ntmps24
  go_upto_region 1 with fail
  obtain ⟨X, hXe⟩ : ∃ X, X = w.heap.size := ⟨_, rfl⟩
  obtain ⟨W, hWe⟩ : ∃ W, W = (w.alloc (.cells #[.int .i64 kind, .int .i64 n, .int .u64 a, .int .u64 v, .slice bA bn bc] 66)) := ⟨_, rfl⟩
  have hX := HX.out
  have hD := HD.out
  have hbW := HbW.out
  rw [← hWe] at hX hD hbW kx0 kx1 kx2 kx3 kx4 kr kpc fpc ⊢
  rw [← hXe] at hX kx0 kx1 kx2 kx3 kx4 hqX hrX hgX hXp ⊢
  clear HX HD HbW
  have HX := Lib.hid hX
  have HD := Lib.hid hD
  have HbW := Lib.hid hbW
  have HXe := Lib.hid hXe
  have HWe := Lib.hid hWe
  clear hWe hXe hbW hD hX
  have nX : sv.ownBlock ≠ some X := own_blk_ne HD.out.chip.row HX.out (by decide)
  obtain ⟨y, hy⟩ : ∃ y, ws[kk]? = some y := ⟨_, List.getElem?_eq_getElem hkk⟩
  have HnX := Lib.hid nX
  have Hy := Lib.hid hy
  clear hy nX
  go_wp2_with fail
  refine (store_in HD.out.chip kk v hkk Hwv.out a Hm.out).mono ?_
  rintro e w1 ⟨rfl, hC1, hK1⟩
  obtain ⟨hE, hb1⟩ := HD.out.chipTo hC1 (hK1.mono (fun i _ hi => .inr hi))
  have hX1 := hK1.blk HX.out HnX.out
  clear kx0 kx1 kx2 kx3 kx4 kr kpc fpc
  have kx0 := Blk.cell hX1 0
  have kx1 := Blk.cell hX1 1
  have kx2 := Blk.cell hX1 2
  have kx3 := Blk.cell hX1 3
  have kx4 := Blk.cell hX1 4
  simp only [List.getElem?_toArray, List.getElem?_cons_zero, List.getElem?_cons_succ] at kx0 kx1 kx2 kx3 kx4
  have HE := Lib.hid hE
  have Hb1 := Lib.hid hb1
  have HX1 := Lib.hid hX1
  clear hX1 hb1 hE
  clear hC1 hK1
  go_wp2_with fail
  refine (where_in HE.out.ref a kk hkk Hm.out).mono ?_
  rintro e w2 ⟨rfl, d2, rfl⟩
  obtain ⟨V, hV⟩ : ∃ V, V = w1.drewN d2 := ⟨_, rfl⟩
  have hF := HE.out.drewN d2
  have hX2 := HX1.out.drewN d2
  have hbV := below_drewN (HbW.out.trans Hb1.out) d2
  rw [← hV] at hF hX2 hbV ⊢
  have HV := Lib.hid hV
  clear hV
  clear kx0 kx1 kx2 kx3 kx4
  have kx0 := Blk.cell hX2 0
  have kx1 := Blk.cell hX2 1
  have kx2 := Blk.cell hX2 2
  have kx3 := Blk.cell hX2 3
  have kx4 := Blk.cell hX2 4
  simp only [List.getElem?_toArray, List.getElem?_cons_zero, List.getElem?_cons_succ] at kx0 kx1 kx2 kx3 kx4
  have kw := hF.ref.words_
  obtain ⟨wn', hwn'⟩ : ∃ wn', ws.length = wn' := ⟨_, rfl⟩
  have hkw : kk < wn' := by omega
  rw [hwn'] at kw
  have ky := hF.ref.word Hy.out
  have fy := hF.ref.wblk.frozen kk
  have hR2 := (hF.ref.setWord (r := kk) Hwv.out).drewN 1
  have hK2 : Keeps (RefS q rg wg) V (V.setCell ⟨wg, kk, none⟩ (.int .u64 v)).drew := ((Keeps.refl (RefS q rg wg) V).setCell (p := ⟨wg, kk, none⟩) (.inl (.inr (.inr rfl))) _).drew
  obtain ⟨hG, hb2⟩ := hF.refTo hR2 hK2
  have hbb := hbV.trans hb2
  have hkI : (kk : Int) < wn' := by omega
  have HF := Lib.hid hF
  have HX2 := Lib.hid hX2
  have Hwn' := Lib.hid hwn'
  have HR2 := Lib.hid hR2
  have HK2 := Lib.hid hK2
  have HG := Lib.hid hG
  have Hbb := Lib.hid hbb
  have HbV := Lib.hid hbV
  clear hbV hbb hG hK2 hR2 hwn' hX2 hF
  clear hb2
  go_upto_region 25 with fail
  go_region
  go_wp2_with fail
  go_ret
  exact ⟨rfl, ⟨_, _, _, _, _, _, HG.out⟩, Hbb.out⟩
set_option maxRecDepth 100000 in
set_option maxHeartbeats 8000000 in
theorem one_4out {w : World} {loC loR p : Nat} {A : Option Addr} {c : Nat} {sv : Value} {q rg wg : Nat} {A2 : Option Addr} {c2 : Nat} {l : List MInstD} {regs : List Int} {pc base : Int} {ws : List Int} (h : Duo w loC loR p A c sv q rg wg A2 c2 l regs pc base ws regs pc base ws) (kind n a v : Int) (wn : -9223372036854775808 ≤ n ∧ n ≤ 9223372036854775807) (wa : U64 a) (wv : U64 v) (bA : Option Addr) (bn bc : Nat) (hm : ∀ k : Nat, k < ws.length → a ≠ base + 8 * k) (hkind : (IntKind.u64.wrap kind).tmod 10 = 4) :
    Calls Try.prog 24 #[.pointer (some ⟨p, 0, none⟩), .pointer (some ⟨q, 0, none⟩), .agg #[.int .i64 kind, .int .i64 n, .int .u64 a, .int .u64 v, .slice bA bn bc]] w fun e w' => e = .returned (.bool true) ∧ Pair w' loC loR p A c q rg A2 c2 l ∧ Below loC w w' := by
  obtain ⟨wn0, wn1⟩ := wn
  have hX := Blk.new w 66 #[.int .i64 kind, .int .i64 n, .int .u64 a, .int .u64 v, .slice bA bn bc]
  have hD := h.below ((Below.refl w.heap.size w).alloc (Nat.le_refl _) (.cells #[.int .i64 kind, .int .i64 n, .int .u64 a, .int .u64 v, .slice bA bn bc] 66))
  have hbW := (Below.refl loC w).alloc (by have := h.lo; omega) (.cells #[.int .i64 kind, .int .i64 n, .int .u64 a, .int .u64 v, .slice bA bn bc] 66)
  have kx0 := Blk.cell hX 0
  have kx1 := Blk.cell hX 1
  have kx2 := Blk.cell hX 2
  have kx3 := Blk.cell hX 3
  have kx4 := Blk.cell hX 4
  simp only [List.getElem?_toArray, List.getElem?_cons_zero, List.getElem?_cons_succ] at kx0 kx1 kx2 kx3 kx4
  have kr := hD.ref.regs_
  have kpc := hD.ref.pc_
  have fpc := hD.ref.blk.frozen 2
  have hqX : q < w.heap.size := h.ref.blk.lt
  have hrX : rg < w.heap.size := h.ref.rblk.lt
  have hgX : wg < w.heap.size := h.ref.wblk.lt
  have hXp : w.heap.size ≠ p := by have := h.chip.lt; omega
  have H := Lib.hid h
  have HX := Lib.hid hX
  have HD := Lib.hid hD
  have HbW := Lib.hid hbW
  have Hwa := Lib.hid wa
  have Hwv := Lib.hid wv
  have Hm := Lib.hid hm
  clear hm wv wa hbW hD hX h
  go_enter Try.func24, Try.ntmps24
  go_upto_region 1 with fail
  obtain ⟨X, hXe⟩ : ∃ X, X = w.heap.size := ⟨_, rfl⟩
  obtain ⟨W, hWe⟩ : ∃ W, W = (w.alloc (.cells #[.int .i64 kind, .int .i64 n, .int .u64 a, .int .u64 v, .slice bA bn bc] 66)) := ⟨_, rfl⟩
  have hX := HX.out
  have hD := HD.out
  have hbW := HbW.out
  rw [← hWe] at hX hD hbW kx0 kx1 kx2 kx3 kx4 kr kpc fpc ⊢
  rw [← hXe] at hX kx0 kx1 kx2 kx3 kx4 hqX hrX hgX hXp ⊢
  clear HX HD HbW
  have HX := Lib.hid hX
  have HD := Lib.hid hD
  have HbW := Lib.hid hbW
  have HXe := Lib.hid hXe
  have HWe := Lib.hid hWe
  clear hWe hXe hbW hD hX
  go_wp2_with fail
  refine (store_out HD.out.chip a v Hwa.out Hm.out).mono ?_
  rintro e w1 ⟨rfl, d1, rfl⟩
  have hE := HD.out.drewN d1
  have HE := Lib.hid hE
  clear hE
  go_wp2_with fail
  refine (where_out HE.out.ref a Hwa.out Hm.out).mono ?_
  rintro e w2 ⟨rfl, d2, rfl⟩
  have hF := HD.out.drewN (d1 + d2)
  have kw := hF.ref.words_
  have hbb := below_drewN HbW.out (d1 + d2)
  clear kw
  have HF := Lib.hid hF
  have Hbb := Lib.hid hbb
  clear hbb hF
  go_wp2_with fail
  go_ret
  exact ⟨rfl, ⟨_, _, _, _, _, _, HF.out⟩, Hbb.out⟩
set_option maxRecDepth 100000 in
set_option maxHeartbeats 8000000 in
theorem one_5 {w : World} {loC loR p : Nat} {A : Option Addr} {c : Nat} {sv : Value} {q rg wg : Nat} {A2 : Option Addr} {c2 : Nat} {l : List MInstD} {regs : List Int} {pc base : Int} {ws : List Int} (h : Duo w loC loR p A c sv q rg wg A2 c2 l regs pc base ws regs pc base ws) (kind n a v : Int) (wn : -9223372036854775808 ≤ n ∧ n ≤ 9223372036854775807) (wa : U64 a) (wv : U64 v) (bA : Option Addr) (bn bc : Nat) (hkind : (IntKind.u64.wrap kind).tmod 10 = 5) :
    Calls Try.prog 24 #[.pointer (some ⟨p, 0, none⟩), .pointer (some ⟨q, 0, none⟩), .agg #[.int .i64 kind, .int .i64 n, .int .u64 a, .int .u64 v, .slice bA bn bc]] w fun e w' => e = .returned (.bool true) ∧ Pair w' loC loR p A c q rg A2 c2 l ∧ Below loC w w' := by
  obtain ⟨wn0, wn1⟩ := wn
  have hX := Blk.new w 66 #[.int .i64 kind, .int .i64 n, .int .u64 a, .int .u64 v, .slice bA bn bc]
  have hD := h.below ((Below.refl w.heap.size w).alloc (Nat.le_refl _) (.cells #[.int .i64 kind, .int .i64 n, .int .u64 a, .int .u64 v, .slice bA bn bc] 66))
  have hbW := (Below.refl loC w).alloc (by have := h.lo; omega) (.cells #[.int .i64 kind, .int .i64 n, .int .u64 a, .int .u64 v, .slice bA bn bc] 66)
  have kx0 := Blk.cell hX 0
  have kx1 := Blk.cell hX 1
  have kx2 := Blk.cell hX 2
  have kx3 := Blk.cell hX 3
  have kx4 := Blk.cell hX 4
  simp only [List.getElem?_toArray, List.getElem?_cons_zero, List.getElem?_cons_succ] at kx0 kx1 kx2 kx3 kx4
  have kr := hD.ref.regs_
  have kpc := hD.ref.pc_
  have fpc := hD.ref.blk.frozen 2
  have hqX : q < w.heap.size := h.ref.blk.lt
  have hrX : rg < w.heap.size := h.ref.rblk.lt
  have hgX : wg < w.heap.size := h.ref.wblk.lt
  have hXp : w.heap.size ≠ p := by have := h.chip.lt; omega
  have H := Lib.hid h
  have HX := Lib.hid hX
  have HD := Lib.hid hD
  have HbW := Lib.hid hbW
  have Hwa := Lib.hid wa
  have Hwv := Lib.hid wv
  clear wv wa hbW hD hX h
  go_enter Try.func24, Try.ntmps24
  go_upto_region 1 with fail
  obtain ⟨X, hXe⟩ : ∃ X, X = w.heap.size := ⟨_, rfl⟩
  obtain ⟨W, hWe⟩ : ∃ W, W = (w.alloc (.cells #[.int .i64 kind, .int .i64 n, .int .u64 a, .int .u64 v, .slice bA bn bc] 66)) := ⟨_, rfl⟩
  have hX := HX.out
  have hD := HD.out
  have hbW := HbW.out
  rw [← hWe] at hX hD hbW kx0 kx1 kx2 kx3 kx4 kr kpc fpc ⊢
  rw [← hXe] at hX kx0 kx1 kx2 kx3 kx4 hqX hrX hgX hXp ⊢
  clear HX HD HbW
  have HX := Lib.hid hX
  have HD := Lib.hid hD
  have HbW := Lib.hid hbW
  have HXe := Lib.hid hXe
  have HWe := Lib.hid hWe
  clear hWe hXe hbW hD hX
  obtain ⟨r, regs', pc', hbe⟩ := both_enter l base regs pc ws
  have hc1 := hbe.1 HD.out.chip HD.out.code (Nat.le_refl _)
  have Hbe := Lib.hid hbe
  have Hc1 := Lib.hid hc1
  clear hc1 hbe
  go_wp2_with fail
  refine (Hc1.out).mono ?_
  rintro e w1 ⟨rfl, hC1, hK1⟩
  obtain ⟨hE, hb1⟩ := HD.out.chipTo hC1 (hK1.mono (fun i _ hi => .inl hi))
  have hc2 := Hbe.out.2 hE.ref hE.rcode (Nat.le_refl _)
  have HE := Lib.hid hE
  have Hb1 := Lib.hid hb1
  have Hc2 := Lib.hid hc2
  clear hc2 hb1 hE
  clear hC1 hK1 kx0 kx1 kx2 kx3 kx4 kr kpc fpc
  go_wp2_with fail
  refine (Hc2.out).mono ?_
  rintro e w2 ⟨rfl, hR2, hK2⟩
  obtain ⟨hF, hb2⟩ := HE.out.refTo hR2 hK2
  have hbb := HbW.out.trans (Hb1.out.trans hb2)
  have HF := Lib.hid hF
  have Hbb := Lib.hid hbb
  clear hbb hF
  clear hR2 hK2 hb2
  go_wp2_with fail
  go_ret
  exact ⟨rfl, ⟨_, _, _, _, _, _, HF.out⟩, Hbb.out⟩
set_option maxRecDepth 100000 in
set_option maxHeartbeats 8000000 in
theorem one_7 {w : World} {loC loR p : Nat} {A : Option Addr} {c : Nat} {sv : Value} {q rg wg : Nat} {A2 : Option Addr} {c2 : Nat} {l : List MInstD} {regs : List Int} {pc base : Int} {ws : List Int} (h : Duo w loC loR p A c sv q rg wg A2 c2 l regs pc base ws regs pc base ws) (kind n a v : Int) (wn : -9223372036854775808 ≤ n ∧ n ≤ 9223372036854775807) (wa : U64 a) (wv : U64 v) (bA : Option Addr) (bn bc : Nat) (hkind : (IntKind.u64.wrap kind).tmod 10 = 7) :
    Calls Try.prog 24 #[.pointer (some ⟨p, 0, none⟩), .pointer (some ⟨q, 0, none⟩), .agg #[.int .i64 kind, .int .i64 n, .int .u64 a, .int .u64 v, .slice bA bn bc]] w fun e w' => e = .returned (.bool true) ∧ Pair w' loC loR p A c q rg A2 c2 l ∧ Below loC w w' := by
  obtain ⟨wn0, wn1⟩ := wn
  have hX := Blk.new w 66 #[.int .i64 kind, .int .i64 n, .int .u64 a, .int .u64 v, .slice bA bn bc]
  have hD := h.below ((Below.refl w.heap.size w).alloc (Nat.le_refl _) (.cells #[.int .i64 kind, .int .i64 n, .int .u64 a, .int .u64 v, .slice bA bn bc] 66))
  have hbW := (Below.refl loC w).alloc (by have := h.lo; omega) (.cells #[.int .i64 kind, .int .i64 n, .int .u64 a, .int .u64 v, .slice bA bn bc] 66)
  have kx0 := Blk.cell hX 0
  have kx1 := Blk.cell hX 1
  have kx2 := Blk.cell hX 2
  have kx3 := Blk.cell hX 3
  have kx4 := Blk.cell hX 4
  simp only [List.getElem?_toArray, List.getElem?_cons_zero, List.getElem?_cons_succ] at kx0 kx1 kx2 kx3 kx4
  have kr := hD.ref.regs_
  have kpc := hD.ref.pc_
  have fpc := hD.ref.blk.frozen 2
  have hqX : q < w.heap.size := h.ref.blk.lt
  have hrX : rg < w.heap.size := h.ref.rblk.lt
  have hgX : wg < w.heap.size := h.ref.wblk.lt
  have hXp : w.heap.size ≠ p := by have := h.chip.lt; omega
  have H := Lib.hid h
  have HX := Lib.hid hX
  have HD := Lib.hid hD
  have HbW := Lib.hid hbW
  have Hwa := Lib.hid wa
  have Hwv := Lib.hid wv
  clear wv wa hbW hD hX h
  go_enter Try.func24, Try.ntmps24
  go_upto_region 1 with fail
  obtain ⟨X, hXe⟩ : ∃ X, X = w.heap.size := ⟨_, rfl⟩
  obtain ⟨W, hWe⟩ : ∃ W, W = (w.alloc (.cells #[.int .i64 kind, .int .i64 n, .int .u64 a, .int .u64 v, .slice bA bn bc] 66)) := ⟨_, rfl⟩
  have hX := HX.out
  have hD := HD.out
  have hbW := HbW.out
  rw [← hWe] at hX hD hbW kx0 kx1 kx2 kx3 kx4 kr kpc fpc ⊢
  rw [← hXe] at hX kx0 kx1 kx2 kx3 kx4 hqX hrX hgX hXp ⊢
  clear HX HD HbW
  have HX := Lib.hid hX
  have HD := Lib.hid hD
  have HbW := Lib.hid hbW
  have HXe := Lib.hid hXe
  have HWe := Lib.hid hWe
  clear hWe hXe hbW hD hX
  clear kr kpc fpc
  go_wp2_with fail
  refine (stack_in HD.out.chip).mono ?_
  rintro e w3 ⟨tv, rfl, hown, hb3⟩
  obtain ⟨TA, tc, rfl, hn3, hc3, _⟩ := own_any hown
  obtain ⟨nb, hnb⟩ : ∃ nb, 8 * ws.length = nb := ⟨_, rfl⟩
  have hxr0 := XRow.of_own hown
  have hf4 := HD.out.chip.fit.2.2.2
  rw [hnb] at hxr0 hn3 hf4
  unfold maxLen at hc3
  have hs3 := hb3.size
  have Hown := Lib.hid hown
  have Hb3 := Lib.hid hb3
  have Hxr0 := Lib.hid hxr0
  clear hxr0 hb3 hown
  rw [hnb]
  have Hnb := Lib.hid hnb
  clear hnb
  go_wp2_with fail
  clear kx0 kx1 kx2 kx3 kx4
  go_loopw [206] (fun i wq => ∃ j : Nat, j ≤ nb ∧ i = .int .i64 j ∧ XRow wq TA nb W.heap.size ∧ Below W.heap.size W wq) (fun i _ => nb - (intOf i).toNat)
  case atStart => exact ⟨0, by omega, rfl, Hxr0.out, Hb3.out⟩
  case round =>
    obtain ⟨j, hj, rfl, hxr, hbw⟩ := hrel
    by_cases hjn : j < nb
    · obtain ⟨g, cur, hA, hgB, hBk, hcur⟩ := hxr (by omega)
      subst hA
      obtain ⟨y, hy⟩ := hcur j hjn
      have kz := hBk.cell j
      rw [hy] at kz
      have fz := hBk.frozen j
      have hjnI : (j : Int) < nb := by omega
      have Hy := Lib.hid hy
      have HBk := Lib.hid hBk
      have Hcur := Lib.hid hcur
      have Hbw := Lib.hid hbw
      have Hxr := Lib.hid hxr
      clear hxr hbw hcur hBk hy
      go_wp2_with fail
      refine ⟨⟨j + 1, by omega, by go_num, XRow.set hgB HBk.out Hcur.out _, Hbw.out.setCell (p := ⟨g, j, none⟩) hgB _⟩, by simp [intOf]; omega⟩
    · have hF := HD.out.below hbw
      have hbb := HbW.out.trans (hbw.mono (by have := HD.out.lo; omega))
      have HF := Lib.hid hF
      have Hbb := Lib.hid hbb
      have Hbw := Lib.hid hbw
      have Hxr := Lib.hid hxr
      clear hxr hbw hbb hF
      go_wp2_with fail
      go_ret
      exact ⟨rfl, ⟨_, _, _, _, _, _, HF.out⟩, Hbb.out⟩
set_option maxRecDepth 100000 in
set_option maxHeartbeats 8000000 in
theorem one_8 {w : World} {loC loR p : Nat} {A : Option Addr} {c : Nat} {sv : Value} {q rg wg : Nat} {A2 : Option Addr} {c2 : Nat} {l : List MInstD} {regs : List Int} {pc base : Int} {ws : List Int} (h : Duo w loC loR p A c sv q rg wg A2 c2 l regs pc base ws regs pc base ws) (kind n a v : Int) (wn : -9223372036854775808 ≤ n ∧ n ≤ 9223372036854775807) (wa : U64 a) (wv : U64 v) (bA : Option Addr) (bn bc : Nat) (xs : List Int) (hr : Reads w loC 1 bA bn (byteVals xs)) (hxs : xs.length = bn) (hxb : ∀ x ∈ xs, 0 ≤ x ∧ x < 256) (hbn : bn ≤ bc) (hbc : bc ≤ maxLen) (hbk : bn ≤ 140737488351232) (hkind : (IntKind.u64.wrap kind).tmod 10 = 8) :
    Calls Try.prog 24 #[.pointer (some ⟨p, 0, none⟩), .pointer (some ⟨q, 0, none⟩), .agg #[.int .i64 kind, .int .i64 n, .int .u64 a, .int .u64 v, .slice bA bn bc]] w fun e w' => e = .returned (.bool true) ∧ Pair w' loC loR p A c q rg A2 c2 l ∧ Below loC w w' := by
  obtain ⟨wn0, wn1⟩ := wn
  have hX := Blk.new w 66 #[.int .i64 kind, .int .i64 n, .int .u64 a, .int .u64 v, .slice bA bn bc]
  have hD := h.below ((Below.refl w.heap.size w).alloc (Nat.le_refl _) (.cells #[.int .i64 kind, .int .i64 n, .int .u64 a, .int .u64 v, .slice bA bn bc] 66))
  have hbW := (Below.refl loC w).alloc (by have := h.lo; omega) (.cells #[.int .i64 kind, .int .i64 n, .int .u64 a, .int .u64 v, .slice bA bn bc] 66)
  have kx0 := Blk.cell hX 0
  have kx1 := Blk.cell hX 1
  have kx2 := Blk.cell hX 2
  have kx3 := Blk.cell hX 3
  have kx4 := Blk.cell hX 4
  simp only [List.getElem?_toArray, List.getElem?_cons_zero, List.getElem?_cons_succ] at kx0 kx1 kx2 kx3 kx4
  have kr := hD.ref.regs_
  have kpc := hD.ref.pc_
  have fpc := hD.ref.blk.frozen 2
  have hqX : q < w.heap.size := h.ref.blk.lt
  have hrX : rg < w.heap.size := h.ref.rblk.lt
  have hgX : wg < w.heap.size := h.ref.wblk.lt
  have hXp : w.heap.size ≠ p := by have := h.chip.lt; omega
  have H := Lib.hid h
  have HX := Lib.hid hX
  have HD := Lib.hid hD
  have HbW := Lib.hid hbW
  have Hwa := Lib.hid wa
  have Hwv := Lib.hid wv
  have Hr := Lib.hid hr
  have Hxs := Lib.hid hxs
  have Hxb := Lib.hid hxb
  clear hxb hxs hr wv wa hbW hD hX h
  go_enter Try.func24, Try.ntmps24
  go_upto_region 1 with fail
  obtain ⟨X, hXe⟩ : ∃ X, X = w.heap.size := ⟨_, rfl⟩
  obtain ⟨W, hWe⟩ : ∃ W, W = (w.alloc (.cells #[.int .i64 kind, .int .i64 n, .int .u64 a, .int .u64 v, .slice bA bn bc] 66)) := ⟨_, rfl⟩
  have hX := HX.out
  have hD := HD.out
  have hbW := HbW.out
  rw [← hWe] at hX hD hbW kx0 kx1 kx2 kx3 kx4 kr kpc fpc ⊢
  rw [← hXe] at hX kx0 kx1 kx2 kx3 kx4 hqX hrX hgX hXp ⊢
  clear HX HD HbW
  have HX := Lib.hid hX
  have HD := Lib.hid hD
  have HbW := Lib.hid hbW
  have HXe := Lib.hid hXe
  have HWe := Lib.hid hWe
  clear hWe hXe hbW hD hX
  obtain ⟨iu, hu0, hu1, hu2, hu3⟩ := info_parts infoU8
  clear kr kpc fpc
  have hloR := HD.out.lo
  have hloRp := HD.out.pl
  have hrW : Reads W loC 1 bA bn (byteVals xs) := Hr.out.below HbW.out
  have hlit := own_lit0 W 5 1
  have hrd1 := hrW.alloc (by omega) (.cells #[] 5)
  have hD1 := HD.out.below ((Below.refl W.heap.size W).alloc (Nat.le_refl _) (.cells #[] 5))
  have hX1 := HX.out.alloc (.cells #[] 5)
  have hb1 := HbW.out.alloc (by omega) (.cells #[] 5)
  have ky4 := Blk.cell hX1 4
  simp only [List.getElem?_toArray, List.getElem?_cons_zero, List.getElem?_cons_succ] at ky4
  have hXW : X < W.heap.size := HX.out.lt
  have HrW := Lib.hid hrW
  have Hlit := Lib.hid hlit
  have Hrd1 := Lib.hid hrd1
  have HD1 := Lib.hid hD1
  have HX1 := Lib.hid hX1
  have Hb1 := Lib.hid hb1
  clear hb1 hX1 hD1 hrd1 hlit hrW
  go_wp2_with (first
    | (at_builtin
       refine wpList_append_any _ rfl (.tmp 218) (.tmp 220) _ rfl W.heap.size 5 iu _ 1 1 Try.underlying23 hu0 hu1 hu2 hu3 rfl (by omega) _ 0 [] rfl Hlit.out loC bA bn bc (byteVals xs) rfl Hrd1.out ?c1 ?c2 ?c3 ?c4 ?_
       case c1 => intro u hu; simp only [byteVals, List.mem_map] at hu; obtain ⟨y, _, rfl⟩ := hu; rfl
       case c2 => simp only [maxLen]; omega
       case c3 => omega
       case c4 => simp
       intro v9 w9 hown9 hg9 hat9
       rw [Nat.zero_add, List.nil_append] at hown9
       obtain ⟨OA, oc, rfl, hon, hoc, hro⟩ := own_any hown9
       have hb9 : Below W.heap.size W w9 := ((Below.refl W.heap.size W).alloc (Nat.le_refl _) (.cells #[] 5)).grown hg9 (by simp) (fun g e => (Hlit.out.lt g e).1)
       have hD9 := HD.out.below hb9
       have hX9 := HX.out.below hb9 HX.out.lt
       have hbb9 : Below loC w w9 := HbW.out.trans (hb9.mono (by omega))
       clear kx0 kx1 kx2 kx3 kx4
       have kx0 := Blk.cell hX9 0
       have kx1 := Blk.cell hX9 1
       have kx2 := Blk.cell hX9 2
       have kx3 := Blk.cell hX9 3
       have kx4 := Blk.cell hX9 4
       simp only [List.getElem?_toArray, List.getElem?_cons_zero, List.getElem?_cons_succ] at kx0 kx1 kx2 kx3 kx4
       have Hb9 := Lib.hid hb9
       have HX9 := Lib.hid hX9
       have HD9 := Lib.hid hD9
       have Hbb9 := Lib.hid hbb9
       have Hown9 := Lib.hid hown9
       have Hro := Lib.hid hro
       clear hro hown9 hbb9 hD9 hX9 hb9
       skip))
  have hb9 := Hb9.out
  have hX9 := HX9.out
  have hD9 := HD9.out
  have hbb9 := Hbb9.out
  have hown9 := Hown9.out
  have hro := Hro.out
  clear Hb9 HX9 HD9 Hbb9 Hown9 Hro
  have hOlt : ∀ g, BlkOf OA g → W.heap.size ≤ g ∧ g < w9.heap.size := fun g hg => by
    obtain ⟨ad, rfl, rfl⟩ := hg
    exact hown9.lt _ rfl
  have hon8 : (bn : Int) ≤ oc := by omega
  have hoc2 : oc ≤ 9223372036854775807 := by unfold maxLen at hoc; omega
  have hnil := own_nilcap hown9
  have hWsz : X < W.heap.size := HX.out.lt
  have hsvlt : ∀ k, sv.ownBlock = some k → k < W.heap.size := fun k hk => (HD.out.chip.row.lt k hk).2
  have hloW : loR ≤ W.heap.size := HD.out.lo.2
  clear ky4
  by_cases hm : MayP a bn
  · have h6 := hm.2.2.2.2
    obtain ⟨ws', hwl, hfl, hwu⟩ := flat_of (bn / 8) xs (by rw [Hxs.out]; omega) Hxb.out
    have hbn8 : bn = 8 * ws'.length := by omega
    rw [← hfl] at hown9 hro
    have hb65 : bn ≤ 65536 := by omega
    have Hm := Lib.hid hm
    have Hown9 := Lib.hid hown9
    have Hro := Lib.hid hro
    have HD9 := Lib.hid hD9
    have HX9 := Lib.hid hX9
    have Hbb9 := Lib.hid hbb9
    have Hbn8 := Lib.hid hbn8
    have Hwl := Lib.hid hwl
    have Hfl := Lib.hid hfl
    have Hwu := Lib.hid hwu
    have H6 := Lib.hid h6
    have Hnil := Lib.hid hnil
    have HOlt := Lib.hid hOlt
    have Hsvlt := Lib.hid hsvlt
    clear hsvlt hOlt hnil h6 hwu hfl hwl hbn8 hbb9 hX9 hD9 hro hown9 hm
    clear kx0 kx1 kx2 kx3 kx4 hg9 hat9
    refine (restack_in HD9.out.chip OA bn oc ws' w9.heap.size Hro.out Hbn8.out (Nat.le_refl _) Hnil.out Hwu.out a Hm.out).mono ?_
    rintro e w10 ⟨rfl, sv', hC10, hK10, hsv'⟩
    obtain ⟨hE, hb10⟩ := HD9.out.chipTo hC10 (hK10.mono (fun i _ hi => .inl hi))
    have hown10 := hK10.own Hown9.out (fun k h1 h2 => by subst h2; exact own_blk_ne Hown9.out HD9.out.chip.blk (by decide) h1)
    have hX10 := hK10.blk HX9.out (fun e => hXp e)
    have hbb10 := Hbb9.out.trans hb10
    have hxr0 := XRow.of_own hown10
    have hr10 := Hr.out.below hbb10
    have HE := Lib.hid hE
    have Hown10 := Lib.hid hown10
    have HX10 := Lib.hid hX10
    have Hbb10 := Lib.hid hbb10
    have Hxr0 := Lib.hid hxr0
    have Hr10 := Lib.hid hr10
    have Hsv' := Lib.hid hsv'
    clear hsv' hr10 hxr0 hbb10 hX10 hown10 hE
    clear hC10 hK10 hb10
    go_wp2_with fail
    go_loopw [229] (fun i wq => ∃ j : Nat, j ≤ bn ∧ i = .int .i64 j ∧ XRow wq OA bn W.heap.size ∧ Keeps (BlkOf OA) w10 wq) (fun i _ => bn - (intOf i).toNat)
    case atStart => exact ⟨0, by omega, rfl, Hxr0.out, Keeps.refl _ _⟩
    case round =>
      obtain ⟨j, hj, rfl, hxr, hkq⟩ := hrel
      by_cases hjn : j < bn
      · obtain ⟨g, cur, hA, hgB, hBk, hcur⟩ := hxr (by omega)
        subst hA
        obtain ⟨y, hy⟩ := hcur j hjn
        have kz := hBk.cell j
        rw [hy] at kz
        have fz := hBk.frozen j
        have hjnI : (j : Int) < bn := by omega
        have Hy := Lib.hid hy
        have HBk := Lib.hid hBk
        have Hcur := Lib.hid hcur
        have Hkq := Lib.hid hkq
        have Hxr := Lib.hid hxr
        clear hxr hkq hcur hBk hy
        go_wp2_with fail
        refine ⟨⟨j + 1, by omega, by go_num, XRow.set hgB HBk.out Hcur.out _, Hkq.out.setCell (p := ⟨g, j, none⟩) (.inl ⟨_, rfl, rfl⟩) _⟩, by simp [intOf]; omega⟩
      · have hgF : ∀ g, BlkOf OA g → loR ≤ g ∧ (∃ cur, Blk w10 g 5 cur) ∧ sv'.ownBlock ≠ some g := fun g hg => by
          obtain ⟨o1, o2⟩ := HOlt.out g hg
          refine ⟨by omega, ?_, fun e => by have := Hsv'.out g e; omega⟩
          obtain ⟨ad, rfl, rfl⟩ := hg
          exact own_blk Hown10.out rfl
        obtain ⟨hG, hbG⟩ := HE.out.keepG hkq hgF
        have hXq := hkq.blk HX10.out (fun e => by have := HOlt.out X e; omega)
        have hbbq := Hbb10.out.trans hbG
        have hrq := Hr.out.below hbbq
        have kb := hG.ref.base_
        have fb := hG.ref.blk.frozen 3
        have kx0 := Blk.cell hXq 0
        have kx1 := Blk.cell hXq 1
        have kx2 := Blk.cell hXq 2
        have kx3 := Blk.cell hXq 3
        have kx4 := Blk.cell hXq 4
        simp only [List.getElem?_toArray, List.getElem?_cons_zero, List.getElem?_cons_succ] at kx0 kx1 kx2 kx3 kx4
        have HgF := Lib.hid hgF
        have HG := Lib.hid hG
        have HXq := Lib.hid hXq
        have Hbbq := Lib.hid hbbq
        have Hrq := Lib.hid hrq
        have Hkq := Lib.hid hkq
        have Hxr := Lib.hid hxr
        clear hxr hkq hrq hbbq hXq hG hgF
        clear hbG
        go_wp2_with fail
        refine (rmay_yes _ a bn Hm.out).mono ?_
        rintro e w11 ⟨rfl, rfl⟩
        go_upto_region 49 with fail
        obtain ⟨V1, hV1⟩ : ∃ V1, V1 = wr.setCell ⟨q, 3, none⟩ (.int .u64 a) := ⟨_, rfl⟩
        have hR1 := HG.out.ref.setBase (b' := a) ⟨Hm.out.1, Hm.out.2.1, Hm.out.2.2.1⟩
        have hK1 : Keeps (RefS q rg wg) wr (wr.setCell ⟨q, 3, none⟩ (.int .u64 a)) := (Keeps.refl _ wr).setCell (p := ⟨q, 3, none⟩) (.inl (.inl rfl)) _
        obtain ⟨hG1, hbG1⟩ := HG.out.refTo hR1 hK1
        have hX1 := HXq.out.far (p := ⟨q, 3, none⟩) (by show X ≠ q; omega) (.int .u64 a)
        rw [← hV1] at hG1 hbG1 hX1 ⊢
        have hbb1 := Hbbq.out.trans hbG1
        have hr1 := Hr.out.below hbb1
        clear kx0 kx1 kx2 kx3 kx4 kb fb
        have kx0 := Blk.cell hX1 0
        have kx1 := Blk.cell hX1 1
        have kx2 := Blk.cell hX1 2
        have kx3 := Blk.cell hX1 3
        have kx4 := Blk.cell hX1 4
        simp only [List.getElem?_toArray, List.getElem?_cons_zero, List.getElem?_cons_succ] at kx0 kx1 kx2 kx3 kx4
        have HV1 := Lib.hid hV1
        have HG1 := Lib.hid hG1
        have HX1 := Lib.hid hX1
        have Hbb1 := Lib.hid hbb1
        have Hr1 := Lib.hid hr1
        clear hr1 hbb1 hX1 hG1 hV1
        clear hR1 hK1 hbG1
        go_wp2_with fail
        refine (rwords_any V1 bA bn bc loC ws' (by rw [Hfl.out]; exact Hr1.out) Hbn8.out hbn hbc (by have := HG1.out.lo; omega) Hwu.out hb65).mono ?_
        rintro e w12 ⟨g', rfl, hg', hB12, hb12⟩
        have hG2 := HG1.out.below hb12
        have hlo1 := HG1.out.lo
        have hrl := HG1.out.ref.rblk.lt
        have kw := hG2.ref.words_
        have fw := hG2.ref.blk.frozen 4
        have hR2 := hG2.ref.setWords hB12 (by omega) (by omega) Hwu.out (by have := Hbn8.out; omega)
        have hK2 : Keeps (RefS q rg wg) w12 (w12.setCell ⟨q, 4, none⟩ (.slice (some ⟨g', 0, none⟩) ws'.length ws'.length)) := (Keeps.refl _ w12).setCell (p := ⟨q, 4, none⟩) (.inl (.inl rfl)) _
        obtain ⟨hG3, hbG3⟩ := hG2.refTo hR2 hK2
        have hbb3 := (Hbb1.out.trans (hb12.mono (by omega))).trans hbG3
        have HG2 := Lib.hid hG2
        have HG3 := Lib.hid hG3
        have Hbb3 := Lib.hid hbb3
        have HR2 := Lib.hid hR2
        have HK2 := Lib.hid hK2
        have HB12 := Lib.hid hB12
        have Hb12 := Lib.hid hb12
        clear hb12 hB12 hK2 hR2 hbb3 hG3 hG2
        clear hbG3
        go_wp2_with fail
        go_ret
        exact ⟨rfl, ⟨_, _, _, _, _, _, HG3.out⟩, Hbb3.out⟩
  · have Hm := Lib.hid hm
    have Hown9 := Lib.hid hown9
    have Hro := Lib.hid hro
    have HD9 := Lib.hid hD9
    have HX9 := Lib.hid hX9
    have Hbb9 := Lib.hid hbb9
    have Hnil := Lib.hid hnil
    have HOlt := Lib.hid hOlt
    have Hsvlt := Lib.hid hsvlt
    clear hsvlt hOlt hnil hbb9 hX9 hD9 hro hown9 hm
    clear kx0 kx1 kx2 kx3 kx4 hg9 hat9
    refine (restack_out _ p a OA bn oc Hwa.out.1 Hm.out (by unfold maxLen; omega)).mono ?_
    rintro e w10 ⟨rfl, rfl⟩
    have hxr0 := XRow.of_own Hown9.out
    have Hxr0 := Lib.hid hxr0
    clear hxr0
    go_wp2_with fail
    go_loopw [229] (fun i wq => ∃ j : Nat, j ≤ bn ∧ i = .int .i64 j ∧ XRow wq OA bn W.heap.size ∧ Keeps (BlkOf OA) w9 wq) (fun i _ => bn - (intOf i).toNat)
    case atStart => exact ⟨0, by omega, rfl, Hxr0.out, Keeps.refl _ _⟩
    case round =>
      obtain ⟨j, hj, rfl, hxr, hkq⟩ := hrel
      by_cases hjn : j < bn
      · obtain ⟨g, cur, hA, hgB, hBk, hcur⟩ := hxr (by omega)
        subst hA
        obtain ⟨y, hy⟩ := hcur j hjn
        have kz := hBk.cell j
        rw [hy] at kz
        have fz := hBk.frozen j
        have hjnI : (j : Int) < bn := by omega
        have Hy := Lib.hid hy
        have HBk := Lib.hid hBk
        have Hcur := Lib.hid hcur
        have Hkq := Lib.hid hkq
        have Hxr := Lib.hid hxr
        clear hxr hkq hcur hBk hy
        go_wp2_with fail
        refine ⟨⟨j + 1, by omega, by go_num, XRow.set hgB HBk.out Hcur.out _, Hkq.out.setCell (p := ⟨g, j, none⟩) (.inl ⟨_, rfl, rfl⟩) _⟩, by simp [intOf]; omega⟩
      · have hgF : ∀ g, BlkOf OA g → loR ≤ g ∧ (∃ cur, Blk w9 g 5 cur) ∧ sv.ownBlock ≠ some g := fun g hg => by
          obtain ⟨o1, o2⟩ := HOlt.out g hg
          refine ⟨by omega, ?_, fun e => by have := Hsvlt.out g e; omega⟩
          obtain ⟨ad, rfl, rfl⟩ := hg
          exact own_blk Hown9.out rfl
        obtain ⟨hG, hbG⟩ := HD9.out.keepG hkq hgF
        have hXq := hkq.blk HX9.out (fun e => by have := HOlt.out X e; omega)
        have hbbq := Hbb9.out.trans hbG
        have kx0 := Blk.cell hXq 0
        have kx1 := Blk.cell hXq 1
        have kx2 := Blk.cell hXq 2
        have kx3 := Blk.cell hXq 3
        have kx4 := Blk.cell hXq 4
        simp only [List.getElem?_toArray, List.getElem?_cons_zero, List.getElem?_cons_succ] at kx0 kx1 kx2 kx3 kx4
        have HgF := Lib.hid hgF
        have HG := Lib.hid hG
        have HXq := Lib.hid hXq
        have Hbbq := Lib.hid hbbq
        have Hkq := Lib.hid hkq
        have Hxr := Lib.hid hxr
        clear hxr hkq hbbq hXq hG hgF
        clear hbG
        go_wp2_with fail
        refine (rmay_no _ a bn Hwa.out.1 Hm.out).mono ?_
        rintro e w11 ⟨rfl, rfl⟩
        go_wp2_with fail
        go_ret
        exact ⟨rfl, ⟨_, _, _, _, _, _, HG.out⟩, Hbbq.out⟩
end Go.Proofs.Ytnnlhhokljjghaa
