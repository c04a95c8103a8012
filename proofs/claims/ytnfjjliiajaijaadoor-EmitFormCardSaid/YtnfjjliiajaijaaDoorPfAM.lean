/- Part of the proof, named by its texts: LvF IrFresh LvG. No condition of its own. -/
import Derived.Test.YtnfjjliiajaijaaDoorPfAA
import Derived.Test.YtnfjjliiajaijaaDoorPfAL
import Derived.Test.YtnfjjliiajaijaaDoorPfAE
set_option linter.unusedVariables false
set_option linter.unusedSimpArgs false
set_option maxRecDepth 100000
set_option maxHeartbeats 16000000
namespace Go.Proofs.YtnfjjliiajaijaaDoor
open Go.RowKit
structure Fam where
 g : Nat -> Nat
 h : Nat -> Nat
 c : Nat -> Nat
 cur : Nat -> Array Value
def zij (n : Nat) (F : Fam) (k : Nat) : It := .blk (F.g k) 145 #[.int .i64 (n : Nat), .slice (some ⟨F.h k, 0, none⟩) ((n + 63) / 64) (F.c k)]
def zhI (F : Fam) (k : Nat) : It := .blk (F.h k) 53 (F.cur k)
def zaN (n M : Nat) (F : Fam) : List It := (List.range (2 * M)).map fun i => if i % 2 = 0 then zij n F (i / 2) else zhI F (i / 2)
def zbV (n M : Nat) (F : Fam) (S : ze4) : Prop := n <= 1048576 /\ ∀ k, k < M -> (n + 63) / 64 <= F.c k /\ F.c k <= maxLen /\ ∀ j, j < (n + 63) / 64 -> (F.cur k)[j]? = some (.int .u64 ((zcg (S k) j : Nat) : Int))
section
variable {n M k : Nat} {F F' : Fam} {S : ze4}
theorem zcj : (zaN n M F).length = 2 * M := by simp [zaN]
theorem ziL (h : k < M) : (zaN n M F)[2 * k]? = some (zij n F k) := by
 unfold zaN;rw [List.getElem?_map, List.getElem?_range (by omega)];simp [show 2 * k % 2 = 0 by omega, show 2 * k / 2 = k by omega]
theorem zfj (h : k < M) : (zaN n M F)[2 * k + 1]? = some (zhI F k) := by
 unfold zaN;rw [List.getElem?_map, List.getElem?_range (by omega)];simp [show (2 * k + 1) % 2 = 1 by omega, show (2 * k + 1) / 2 = k by omega]
theorem zhy (h : ∀ k, k < M -> F.g k = F'.g k /\ F.h k = F'.h k /\ F.c k = F'.c k /\ F.cur k = F'.cur k) : zaN n M F = zaN n M F' := by
 unfold zaN
 refine List.map_congr_left fun i hi => ?_
 rw [List.mem_range] at hi;obtain ⟨h1, h2, h3, h4⟩ := h (i / 2) (by omega);unfold zij zhI;rw [h1, h2, h3, h4]
theorem zjv (h : k < M) (cur : Array Value) : (zaN n M F).set (2 * k + 1) (.blk (F.h k) 53 cur) = zaN n M { F with cur := zbN F.cur k cur } := by
 refine List.ext_getElem? fun i => ?_
 rw [List.getElem?_set, zcj]
 by_cases hi : 2 * k + 1 = i
 ·subst hi;rw [if_pos rfl, if_pos (by omega), zfj h];show some (It.blk (F.h k) _ cur) = some (It.blk (F.h k) _ (zbN F.cur k cur k));rw [zei]
 ·rw [if_neg hi];unfold zaN;rw [List.getElem?_map, List.getElem?_map]
  by_cases h2 : i < 2 * M
  ·rw [List.getElem?_range h2];simp only [Option.map_some]
   by_cases h3 : i % 2 = 0
   ·rw [if_pos h3, if_pos h3]; rfl
   ·rw [if_neg h3, if_neg h3];show some (It.blk (F.h (i / 2)) _ (F.cur (i / 2))) = some (It.blk (F.h (i / 2)) _ (zbN F.cur k cur (i / 2)));rw [zdL (by omega)]
  ·rw [List.getElem?_eq_none (by simp; omega)]; rfl
theorem zfH : zaN n (M + 1) F = zaN n M F ++ [zij n F M, zhI F M] := by
 unfold zaN;rw [show 2 * (M + 1) = 2 * M + 1 + 1 by omega, List.range_succ, List.range_succ, List.append_assoc, List.map_append];simp [show 2 * M % 2 = 0 by omega, show 2 * M / 2 = M by omega, show (2 * M + 1) % 2 = 1 by omega, show (2 * M + 1) / 2 = M by omega]
theorem zbV.set (h : zbV n M F S) {cur : Array Value} {P : Nat -> Bool} (hc : ∀ j, j < (n + 63) / 64 -> cur[j]? = some (.int .u64 ((zcg P j : Nat) : Int))) : zbV n M { F with cur := zbN F.cur k cur } (zbN S k P) := by
 refine ⟨h.1, fun k' hk' => ?_⟩;obtain ⟨h1, h2, h3⟩ := h.2 k' hk';refine ⟨h1, h2, fun j hj => ?_⟩
 by_cases he : k' = k
 ·subst he;show (zbN F.cur k' cur k')[j]? = _;rw [zei, zei]; exact hc j hj
 ·show (zbN F.cur k cur k')[j]? = _;rw [zdL he, zdL he]; exact h3 j hj
end
section
variable {w w' : World} {base : Nat} {X : EmX} {E : EmS} {rest rest' l1 l2 : List It} {x x' y : It} {n M k i : Nat} {F : Fam} {S : ze4} {P : Nat -> Bool}
theorem zaz.idx (h : zaz w base X E rest) (hi : rest[i]? = some x) : x.At w base := by
 obtain ⟨cv, sv, zv, nv, Mc, J, L, lvs, h1, hI⟩ := h;exact hI.each x (List.mem_append_right _ (List.mem_append_right _ (List.mem_of_getElem? hi)))
theorem zaz.changeR (h : zaz w base X E rest) (hi : rest[i]? = some x) (hg : w.grownBy w' x.block) (hx : x'.At w' base) (hb : x'.block = x.block ∨ ∀ b, x'.block = some b -> w.heap.size <= b) : zaz w' base X E (rest.set i x') := by
 obtain ⟨cv, sv, zv, nv, Mc, J, L, lvs, h1, hI⟩ := h;obtain ⟨a, ha⟩ := mn ((za1 X E cv sv zv nv Mc J L lvs).length + (zaM E.sites lvs).length)
 have hi' : (za1 X E cv sv zv nv Mc J L lvs ++ (zaM E.sites lvs ++ rest))[a + i]? = some x := by
  rw [List.getElem?_append_right (by omega), List.getElem?_append_right (by omega), <- hi]
  congr 1; omega
 have hI2 := hI.change hi' hg hx hb;refine ⟨cv, sv, zv, nv, Mc, J, L, lvs, h1, ?_⟩;rw [List.set_append_right _ _ (by omega), List.set_append_right _ _ (by omega), show a + i - (za1 X E cv sv zv nv Mc J L lvs).length - (zaM E.sites lvs).length = i by omega] at hI2;exact hI2
theorem zaz.subR (h : zaz w base X E rest) (hs : rest'.Sublist rest) : zaz w base X E rest' := by
 obtain ⟨cv, sv, zv, nv, Mc, J, L, lvs, h1, hI⟩ := h;exact ⟨cv, sv, zv, nv, Mc, J, L, lvs, h1, hI.sub ((List.Sublist.refl _).append ((List.Sublist.refl _).append hs))⟩
theorem zaz.extend2 (h : zaz w base X E rest) (hg : w.grownBy w' none) (hx : x.At w' base) (hy : y.At w' base) (hbx : ∀ b, x.block = some b -> w.heap.size <= b) (hby : ∀ b, y.block = some b -> w.heap.size <= b) (hxy : ∀ b, x.block = some b -> y.block ≠ some b) : zaz w' base X E (x :: y :: rest) := by
 have h1 := h.extend hg hy hby;obtain ⟨cv, sv, zv, nv, Mc, J, L, lvs, hl, hI⟩ := h;obtain ⟨l, hle⟩ := mn (za1 X E cv sv zv nv Mc J L lvs ++ (zaM E.sites lvs ++ rest));rw [hle] at hI;have hI1 : zaA w' base (y :: l) := hI.new hg hy hby
 have hI2 : zaA w' base (x :: y :: l) := hI1.cons hx fun b hb z hz => by
  rcases List.mem_cons.1 hz with rfl | hz
  ·exact hxy b hb
  ·intro hzb;have h1 := hbx b hb;have h2 := ((hI.each z hz).lt b hzb).2
   omega
 refine ⟨cv, sv, zv, nv, Mc, J, L, lvs, hl, hI2.perm ?_⟩;rw [<- hle, <- List.append_assoc, <- List.append_assoc];exact (List.perm_middle.symm.cons x).trans List.perm_middle.symm
theorem zbV.setF (ok : zbV n M F S) (hk : k < M) (hg : (zij n F k).At w base) (hh : (zhI F k).At w base) : zcF w (F.g k) (F.h k) n (S k) := by
 obtain ⟨h1, h2, h3⟩ := ok.2 k hk;exact ⟨⟨F.c k, h1, h2, hg.2⟩, ⟨F.cur k, hh.2, h3⟩, ok.1⟩
theorem zaz.fam (h : zaz w base X E (l1 ++ (zaN n M F ++ l2))) (ok : zbV n M F S) (hk : k < M) : zcF w (F.g k) (F.h k) n (S k) := by
 have h1 : (l1 ++ (zaN n M F ++ l2))[l1.length + 2 * k]? = some (zij n F k) := by
  rw [List.getElem?_append_right (by omega), List.getElem?_append_left (by rw [zcj]; omega), <- ziL hk]
  congr 1; omega
 have h2 : (l1 ++ (zaN n M F ++ l2))[l1.length + (2 * k + 1)]? = some (zhI F k) := by
  rw [List.getElem?_append_right (by omega), List.getElem?_append_left (by rw [zcj]; omega), <- zfj (n := n) hk]
  congr 1; omega
 exact ok.setF hk (h.idx h1) (h.idx h2)
theorem zaz.famPut (h : zaz w base X E (l1 ++ (zaN n M F ++ l2))) (ok : zbV n M F S) (hk : k < M) (hg : w.grownBy w' (some (F.h k))) (hs : zcF w' (F.g k) (F.h k) n P) : ∃ F', F'.g = F.g /\ F'.h = F.h /\ zaz w' base X E (l1 ++ (zaN n M F' ++ l2)) /\ zbV n M F' (zbN S k P) := by
 obtain ⟨cur, hcur, hc⟩ := hs.words
 have h2 : (l1 ++ (zaN n M F ++ l2))[l1.length + (2 * k + 1)]? = some (zhI F k) := by
  rw [List.getElem?_append_right (by omega), List.getElem?_append_left (by rw [zcj]; omega), <- zfj (n := n) hk]
  congr 1; omega
 have h3 := h.changeR h2 hg (x' := .blk (F.h k) 53 cur) ⟨(h.idx h2).1, hcur⟩ (.inl rfl);refine ⟨{ F with cur := zbN F.cur k cur }, rfl, rfl, ?_, ok.set hc⟩;rw [List.set_append_right _ _ (by omega), show l1.length + (2 * k + 1) - l1.length = 2 * k + 1 by omega, List.set_append_left _ _ (by rw [zcj]; omega), zjv hk] at h3;exact h3
theorem zaz.famLt (h : zaz w base X E (l1 ++ (zaN n M F ++ l2))) (hk : k < M) : base <= F.g k /\ base <= F.h k /\ F.h k < w.heap.size := by
 have h1 : (l1 ++ (zaN n M F ++ l2))[l1.length + 2 * k]? = some (zij n F k) := by
  rw [List.getElem?_append_right (by omega), List.getElem?_append_left (by rw [zcj]; omega), <- ziL hk]
  congr 1; omega
 have h2 : (l1 ++ (zaN n M F ++ l2))[l1.length + (2 * k + 1)]? = some (zhI F k) := by
  rw [List.getElem?_append_right (by omega), List.getElem?_append_left (by rw [zcj]; omega), <- zfj (n := n) hk]
  congr 1; omega
 exact ⟨(h.idx h1).1, (h.idx h2).1, (h.idx h2).2.lt⟩
theorem zaz.famOne {g h' : Nat} (h : zaz w base X E rest) (hb : Below w.heap.size w w') (hg : w.heap.size <= g) (hh : w.heap.size <= h') (hs : zcF w' g h' n P) : ∃ F', F'.g 0 = g /\ F'.h 0 = h' /\ zaz w' base X E (zaN n 1 F' ++ rest) /\ zbV n 1 F' (fun _ => P) := by
 have hne := hs.ne;have hbz := h.size;obtain ⟨c, h1, h2, hbg⟩ := hs.top;obtain ⟨cur, hbh, h3⟩ := hs.words;refine ⟨⟨fun _ => g, fun _ => h', fun _ => c, fun _ => cur⟩, rfl, rfl, ?_, hs.le, fun _ _ => ⟨h1, h2, h3⟩⟩;exact h.extend2 (x := zij n ⟨fun _ => g, fun _ => h', fun _ => c, fun _ => cur⟩ 0) (y := zhI ⟨fun _ => g, fun _ => h', fun _ => c, fun _ => cur⟩ 0) (zah hb none) ⟨Nat.le_trans hbz hg, hbg⟩ ⟨Nat.le_trans hbz hh, hbh⟩ (fun b e => by injection e with e; subst e; exact hg) (fun b e => by injection e with e; subst e; exact hh) (fun b e e' => by injection e with e; injection e' with e'; exact hne (e.trans e'.symm))
theorem zl1 {g2 h2 : Nat} {T : Nat -> Bool} (h : zaz w base X E (l1 ++ (zaN n M F ++ l2))) (ok : zbV n M F S) (hk : k < M) (ht : zcF w g2 h2 n T) (hT : ∀ i, n <= i -> T i = false) (htab : TabX w) (htb : 1 < base) :
  Calls Tryd.prog 62 #[.pointer (some ⟨F.g k, 0, none⟩), .pointer (some ⟨g2, 0, none⟩)] w fun e w' => e = .returned (.bool (newS n (S k) T)) /\ (∃ F', F'.g = F.g /\ F'.h = F.h /\ zaz w' base X E (l1 ++ (zaN n M F' ++ l2)) /\ zbV n M F' (zbN S k (orS (S k) T))) /\ Below base w w' := by
 obtain ⟨_, hl2, _⟩ := h.famLt hk;refine (zmk (h.fam ok hk) ht hT htab (by omega)).mono ?_;rintro e w' ⟨he, hs, hg⟩;exact ⟨he, h.famPut ok hk hg hs, (Below.refl base w).grown hg h.size (fun b e => by injection e with e; omega)⟩
theorem zmK {p : Nat} (h : zaz w base X E (l1 ++ (zaN n M F ++ l2))) (ok : zbV n M F S) (hk : k < M) (hp : p < n) :
  Calls Tryd.prog 65 #[.pointer (some ⟨F.g k, 0, none⟩), .int .i64 (p : Nat)] w fun e w' => (∃ b, e = .returned (.bool b)) /\ (∃ F', F'.g = F.g /\ F'.h = F.h /\ zaz w' base X E (l1 ++ (zaN n M F' ++ l2)) /\ zbV n M F' (zbN S k (ziO (S k) p))) /\ Below base w w' := by
 obtain ⟨_, hl2, _⟩ := h.famLt hk;refine (ziP (h.fam ok hk) hp).mono ?_;rintro e w' ⟨he, hs, hg⟩;exact ⟨⟨_, he⟩, h.famPut ok hk hg hs, (Below.refl base w).grown hg h.size (fun b e => by injection e with e; omega)⟩
theorem zmE {p : Nat} (h : zaz w base X E (l1 ++ (zaN n M F ++ l2))) (ok : zbV n M F S) (hk : k < M) (hp : p < n) :
  Calls Tryd.prog 64 #[.pointer (some ⟨F.g k, 0, none⟩), .int .i64 (p : Nat)] w fun e w' => (∃ b, e = .returned (.bool b)) /\ (∃ F', F'.g = F.g /\ F'.h = F.h /\ zaz w' base X E (l1 ++ (zaN n M F' ++ l2)) /\ zbV n M F' (zbN S k (zjB (S k) p))) /\ Below base w w' := by
 obtain ⟨_, hl2, _⟩ := h.famLt hk;refine (zlI (h.fam ok hk) hp).mono ?_;rintro e w' ⟨he, hs, hg⟩;exact ⟨⟨_, he⟩, h.famPut ok hk hg hs, (Below.refl base w).grown hg h.size (fun b e => by injection e with e; omega)⟩
theorem zlL (h : zaz w base X E (l1 ++ (zaN n M F ++ l2))) (ok : zbV n M F S) (hk : k < M) (hn : 0 < n) :
  Calls Tryd.prog 63 #[.pointer (some ⟨F.g k, 0, none⟩)] w fun e w' => ∃ F1, e = .returned (.pointer (some ⟨F1.g 0, 0, none⟩)) /\ zaz w' base X E (zaN n 1 F1 ++ (l1 ++ (zaN n M F ++ l2))) /\ zbV n 1 F1 (fun _ => S k) /\ Below base w w' := by
 refine (zkN (h.fam ok hk) hn).mono ?_;rintro e w' ⟨g', h', he, hg, hh, hs, hb⟩;obtain ⟨F1, e1, _, h3, h4⟩ := h.famOne hb hg hh hs;exact ⟨F1, by rw [e1]; exact he, h3, h4, hb.mono h.size⟩
end
def zeA (B : Nat) (w : World) (v : Value) (l : List Int) : Prop := w.ownsRow B 3 1 v l.length (l.map (Value.int .i64))
theorem zeA.nil (B : Nat) (w : World) : zeA B w (.slice none 0 0) [] := World.ownsRow_nil _ _ _ _
theorem zeA.lower {B B' : Nat} {w : World} {v : Value} {l : List Int} (h : zeA B w v l) (hb : B' <= B) : zeA B' w v l := zbD h hb
theorem zeA.new {B : Nat} (w : World) (l : List Int) (hl : l.length <= 100) {g n : Nat} {cs : Array Value} (hg : g = w.heap.size) (hn : n = l.length) (hc : cs = (l.map (Value.int .i64)).toArray) (hB : B <= w.heap.size) : zeA B (w.alloc (.cells cs 3)) (.slice (some ⟨g, 0, none⟩) n n) l := by
 subst hg hn hc;exact zc3 (Blk.new w 3 _) hB (by simp) (by simp) (by unfold maxLen; omega)
theorem zlm (w : World) (x : zam) (av : Value) :
  Calls Tryd.prog 54 #[.agg (zae x av).toArray] w fun e w' => (∃ v, e = .returned v /\ zeA w.heap.size w' v (zaR x)) /\ Below w.heap.size w w' := by
 obtain ⟨op, byo, d, e, a, b, f, cell, imm, args, next, els⟩ := x;have hP := Blk.new w 55 #[.int .u8 op, .int .u8 byo, .int .i64 d, .int .i64 e, .int .i64 a, .int .i64 b, .int .i64 f, .int .i64 cell, .int .u64 imm, av, .int .i64 next, .int .i64 els];have kp0 := bc hP 0;have kp10 := bc hP 10;have kp11 := bc hP 11;have hb := (Below.refl w.heap.size w).alloc (Nat.le_refl _) (.cells #[.int .u8 op, .int .u8 byo, .int .i64 d, .int .i64 e, .int .i64 a, .int .i64 b, .int .i64 f, .int .i64 cell, .int .u64 imm, av, .int .i64 next, .int .i64 els] 55);simp only [zae];obtain ⟨N, hN⟩ := mn (zaR ⟨op, byo, d, e, a, b, f, cell, imm, args, next, els⟩);rw [hN];unfold zaR at hN;simp only at hN
 by_cases e12 : op = 12 ∨ op = 14 ∨ op = 18
 ·rw [if_pos e12] at hN;subst hN;obtain ⟨Hb, HP⟩ := hd2 hb hP;clear hP hb
  rcases e12 with rfl | rfl | rfl
  all_goals
   go_enter Tryd.func54, Tryd.ntmps54;go_wp2_with fail;go_ret;exact ⟨⟨_, rfl, zeA.nil _ _⟩, Hb.out⟩
 ·rw [if_neg e12] at hN
  have b12 : (op == 12) = false := by rw [beq_eq_false_iff_ne]; omega
  have b14 : (op == 14) = false := by rw [beq_eq_false_iff_ne]; omega
  have b18 : (op == 18) = false := by rw [beq_eq_false_iff_ne]; omega
  by_cases e9 : op = 9
  ·subst e9
   by_cases en : els = next
   ·have bn : (els != next) = false := by simp [en]
    rw [if_neg (fun h => h.2 en), if_neg (by omega)] at hN;subst hN;obtain ⟨Hb, HP, Hen, He12⟩ := hd4 hb hP en e12;clear e12 en hP hb;go_enter Tryd.func54, Tryd.ntmps54;go_wp2_with fail;go_ret;exact ⟨⟨_, rfl, zeA.new _ [next] (by simp) (by simp) rfl rfl Hb.out.size⟩, Hb.out.alloc Hb.out.size _⟩
   ·have bn : (els != next) = true := by simp [en]
    rw [if_pos ⟨rfl, en⟩] at hN;subst hN;obtain ⟨Hb, HP, Hen, He12⟩ := hd4 hb hP en e12;clear e12 en hP hb;go_enter Tryd.func54, Tryd.ntmps54;go_wp2_with fail;go_ret;exact ⟨⟨_, rfl, zeA.new _ [next, els] (by simp) (by simp) rfl rfl Hb.out.size⟩, Hb.out.alloc Hb.out.size _⟩
  ·have b9 : (op == 9) = false := by rw [beq_eq_false_iff_ne]; omega
   rw [if_neg (fun h => e9 h.1)] at hN
   have hcase : (op < 1 /\ N = []) ∨ (¬ op < 1 /\ 18 < op /\ N = []) ∨ (¬ op < 1 /\ ¬ 18 < op /\ N = [next]) := by
    by_cases h1 : op < 1
    ·rw [if_pos (.inl h1)] at hN; exact .inl ⟨h1, hN.symm⟩
    ·by_cases h2 : 18 < op
     ·rw [if_pos (.inr h2)] at hN; exact .inr (.inl ⟨h1, h2, hN.symm⟩)
     ·rw [if_neg (by omega)] at hN; exact .inr (.inr ⟨h1, h2, hN.symm⟩)
   obtain ⟨Hb, HP, He12, He9, HN⟩ := hd5 hb hP e12 e9 hN;clear hN e9 e12 hP hb
   rcases hcase with ⟨h1, rfl⟩ | ⟨h1, h2, rfl⟩ | ⟨h1, h2, rfl⟩
   ·go_enter Tryd.func54, Tryd.ntmps54;go_wp2_with fail;go_ret;exact ⟨⟨_, rfl, zeA.nil _ _⟩, Hb.out⟩
   ·go_enter Tryd.func54, Tryd.ntmps54;go_wp2_with fail;go_ret;exact ⟨⟨_, rfl, zeA.nil _ _⟩, Hb.out⟩
   ·go_enter Tryd.func54, Tryd.ntmps54;go_wp2_with fail;go_ret;exact ⟨⟨_, rfl, zeA.new _ [next] (by simp) (by simp) rfl rfl Hb.out.size⟩, Hb.out.alloc Hb.out.size _⟩
theorem zeo (w : World) (D : Nat) (hD : D <= w.heap.size) (A : Option Addr) (m c : Nat) (ps : List Int) (hP : zal w D 1 A m (ps.map (Value.int .i64))) (hm : ps.length = m) (hmc : m * 8 <= 140737488351232) :
  Calls Tryd.prog 56 #[.slice A m c] w fun e w' => (∃ v, e = .returned v /\ zeA w.heap.size w' v (zbx ps)) /\ Below w.heap.size w w' := by
 obtain ⟨i0, hi0, hz0, hz1, hz2⟩ := info_parts zdQ;obtain ⟨HP, Hm⟩ := hd2 hP hm;clear hm hP;go_enter Tryd.func56, Tryd.ntmps56;go_wp2_with fail
 go_loopw [3, 8] (fun v i wq => ∃ j k : Nat, j <= m /\ k <= j /\ i = .int .i64 j /\ Hid ((zbx (ps.take j)).length = k) /\ wq.ownsRow w.heap.size 3 1 v k ((zbx (ps.take j)).map (Value.int .i64)) /\ Below w.heap.size w wq) (fun _ i _ => m - (intOf i).toNat)
 case atStart => exact ⟨0, 0, by omega, by omega, rfl, Lib.hid rfl, World.ownsRow_nil _ _ _ _, Below.refl _ _⟩
 case round =>
  obtain ⟨j, k, hj, hk, rfl, hkl, hown, hbq⟩ := hrel
  by_cases hjm : j < m
  ·obtain ⟨ad, u0, hA, _, hu0, hce⟩ := (HP.out.below (hbq.mono hD)).at_ hjm;subst hA
   obtain ⟨p, hpj, rfl⟩ : ∃ p, ps[j]? = some p /\ u0 = .int .i64 p := by
    rw [List.getElem?_map, Option.map_eq_some_iff] at hu0;obtain ⟨x, h1, h2⟩ := hu0;exact ⟨x, h1, h2.symm⟩
   have htake : ps.take (j + 1) = ps.take j ++ [p] := by rw [List.take_add_one, hpj]; rfl
   have hmore := zfu (ps.take j) p;rw [<- htake] at hmore;obtain ⟨O, hO⟩ := mn (zbx (ps.take j));rw [hO] at hkl hown hmore;obtain ⟨OA, oc, rfl, hko, hoc, hOr⟩ := zak hown;clear hu0
   by_cases hp0 : 0 <= p
   ·obtain ⟨bc, hbc⟩ := mn (decide (p ∈ O))
    cases bc
    ·have hnew : zbx (ps.take (j + 1)) = O ++ [p] := by
      rw [hmore, zbv, if_pos ⟨hp0, of_decide_eq_false hbc⟩]
     have hsq := hbq.size;obtain ⟨Hkl, Hown, Hmore, HO, Htake, Hpj, Hbc, Hnew⟩ := hd8 hkl hown hmore hO htake hpj hbc hnew;obtain ⟨HOr, Hbq⟩ := hd2 hOr hbq;clear hbq hOr hnew hbc hpj htake hO hmore hown hkl;go_wp2_with fail;refine (zcv wr wr.heap.size OA k oc O (zal.of_own Hown.out) Hkl.out (by omega) p).mono ?_;rintro e w1 ⟨rfl, rfl⟩;rw [Hbc.out]
     go_wp2_with (first
      | (at_builtin
         refine zau _ rfl (.tmp 20) (.tmp 22) _ rfl w.heap.size 3 i0 _ 1 8 Tryd.underlying40 hi0 hz0 hz1 hz2 rfl (by omega) _ k _ rfl (Hown.out.alloc _) (wr.heap.size + 1) (some ⟨wr.heap.size, 0, none⟩) 1 1 [.int .i64 p] rfl (zal.new1 _ _ _) ?c1 ?c2 ?c3 ?c4 ?_
         case c1 => intro u hu; simp only [List.mem_singleton] at hu; subst hu; rfl
         case c2 => simp only [maxLen]; omega
         case c3 => omega
         case c4 => simp; omega
         intro v9 w9 hown9 hg9 hat9))
     have hb9 := (Hbq.out.alloc (by omega) (.cells #[.int .i64 p] 3)).grown hg9 (by simp; omega) (fun g e => (Hown.out.lt g e).1);refine ⟨⟨j + 1, k + 1, by omega, by omega, by go_num, ?_, ?_, hb9⟩, by simp [intOf]; omega⟩
     ·exact Lib.hid (by rw [Hnew.out, List.length_append, Hkl.out]; rfl)
     ·rw [Hnew.out, List.map_append]; exact hown9
    ·have hnew : zbx (ps.take (j + 1)) = O := by
      rw [hmore, zbv, if_neg (fun h => h.2 (of_decide_eq_true hbc))]
     obtain ⟨Hkl, Hown, Hmore, HO, Htake, Hpj, Hbc, Hnew⟩ := hd8 hkl hown hmore hO htake hpj hbc hnew;obtain ⟨HOr, Hbq⟩ := hd2 hOr hbq;clear hbq hOr hnew hbc hpj htake hO hmore hown hkl;go_wp2_with fail;refine (zcv wr wr.heap.size OA k oc O (zal.of_own Hown.out) Hkl.out (by omega) p).mono ?_;rintro e w1 ⟨rfl, rfl⟩;rw [Hbc.out];go_wp2_with fail;refine ⟨⟨j + 1, k, by omega, by omega, by go_num, ?_, ?_, Hbq.out⟩, by simp [intOf]; omega⟩
     ·exact Lib.hid (by rw [Hnew.out, Hkl.out])
     ·rw [Hnew.out]; exact Hown.out
   ·have hnew : zbx (ps.take (j + 1)) = O := by
     rw [hmore, zbv, if_neg (fun h => hp0 h.1)]
    obtain ⟨Hkl, Hown, Hmore, HO, Htake, Hpj, Hnew, HOr⟩ := hd8 hkl hown hmore hO htake hpj hnew hOr;have Hbq := Lib.hid hbq;clear hbq hOr hnew hpj htake hO hmore hown hkl;go_wp2_with fail;refine ⟨⟨j + 1, k, by omega, by omega, by go_num, ?_, ?_, Hbq.out⟩, by simp [intOf]; omega⟩
    ·exact Lib.hid (by rw [Hnew.out, Hkl.out])
    ·rw [Hnew.out]; exact Hown.out
  ·have hfin : zbx (ps.take j) = zbx ps := by rw [List.take_of_length_le (by rw [Hm.out]; omega)]
   rw [hfin] at hown hkl;have hkl' := hkl.out;subst hkl';have hl := hown;obtain ⟨Hl, Hkl, Hown, Hbq, Hfin⟩ := hd5 hl hkl hown hbq hfin;clear hfin hbq hown hkl hl;go_wp2_with fail;go_ret;exact ⟨⟨_, rfl, Hl.out⟩, Hbq.out⟩
theorem zhb (w : World) (x : zam) (av : Value) (D : Nat) (hD : D <= w.heap.size) (hav : zaO .i64 w D av x.args) (hal : x.args.length * 8 <= 140737488351232) :
  Calls Tryd.prog 34 #[.agg (zae x av).toArray] w fun e w' => (∃ v, e = .returned v /\ zeA w.heap.size w' v (zaT x)) /\ Below w.heap.size w w' := by
 obtain ⟨N, hN⟩ := mn (zaT x);rw [hN];unfold zaT at hN;obtain ⟨op, byo, d, e_, a, b, f, cell, imm, args, next, els⟩ := x;simp only at hN hav hal;obtain ⟨AA, ac, rfl, _, _, hAr⟩ := hav.slice;obtain ⟨m, hm⟩ := mn (args.length);rw [hm] at hAr hal;simp only [zae, hm];obtain ⟨G, hG⟩ := nm (w.heap.size);have hP := Blk.new w 55 #[.int .u8 op, .int .u8 byo, .int .i64 d, .int .i64 e_, .int .i64 a, .int .i64 b, .int .i64 f, .int .i64 cell, .int .u64 imm, .slice AA m ac, .int .i64 next, .int .i64 els];have hb := (Below.refl w.heap.size w).alloc (Nat.le_refl _) (.cells #[.int .u8 op, .int .u8 byo, .int .i64 d, .int .i64 e_, .int .i64 a, .int .i64 b, .int .i64 f, .int .i64 cell, .int .u64 imm, .slice AA m ac, .int .i64 next, .int .i64 els] 55);have hA := hAr.below (hb.mono hD);rw [<- hG] at hP;have kp0 := bc hP 0;have kp4 := bc hP 4;have kp5 := bc hP 5;have kp9 := bc hP 9;obtain ⟨V, hV⟩ := nm (w.alloc (.cells #[.int .u8 op, .int .u8 byo, .int .i64 d, .int .i64 e_, .int .i64 a, .int .i64 b, .int .i64 f, .int .i64 cell, .int .u64 imm, .slice AA m ac, .int .i64 next, .int .i64 els] 55));rw [<- hV] at hb hA hP kp0 kp4 kp5 kp9;have hDV : D <= V.heap.size := Nat.le_trans hD hb.size;obtain ⟨Hb, HP, HAr, Hav, HA, Hm, HV, HG⟩ := hd8 hb hP hAr hav hA hm hV hG;clear hG hV hm hA hav hAr hP hb
 by_cases e1 : op = 2 ∨ op = 5 ∨ op = 7 ∨ op = 9 ∨ op = 12 ∨ op = 14 ∨ op = 17 ∨ op = 18
 ·rw [if_pos e1] at hN;subst hN
  rcases e1 with e | e | e | e | e | e | e | e
  all_goals
   subst e;go_enter Tryd.func34, Tryd.ntmps34;go_upto_region 1 with fail;rw [<- HV.out, <- HG.out];go_wp2_with fail;refine (zeo _ (V.heap.size + 1) (by simp) (some ⟨V.heap.size, 0, none⟩) 1 1 [a] (zal.newL' V 3 [a] rfl rfl rfl) rfl (by omega)).mono ?_;rintro e w1 ⟨⟨v, rfl, hL⟩, hb1⟩;have hL := zeA.lower hL (Nat.le_trans Hb.out.size (by simp));have hfin := Hb.out.trans (((Below.refl V.heap.size V).alloc (Nat.le_refl _) (.cells #[.int .i64 a] 3)).trans (hb1.mono (by simp)) |>.mono Hb.out.size);obtain ⟨HL, Hfin⟩ := hd2 hL hfin;clear hfin hL;clear hb1;go_wp2_with fail;go_ret;exact ⟨⟨_, rfl, HL.out⟩, Hfin.out⟩
 rw [if_neg e1] at hN
 by_cases e2 : op = 3 ∨ op = 8
 ·rw [if_pos e2] at hN;subst hN;have He1 := Lib.hid e1;clear e1
  rcases e2 with e | e
  all_goals
   subst e;go_enter Tryd.func34, Tryd.ntmps34;go_upto_region 1 with fail;rw [<- HV.out, <- HG.out];go_wp2_with fail;refine (zeo _ (V.heap.size + 1) (by simp) (some ⟨V.heap.size, 0, none⟩) 2 2 [a, b] (zal.newL' V 3 [a, b] rfl rfl rfl) rfl (by omega)).mono ?_;rintro e w1 ⟨⟨v, rfl, hL⟩, hb1⟩;have hL := zeA.lower hL (Nat.le_trans Hb.out.size (by simp));have hfin := Hb.out.trans (((Below.refl V.heap.size V).alloc (Nat.le_refl _) (.cells #[.int .i64 a, .int .i64 b] 3)).trans (hb1.mono (by simp)) |>.mono Hb.out.size);obtain ⟨HL, Hfin⟩ := hd2 hL hfin;clear hfin hL;clear hb1;go_wp2_with fail;go_ret;exact ⟨⟨_, rfl, HL.out⟩, Hfin.out⟩
 rw [if_neg e2] at hN
 by_cases e3 : op = 11 ∨ op = 13
 ·rw [if_pos e3] at hN;subst hN;obtain ⟨He1, He2⟩ := hd2 e1 e2;clear e2 e1
  rcases e3 with e | e
  all_goals
   subst e;go_enter Tryd.func34, Tryd.ntmps34;go_upto_region 1 with fail;rw [<- HV.out, <- HG.out];go_wp2_with fail;refine (zeo _ D hDV AA m ac args HA.out Hm.out hal).mono ?_;rintro e w1 ⟨⟨v, rfl, hL⟩, hb1⟩;have hL := zeA.lower hL (Nat.le_trans Hb.out.size (by simp));have hfin := Hb.out.trans (hb1.mono Hb.out.size);obtain ⟨HL, Hfin⟩ := hd2 hL hfin;clear hfin hL;clear hb1;go_wp2_with fail;go_ret;exact ⟨⟨_, rfl, HL.out⟩, Hfin.out⟩
 rw [if_neg e3] at hN;subst hN
 have x2 : (op == 2) = false := by rw [beq_eq_false_iff_ne]; omega
 have x3 : (op == 3) = false := by rw [beq_eq_false_iff_ne]; omega
 have x5 : (op == 5) = false := by rw [beq_eq_false_iff_ne]; omega
 have x7 : (op == 7) = false := by rw [beq_eq_false_iff_ne]; omega
 have x8 : (op == 8) = false := by rw [beq_eq_false_iff_ne]; omega
 have x9 : (op == 9) = false := by rw [beq_eq_false_iff_ne]; omega
 have x11 : (op == 11) = false := by rw [beq_eq_false_iff_ne]; omega
 have x12 : (op == 12) = false := by rw [beq_eq_false_iff_ne]; omega
 have x13 : (op == 13) = false := by rw [beq_eq_false_iff_ne]; omega
 have x14 : (op == 14) = false := by rw [beq_eq_false_iff_ne]; omega
 have x17 : (op == 17) = false := by rw [beq_eq_false_iff_ne]; omega
 have x18 : (op == 18) = false := by rw [beq_eq_false_iff_ne]; omega
 obtain ⟨He1, He2, He3⟩ := hd3 e1 e2 e3;clear e3 e2 e1;go_enter Tryd.func34, Tryd.ntmps34;go_upto_region 1 with fail;rw [<- HV.out, <- HG.out];go_wp2_with fail;go_ret;exact ⟨⟨_, rfl, zeA.nil _ _⟩, Hb.out⟩
theorem zf0 (w : World) (x : zam) (av : Value) :
  Calls Tryd.prog 35 #[.agg (zae x av).toArray] w fun e w' => (∃ v, e = .returned v /\ zeA w.heap.size w' v (zaD x)) /\ Below w.heap.size w w' := by
 obtain ⟨N, hN⟩ := mn (zaD x);rw [hN];unfold zaD at hN;obtain ⟨op, byo, d, e_, a, b, f, cell, imm, args, next, els⟩ := x;simp only at hN;simp only [zae];obtain ⟨G, hG⟩ := nm (w.heap.size);have hP := Blk.new w 55 #[.int .u8 op, .int .u8 byo, .int .i64 d, .int .i64 e_, .int .i64 a, .int .i64 b, .int .i64 f, .int .i64 cell, .int .u64 imm, av, .int .i64 next, .int .i64 els];have hb := (Below.refl w.heap.size w).alloc (Nat.le_refl _) (.cells #[.int .u8 op, .int .u8 byo, .int .i64 d, .int .i64 e_, .int .i64 a, .int .i64 b, .int .i64 f, .int .i64 cell, .int .u64 imm, av, .int .i64 next, .int .i64 els] 55);rw [<- hG] at hP;have kp0 := bc hP 0;have kp2 := bc hP 2;have kp3 := bc hP 3;obtain ⟨V, hV⟩ := nm (w.alloc (.cells #[.int .u8 op, .int .u8 byo, .int .i64 d, .int .i64 e_, .int .i64 a, .int .i64 b, .int .i64 f, .int .i64 cell, .int .u64 imm, av, .int .i64 next, .int .i64 els] 55));rw [<- hV] at hb hP kp0 kp2 kp3;obtain ⟨Hb, HP, HV, HG⟩ := hd4 hb hP hV hG;clear hG hV hP hb
 by_cases e1 : op = 1 ∨ op = 2 ∨ op = 3 ∨ op = 4 ∨ op = 6 ∨ op = 7 ∨ op = 11 ∨ op = 16
 ·rw [if_pos e1] at hN;subst hN
  rcases e1 with e | e | e | e | e | e | e | e
  all_goals
   subst e;go_enter Tryd.func35, Tryd.ntmps35;go_upto_region 1 with fail;rw [<- HV.out, <- HG.out];go_wp2_with fail;refine (zeo _ (V.heap.size + 1) (by simp) (some ⟨V.heap.size, 0, none⟩) 1 1 [d] (zal.newL' V 3 [d] rfl rfl rfl) rfl (by omega)).mono ?_;rintro e w1 ⟨⟨v, rfl, hL⟩, hb1⟩;have hL := zeA.lower hL (Nat.le_trans Hb.out.size (by simp));have hfin := Hb.out.trans (((Below.refl V.heap.size V).alloc (Nat.le_refl _) (.cells #[.int .i64 d] 3)).trans (hb1.mono (by simp)) |>.mono Hb.out.size);obtain ⟨HL, Hfin⟩ := hd2 hL hfin;clear hfin hL;clear hb1;go_wp2_with fail;go_ret;exact ⟨⟨_, rfl, HL.out⟩, Hfin.out⟩
 rw [if_neg e1] at hN
 by_cases e2 : op = 15
 ·rw [if_pos e2] at hN;subst hN;have He1 := Lib.hid e1;clear e1;subst e2;go_enter Tryd.func35, Tryd.ntmps35;go_upto_region 1 with fail;rw [<- HV.out, <- HG.out];go_wp2_with fail;refine (zeo _ (V.heap.size + 1) (by simp) (some ⟨V.heap.size, 0, none⟩) 2 2 [d, e_] (zal.newL' V 3 [d, e_] rfl rfl rfl) rfl (by omega)).mono ?_;rintro e w1 ⟨⟨v, rfl, hL⟩, hb1⟩;have hL := zeA.lower hL (Nat.le_trans Hb.out.size (by simp));have hfin := Hb.out.trans (((Below.refl V.heap.size V).alloc (Nat.le_refl _) (.cells #[.int .i64 d, .int .i64 e_] 3)).trans (hb1.mono (by simp)) |>.mono Hb.out.size);obtain ⟨HL, Hfin⟩ := hd2 hL hfin;clear hfin hL;clear hb1;go_wp2_with fail;go_ret;exact ⟨⟨_, rfl, HL.out⟩, Hfin.out⟩
 rw [if_neg e2] at hN;subst hN
 have x1 : (op == 1) = false := by rw [beq_eq_false_iff_ne]; omega
 have x2 : (op == 2) = false := by rw [beq_eq_false_iff_ne]; omega
 have x3 : (op == 3) = false := by rw [beq_eq_false_iff_ne]; omega
 have x4 : (op == 4) = false := by rw [beq_eq_false_iff_ne]; omega
 have x6 : (op == 6) = false := by rw [beq_eq_false_iff_ne]; omega
 have x7 : (op == 7) = false := by rw [beq_eq_false_iff_ne]; omega
 have x11 : (op == 11) = false := by rw [beq_eq_false_iff_ne]; omega
 have x15 : (op == 15) = false := by rw [beq_eq_false_iff_ne]; omega
 have x16 : (op == 16) = false := by rw [beq_eq_false_iff_ne]; omega
 obtain ⟨He1, He2⟩ := hd2 e1 e2;clear e2 e1;go_enter Tryd.func35, Tryd.ntmps35;go_upto_region 1 with fail;rw [<- HV.out, <- HG.out];go_wp2_with fail;go_ret;exact ⟨⟨_, rfl, zeA.nil _ _⟩, Hb.out⟩
def zcC (G : Nat -> Nat) (o j N : Nat) : List Value := (List.range N).map fun k => if k < j then .pointer (some ⟨G (2 * k + o), 0, none⟩) else .pointer none
section
variable {G G' : Nat -> Nat} {o j k N : Nat}
theorem zel : (zcC G o j N).length = N := by simp [zcC]
theorem zj4 : zcC G o 0 N = List.replicate N (.pointer none) := by
 unfold zcC
 refine List.ext_getElem? fun k => ?_
 rw [List.getElem?_map, List.getElem?_replicate]
 by_cases hk : k < N
 ·rw [List.getElem?_range hk, if_pos hk]; rfl
 ·rw [List.getElem?_eq_none (by simp; omega), if_neg hk]; rfl
theorem zem (hk : k < N) (hj : k < j) : (zcC G o j N)[k]? = some (.pointer (some ⟨G (2 * k + o), 0, none⟩)) := by
 unfold zcC;rw [List.getElem?_map, List.getElem?_range hk];simp [hj]
theorem zix (h : ∀ k, k < j -> G' (2 * k + o) = G (2 * k + o)) (hj : j < N) : (zcC G o j N).set j (.pointer (some ⟨G' (2 * j + o), 0, none⟩)) = zcC G' o (j + 1) N := by
 refine List.ext_getElem? fun k => ?_
 rw [List.getElem?_set, zel];unfold zcC
 by_cases hk : j = k
 ·subst hk;rw [if_pos rfl, if_pos hj, List.getElem?_map, List.getElem?_range hj];simp
 ·rw [if_neg hk, List.getElem?_map, List.getElem?_map]
  by_cases hkN : k < N
  ·rw [List.getElem?_range hkN];simp only [Option.map_some]
   by_cases hkj : k < j
   ·rw [if_pos hkj, if_pos (by omega), h k hkj]
   ·rw [if_neg hkj, if_neg (by omega)]
  ·rw [List.getElem?_eq_none (by simp; omega)]; rfl
end
section
variable {w w' w1 w2 : World} {base : Nat} {X : EmX} {E : EmS} {rest rest' l1 l2 : List It} {x x' y : It} {n M k i j : Nat} {F : Fam} {S : ze4} {P : Nat -> Bool}
theorem zaz.setPv (h : zaz w base X E rest) (v : Value) : zaz (w.setCell ⟨X.fp, 12, none⟩ v) base { X with pv := v } E rest := by
 obtain ⟨cv, sv, zv, nv, Mc, J, L, lvs, h1, hI⟩ := h;exact ⟨cv, sv, zv, nv, Mc, J, L, lvs, h1, hI.set_ (i := 3) rfl 12 v⟩
theorem zaz.setRowR {g n c size : Nat} {e : TypeId} {xs : List Value} (h : zaz w base X E rest) (hi : rest[i]? = some (.row (.slice (some ⟨g, 0, none⟩) n c) e size n xs)) (hj : j < n * size) (u : Value) : zaz (w.setCell ⟨g, j, none⟩ u) base X E (rest.set i (.row (.slice (some ⟨g, 0, none⟩) n c) e size n (xs.set j u))) /\ base <= g :=
 ⟨h.changeR hi (zar w ⟨g, j, none⟩ u) (zga (h.idx hi) hj) (.inl rfl), ((h.idx hi).lt g rfl).1⟩
theorem zj6 (A B C D R : List It) : (A ++ (B ++ (C ++ (D ++ R)))).Perm (C ++ ((D ++ (B ++ A)) ++ R)) := by
 have h1 : (B ++ (C ++ (D ++ R))).Perm (C ++ (D ++ (B ++ R))) := (List.perm_append_comm_assoc B C (D ++ R)).trans ((List.perm_append_comm_assoc B D R).append_left C)
 have h2 : (A ++ (C ++ (D ++ (B ++ R)))).Perm (C ++ (D ++ (B ++ (A ++ R)))) :=
  (List.perm_append_comm_assoc A C _).trans (((List.perm_append_comm_assoc A D _).trans ((List.perm_append_comm_assoc A B R).append_left D)).append_left C)
 have h3 := (h1.append_left A).trans h2
 simpa [List.append_assoc] using h3
theorem zaz.make2 {g1 h1 g2 h2 : Nat} (h : zaz w base X E (l1 ++ (zaN n (2 * j) F ++ l2))) (ok : zbV n (2 * j) F (fun _ _ => false)) (hb1 : Below w.heap.size w w1) (hg1 : w.heap.size <= g1) (hh1 : w.heap.size <= h1) (hs1 : zcF w1 g1 h1 n (fun _ => false))
  (hb2 : Below w1.heap.size w1 w2) (hg2 : w1.heap.size <= g2) (hh2 : w1.heap.size <= h2) (hs2 : zcF w2 g2 h2 n (fun _ => false)) :
  ∃ F', (∀ k, k < 2 * j -> F'.g k = F.g k) /\ F'.g (2 * j) = g1 /\ F'.g (2 * j + 1) = g2 /\ zaz w2 base X E (l1 ++ (zaN n (2 * (j + 1)) F' ++ l2)) /\ zbV n (2 * (j + 1)) F' (fun _ _ => false) := by
 obtain ⟨F1, e1, _, hE1, ok1⟩ := h.famOne hb1 hg1 hh1 hs1;obtain ⟨F2, e2, _, hE2, ok2⟩ := hE1.famOne hb2 hg2 hh2 hs2;refine ⟨⟨fun k => if k = 2 * j then F1.g 0 else if k = 2 * j + 1 then F2.g 0 else F.g k, fun k => if k = 2 * j then F1.h 0 else if k = 2 * j + 1 then F2.h 0 else F.h k, fun k => if k = 2 * j then F1.c 0 else if k = 2 * j + 1 then F2.c 0 else F.c k, fun k => if k = 2 * j then F1.cur 0 else if k = 2 * j + 1 then F2.cur 0 else F.cur k⟩, ?_, ?_, ?_, ?_, ?_⟩
 ·intro k hk;show (if k = 2 * j then F1.g 0 else if k = 2 * j + 1 then F2.g 0 else F.g k) = _;rw [if_neg (by omega), if_neg (by omega)]
 ·show (if 2 * j = 2 * j then F1.g 0 else _) = _;rw [if_pos rfl, e1]
 ·show (if 2 * j + 1 = 2 * j then F1.g 0 else if 2 * j + 1 = 2 * j + 1 then F2.g 0 else _) = _;rw [if_neg (by omega), if_pos rfl, e2]
 ·have hp := hE2.permR (zj6 _ _ _ _ _);refine hp.permR (List.Perm.of_eq ?_);obtain ⟨F', hF'⟩ := nm (⟨fun k => if k = 2 * j then F1.g 0 else if k = 2 * j + 1 then F2.g 0 else F.g k, fun k => if k = 2 * j then F1.h 0 else if k = 2 * j + 1 then F2.h 0 else F.h k, fun k => if k = 2 * j then F1.c 0 else if k = 2 * j + 1 then F2.c 0 else F.c k, fun k => if k = 2 * j then F1.cur 0 else if k = 2 * j + 1 then F2.cur 0 else F.cur k⟩ : Fam);rw [<- hF']
  have q0 : zaN n (2 * (j + 1)) F' = zaN n (2 * j) F' ++ ([zij n F' (2 * j), zhI F' (2 * j)] ++ [zij n F' (2 * j + 1), zhI F' (2 * j + 1)]) := by
   rw [show 2 * (j + 1) = 2 * j + 1 + 1 by omega, zfH (M := 2 * j + 1), zfH (M := 2 * j), List.append_assoc]
  have q1 : zaN n 1 F1 = [zij n F' (2 * j), zhI F' (2 * j)] := by
   rw [hF']; unfold zij zhI; simp only [if_pos]; rfl
  have q2 : zaN n 1 F2 = [zij n F' (2 * j + 1), zhI F' (2 * j + 1)] := by
   rw [hF']; unfold zij zhI; simp only [if_neg (show ¬ 2 * j + 1 = 2 * j by omega), if_pos]; rfl
  have q3 : zaN n (2 * j) F = zaN n (2 * j) F' := zhy fun k hk => by
   rw [hF'];simp [show k ≠ 2 * j by omega, show k ≠ 2 * j + 1 by omega]
  rw [q0, q1, q2, q3]
 ·refine ⟨ok1.1, fun k hk => ?_⟩
  by_cases k1 : k = 2 * j
  ·obtain ⟨a, b, c⟩ := ok1.2 0 (by omega);simp only [if_pos k1];exact ⟨a, b, c⟩
  ·by_cases k2 : k = 2 * j + 1
   ·obtain ⟨a, b, c⟩ := ok2.2 0 (by omega);simp only [if_neg k1, if_pos k2];exact ⟨a, b, c⟩
   ·obtain ⟨a, b, c⟩ := ok.2 k (by omega);simp only [if_neg k1, if_neg k2];exact ⟨a, b, c⟩
end
end Go.Proofs.YtnfjjliiajaijaaDoor
