/- Part of the proof, named by its texts: Items BitF BitG IrArgs. No condition of its own. -/
import Derived.Test.YtnfjjliiajaijaaDoorPfAB
import Derived.Test.YtnfjjliiajaijaaDoorPfAA
import Derived.Laws.BitsAll
import Derived.Lib.TrailingZeros
import Derived.Deep.LoopGhost
import Derived.BigQuiet
import Derived.Deep.QuietTactic
import Derived.Deep.DeepCutAuto
set_option linter.unusedVariables false
set_option linter.unusedSimpArgs false
set_option maxRecDepth 100000
set_option maxHeartbeats 16000000
namespace Go.Proofs.YtnfjjliiajaijaaDoor
open Go.RowKit
theorem zga {w : World} {M size n g j c : Nat} {e : TypeId} {u : Value} {xs : List Value} (h : w.ownsRow M e size (.slice (some ⟨g, 0, none⟩) n c) n xs) (hj : j < n * size) : (w.setCell ⟨g, j, none⟩ u).ownsRow M e size (.slice (some ⟨g, 0, none⟩) n c) n (xs.set j u) := by
 rcases h.2 with ⟨h0, _⟩ | ⟨g', cap, cur, hv, hb, hh, h1, h2, h3, h4⟩
 ·cases h0
 ·injection hv with hv1 _ hv3;injection hv1 with hv1;injection hv1 with hv1;subst hv1 hv3;have hset : (w.setCell ⟨g, j, none⟩ u).heap[g]? = some (.cells (cur.setIfInBounds j u) e (0, 0)) := Blk.set_ (show Blk w g e cur from hh) j u;refine ⟨by rw [List.length_set]; exact h.1, .inr ⟨g, c, _, rfl, hb, hset, h1, h2, by simpa using h3, ?_⟩⟩;rw [Array.toList_setIfInBounds, <- h4, List.take_set]
inductive It where
 | row (v : Value) (e : TypeId) (size n : Nat) (xs : List Value)
 | blk (g : Nat) (t : TypeId) (cs : Array Value)
 | map (b n : Nat) (f : Nat -> Option Nat)
def It.block : It -> Option Nat
 | .row v _ _ _ _ => v.ownBlock
 | .blk g _ _ => some g
 | .map b _ _ => some b
def It.At (w : World) (base : Nat) : It -> Prop
 | .row v e size n xs => w.ownsRow base e size v n xs
 | .blk g t cs => base <= g /\ Blk w g t cs
 | .map b n f => base <= b /\ zcx w b n f
section
variable {w w' : World} {base base' B : Nat} {x y : It} {row : Option Nat}
theorem It.At.lt (h : x.At w base) : ∀ b, x.block = some b -> base <= b /\ b < w.heap.size := by
 cases x with
 | row v e size n xs => exact fun b hb => World.ownsRow.lt h b hb
 | blk g t cs => intro b hb; injection hb with hb; subst hb; exact ⟨h.1, h.2.lt⟩
 | map b n f => intro c hb; injection hb with hb; subst hb; exact ⟨h.1, h.2.lt⟩
theorem It.At.kept (h : x.At w base) (hg : w.grownBy w' row) (hne : ∀ b, x.block = some b -> row ≠ some b) : x.At w' base := by
 cases x with
 | row v e size n xs =>
  refine World.ownsRow.kept h hg ?_
  rcases hv : v.ownBlock with _ | g
  ·exact .inl rfl
  ·exact .inr fun e => hne g hv e.symm
 | blk g t cs => exact ⟨h.1, h.2.grown hg fun e => hne g rfl e.symm⟩
 | map b n f => exact ⟨h.1, h.2.kept hg fun e => hne b rfl e.symm⟩
theorem It.At.lower (h : x.At w base) (hb : base' <= base) : x.At w base' := by
 cases x with
 | row v e size n xs => exact zbD h hb
 | blk g t cs => exact ⟨Nat.le_trans hb h.1, h.2⟩
 | map b n f => exact ⟨Nat.le_trans hb h.1, h.2⟩
end
structure zaA (w : World) (base : Nat) (l : List It) : Prop where
 each : ∀ x ∈ l, x.At w base
 apart : ∀ (i j : Nat) x y, i ≠ j -> l[i]? = some x -> l[j]? = some y -> ∀ b, x.block = some b -> y.block ≠ some b
section
variable {w w' : World} {base base' B i j : Nat} {x x' y : It} {l l' : List It} {row : Option Nat}
theorem zaA.at_ (h : zaA w base l) (hi : l[i]? = some x) : x.At w base := h.each x (List.mem_of_getElem? hi)
theorem zaA.nil (w : World) (base : Nat) : zaA w base [] := ⟨nofun, by intro i j x y _ h; simp at h⟩
theorem zaA.lower (h : zaA w base l) (hb : base' <= base) : zaA w base' l := ⟨fun x hx => (h.each x hx).lower hb, h.apart⟩
theorem zaA.kept (h : zaA w base l) (hg : w.grownBy w' row) (hne : ∀ x ∈ l, ∀ b, x.block = some b -> row ≠ some b) : zaA w' base l :=
 ⟨fun x hx => (h.each x hx).kept hg (hne x hx), h.apart⟩
theorem zaA.keep (h : zaA w base l) (hg : w.grownBy w' none) : zaA w' base l := h.kept hg fun _ _ _ _ => nofun
theorem zaA.below (h : zaA w base l) (hb : Below w.heap.size w w') : zaA w' base l := h.keep (zah hb none)
theorem zaA.alloc (h : zaA w base l) (o : Obj) : zaA (w.alloc o) base l := h.keep (World.grownBy_alloc w o none)
theorem zaA.drew (h : zaA w base l) : zaA w.drew base l := h.keep (zb8 (World.grownBy.refl w none))
theorem zaA.change (h : zaA w base l) (hi : l[i]? = some x) (hg : w.grownBy w' x.block) (hx : x'.At w' base) (hb : x'.block = x.block ∨ ∀ b, x'.block = some b -> w.heap.size <= b) : zaA w' base (l.set i x') := by
 have hil := (List.getElem?_eq_some_iff.1 hi).1
 have key : ∀ (j : Nat) y, j ≠ i -> l[j]? = some y -> (∀ b, x'.block = some b -> y.block ≠ some b) := by
  intro j y hj hy b hxb hyb
  rcases hb with e | e
  ·rw [e] at hxb;exact h.apart i j x y (Ne.symm hj) hi hy b hxb hyb
  ·have h1 := e b hxb;have h2 := ((h.at_ hy).lt b hyb).2
   omega
 refine ⟨fun y hy => ?_, fun j k y z hjk hy hz b hyb => ?_⟩
 ·obtain ⟨j, hj, rfl⟩ := List.getElem_of_mem hy;rw [List.length_set] at hj
  by_cases hji : i = j
  ·subst hji
   simpa using hx
  ·rw [List.getElem_set_ne hji];have hy' : l[j]? = some l[j] := List.getElem?_eq_getElem hj
   refine (h.at_ hy').kept hg fun b hb' => ?_
   exact h.apart j i _ x (Ne.symm hji) hy' hi b hb'
 ·by_cases hji : j = i
  ·subst hji;rw [List.getElem?_set_self hil] at hy;injection hy with hy;subst hy;rw [List.getElem?_set_ne hjk] at hz;exact key k z (Ne.symm hjk) hz b hyb
  ·rw [List.getElem?_set_ne (Ne.symm hji)] at hy
   by_cases hki : k = i
   ·subst hki;rw [List.getElem?_set_self hil] at hz;injection hz with hz;subst hz
    exact fun hzb => key j y hji hy b hzb hyb
   ·rw [List.getElem?_set_ne (Ne.symm hki)] at hz;exact h.apart j k y z hjk hy hz b hyb
theorem zaA.cons (h : zaA w base l) (hx : x.At w base) (hb : ∀ b, x.block = some b -> ∀ y ∈ l, y.block ≠ some b) : zaA w base (x :: l) := by
 refine ⟨fun y hy => ?_, fun i j y z hij hy hz b hyb => ?_⟩
 ·rcases List.mem_cons.1 hy with rfl | hy
  ·exact hx
  ·exact h.each y hy
 ·match i, j, hij, hy, hz with
  | 0, 0, hij, _, _ => exact absurd rfl hij
  | 0, j + 1, _, hy, hz =>
   simp at hy hz;subst hy;exact hb b hyb z (List.mem_of_getElem? hz)
  | i + 1, 0, _, hy, hz =>
   simp at hy hz;subst hz
   exact fun hzb => hb b hzb y (List.mem_of_getElem? hy) hyb
  | i + 1, j + 1, hij, hy, hz =>
   simp at hy hz;exact h.apart i j y z (by omega) hy hz b hyb
theorem zaA.new (h : zaA w base l) (hg : w.grownBy w' none) (hx : x.At w' base) (hb : ∀ b, x.block = some b -> w.heap.size <= b) : zaA w' base (x :: l) := by
 refine (h.keep hg).cons hx fun b hxb y hy hyb => ?_
 have h1 := hb b hxb;have h2 := ((h.each y hy).lt b hyb).2
 omega
theorem zaA.tail (h : zaA w base (x :: l)) : zaA w base l :=
 ⟨fun y hy => h.each y (List.mem_cons_of_mem _ hy), fun i j y z hij hy hz => h.apart (i + 1) (j + 1) y z (by omega) (by simpa using hy) (by simpa using hz)⟩
theorem zcN {l : List It} : (∀ (i j : Nat) x y, i ≠ j -> l[i]? = some x -> l[j]? = some y -> ∀ b, x.block = some b -> y.block ≠ some b) ↔ l.Pairwise fun x y => ∀ b, x.block = some b -> y.block ≠ some b := by
 rw [List.pairwise_iff_getElem];refine ⟨fun h i j hi hj hij => h i j _ _ (by omega) (List.getElem?_eq_getElem hi) (List.getElem?_eq_getElem hj), fun h i j x y hij hx hy b hb => ?_⟩;obtain ⟨hi, rfl⟩ := List.getElem?_eq_some_iff.1 hx;obtain ⟨hj, rfl⟩ := List.getElem?_eq_some_iff.1 hy
 rcases Nat.lt_or_ge i j with h1 | h1
 ·exact h i j hi hj h1 b hb
 ·exact fun hb' => h j i hj hi (by omega) b hb' hb
theorem zaA.perm (h : zaA w base l) (hp : l.Perm l') : zaA w base l' :=
 ⟨fun x hx => h.each x (hp.mem_iff.2 hx), zcN.2 ((hp.pairwise_iff fun {x y} hxy b hb hb' => hxy b hb' hb).1 (zcN.1 h.apart))⟩
theorem zaA.sub (h : zaA w base l) (hs : l'.Sublist l) : zaA w base l' :=
 ⟨fun x hx => h.each x (hs.subset hx), zcN.2 ((zcN.1 h.apart).sublist hs)⟩
theorem zaA.append (h : zaA w base l) (h' : zaA w base l') (hd : ∀ x ∈ l, ∀ y ∈ l', ∀ b, x.block = some b -> y.block ≠ some b) : zaA w base (l ++ l') :=
 ⟨fun x hx => (List.mem_append.1 hx).elim (h.each x) (h'.each x), zcN.2 (List.pairwise_append.2 ⟨zcN.1 h.apart, zcN.1 h'.apart, hd⟩)⟩
theorem zaA.blk {g : Nat} {t : TypeId} {cs : Array Value} (h : zaA w base l) (hi : l[i]? = some (.blk g t cs)) : Blk w g t cs := (h.at_ hi).2
theorem zaA.own {v : Value} {e : TypeId} {size n : Nat} {xs : List Value} (h : zaA w base l) (hi : l[i]? = some (.row v e size n xs)) : w.ownsRow base e size v n xs := h.at_ hi
theorem zaA.imap {b n : Nat} {f : Nat -> Option Nat} (h : zaA w base l) (hi : l[i]? = some (.map b n f)) : zcx w b n f := (h.at_ hi).2
theorem zaA.set_ {g : Nat} {t : TypeId} {cs : Array Value} (h : zaA w base l) (hi : l[i]? = some (.blk g t cs)) (j : Nat) (u : Value) : zaA (w.setCell ⟨g, j, none⟩ u) base (l.set i (.blk g t (cs.setIfInBounds j u))) :=
 h.change hi (zar w ⟨g, j, none⟩ u) ⟨(h.at_ hi).1, (h.blk hi).set_ j u⟩ (.inl rfl)
theorem zaA.setRow {g n c size j : Nat} {e : TypeId} {xs : List Value} (h : zaA w base l) (hi : l[i]? = some (.row (.slice (some ⟨g, 0, none⟩) n c) e size n xs)) (hj : j < n * size) (u : Value) : zaA (w.setCell ⟨g, j, none⟩ u) base (l.set i (.row (.slice (some ⟨g, 0, none⟩) n c) e size n (xs.set j u))) :=
 h.change hi (zar w ⟨g, j, none⟩ u) (zga (h.own hi) hj) (.inl rfl)
theorem zaA.push {v v' : Value} {e : TypeId} {size n n' : Nat} {xs xs' : List Value} (h : zaA w base l) (hi : l[i]? = some (.row v e size n xs)) (ho : w'.ownsRow base e size v' n' xs') (hg : w.grownBy w' v.ownBlock) (hat : v'.ownBlock = v.ownBlock ∨ ∀ b, v'.ownBlock = some b -> w.heap.size <= b) : zaA w' base (l.set i (.row v' e size n' xs')) :=
 h.change hi hg ho hat
theorem zaA.put {b n n' : Nat} {f f' : Nat -> Option Nat} (h : zaA w base l) (hi : l[i]? = some (.map b n f)) (hm : zcx w' b n' f') (hg : w.grownBy w' (some b)) : zaA w' base (l.set i (.map b n' f')) :=
 h.change hi hg ⟨(h.at_ hi).1, hm⟩ (.inl rfl)
theorem zaA.newBlk (h : zaA w base l) (hb : base <= w.heap.size) (t : TypeId) (cs : Array Value) : zaA (w.alloc (.cells cs t)) base (.blk w.heap.size t cs :: l) :=
 h.new (World.grownBy_alloc w _ none) ⟨hb, Blk.new w t cs⟩ fun b e => by injection e with e; omega
theorem zaA.ne {g g' : Nat} {t t' : TypeId} {cs cs' : Array Value} (h : zaA w base l) (hi : l[i]? = some (.blk g t cs)) (hj : l[j]? = some (.blk g' t' cs')) (hij : i ≠ j) : g ≠ g' := fun e => by
 subst e;exact h.apart i j _ _ hij hi hj g rfl rfl
theorem zaA.ne_row {g n size : Nat} {t e : TypeId} {cs : Array Value} {v : Value} {xs : List Value} (h : zaA w base l) (hi : l[i]? = some (.blk g t cs)) (hj : l[j]? = some (.row v e size n xs)) (hij : i ≠ j) : some g ≠ v.ownBlock := fun e =>
 h.apart i j _ _ hij hi hj g rfl e.symm
end
def zgp (S : Nat -> Bool) (o : Nat) : Nat -> Nat
 | 0 => 0
 | m + 1 => zgp S o m + if S (o + m) then 2 ^ m else 0
section
variable {S T : Nat -> Bool} {o m n i j : Nat}
theorem zgo : ∀ m, zgp S o m < 2 ^ m
 | 0 => Nat.one_pos
 | m + 1 => by
  have := zgo m;show zgp S o m + _ < _;rw [Nat.pow_succ]
  split <;> omega
theorem zef : ∀ m, (zgp S o m).testBit i = (decide (i < m) && S (o + i))
 | 0 => by simp [zgp]
 | m + 1 => by
  have ih := zef m;have hl := zgo (S := S) (o := o) m;show (zgp S o m + _).testBit i = _
  by_cases hs : S (o + m) = true
  ·rw [if_pos hs, Nat.add_comm, show 2 ^ m = 2 ^ m * 1 by rw [Nat.mul_one], Nat.testBit_two_pow_mul_add 1 hl i]
   by_cases h1 : i < m
   ·rw [if_pos h1, ih];simp [h1, show i < m + 1 by omega]
   ·rw [if_neg h1]
    by_cases h2 : i = m
    ·subst h2; simp [hs]
    ·have : (1 : Nat).testBit (i - m) = false := by
      obtain ⟨d, hd⟩ : ∃ d, i - m = d + 1 := ⟨i - m - 1, by omega⟩
      rw [hd, Nat.testBit_succ]; simp
     rw [this];simp [show ¬ i < m + 1 by omega]
  ·rw [if_neg hs, Nat.add_zero, ih]
   by_cases h1 : i < m
   ·simp [h1, show i < m + 1 by omega]
   ·by_cases h2 : i = m
    ·subst h2; simp [hs]
    ·simp [h1, show ¬ i < m + 1 by omega]
theorem zfo (h : ∀ i, i < m -> S (o + i) = T (o + i)) : zgp S o m = zgp T o m := by
 refine Nat.eq_of_testBit_eq fun i => ?_
 rw [zef, zef]
 by_cases hi : i < m
 ·rw [h i hi]
 ·simp [hi]
def zcg (S : Nat -> Bool) (k : Nat) : Nat := zgp S (64 * k) 64
theorem zde (S : Nat -> Bool) (k : Nat) : zcg S k < 18446744073709551616 := zgo 64
theorem zcp (S : Nat -> Bool) (k : Nat) : (zcg S k).testBit i = (decide (i < 64) && S (64 * k + i)) := zef 64
def zg0 (n : Nat) (S : Nat -> Bool) : List Int := (List.range ((n + 63) / 64)).map fun k => ((zcg S k : Nat) : Int)
theorem zf1 : (zg0 n S).length = (n + 63) / 64 := by simp [zg0]
theorem zf2 {k : Nat} (h : k < (n + 63) / 64) : (zg0 n S)[k]? = some ((zcg S k : Nat) : Int) := by
 unfold zg0;rw [List.getElem?_map, List.getElem?_range h]; rfl
def ziO (S : Nat -> Bool) (p : Nat) : Nat -> Bool := fun i => S i || decide (i = p)
def zjB (S : Nat -> Bool) (p : Nat) : Nat -> Bool := fun i => S i && decide (i ≠ p)
theorem zjQ (hj : j < 64) : IntKind.u64.wrap (2 ^ j) = ((2 ^ j : Nat) : Int) := by
 have : (2 : Nat) ^ j < 2 ^ 64 := Nat.pow_lt_pow_right (by omega) hj;rw [IntKind.wrap_u64]
 have e : ((2 : Int) ^ j) = ((2 ^ j : Nat) : Int) := by simp
 rw [e];generalize (2 : Nat) ^ j = q at this ⊢
 omega
theorem zkR (x : Nat) (hx : x < 18446744073709551616) (j : Nat) : zjH (x : Int) j = x.testBit j := by
 have e : ((x : Int) / 2 ^ j) = ((x / 2 ^ j : Nat) : Int) := by simp
 have hd : x / 2 ^ j <= x := Nat.div_le_self _ _;unfold zjH;rw [e, show (1 : Int) = ((1 : Nat) : Int) from rfl, bits_and_u64_nat _ _ (by omega) (by omega), Nat.testBit_eq_decide_div_mod_eq];rw [Nat.and_one_is_mod]
 by_cases h : x / 2 ^ j % 2 = 1
 ·simp [h]
 ·have : x / 2 ^ j % 2 = 0 := by omega
  simp [this]
theorem zgl (S : Nat -> Bool) (i : Nat) : zjH ((zcg S (i / 64) : Nat) : Int) (i % 64) = S i := by
 rw [zkR _ (zde _ _), zcp];have : 64 * (i / 64) + i % 64 = i := Nat.div_add_mod i 64;rw [this];simp [Nat.mod_lt]
theorem zjG (S : Nat -> Bool) (i : Nat) : zmI ((zcg S (i / 64) : Nat) : Int) (i % 64) = ((zcg (ziO S i) (i / 64) : Nat) : Int) := by
 have hm := Nat.mod_lt i (show 64 > 0 by omega);have hp : (2 : Nat) ^ (i % 64) < 2 ^ 64 := Nat.pow_lt_pow_right (by omega) hm;unfold zmI;rw [zjQ hm, bits_or_u64_nat _ _ (zde _ _) hp]
 congr 1
 refine Nat.eq_of_testBit_eq fun k => ?_
 rw [Nat.testBit_or, zcp, zcp, Nat.testBit_two_pow];unfold ziO;have hd := Nat.div_add_mod i 64
 by_cases hk : k < 64
 ·have : decide (64 * (i / 64) + k = i) = decide (i % 64 = k) := by
   apply decide_eq_decide.2; omega
  rw [this]
  cases hS : S (64 * (i / 64) + k) <;> simp [hk, hS]
 ·have : i % 64 ≠ k := by omega
  simp [hk, this]
theorem zin (S : Nat -> Bool) (i : Nat) : bits .andNot .u64 ((zcg S (i / 64) : Nat) : Int) ((2 ^ (i % 64) : Nat) : Int) = ((zcg (zjB S i) (i / 64) : Nat) : Int) := by
 have hm := Nat.mod_lt i (show 64 > 0 by omega);have hp : (2 : Nat) ^ (i % 64) < 2 ^ 64 := Nat.pow_lt_pow_right (by omega) hm;have hw := zde S (i / 64);rw [u64_andNot _ _ (by omega) (by omega) (Int.natCast_nonneg _) (Int.ofNat_lt.2 (show (2 : Nat) ^ (i % 64) < 18446744073709551616 from hp))];simp only [Int.toNat_natCast]
 congr 1
 refine Nat.eq_of_testBit_eq fun k => ?_
 rw [Nat.testBit_and, zcp, zcp];unfold zjB;have hd := Nat.div_add_mod i 64
 have e : 18446744073709551615 - 2 ^ (i % 64) = 2 ^ 64 - (2 ^ (i % 64) + 1) := by omega
 rw [e, Nat.testBit_two_pow_sub_succ hp, Nat.testBit_two_pow]
 by_cases hk : k < 64
 ·have : decide (64 * (i / 64) + k ≠ i) = decide (i % 64 ≠ k) := by
   apply decide_eq_decide.2; omega
  rw [this]
  cases hS : S (64 * (i / 64) + k) <;> simp [hk, hS]
 ·simp [hk]
theorem zfn {p k : Nat} (h : k ≠ p / 64) : zcg (ziO S p) k = zcg S k /\ zcg (zjB S p) k = zcg S k := by
 refine ⟨zfo fun i hi => ?_, zfo fun i hi => ?_⟩
 ·have : 64 * k + i ≠ p := by omega
  simp [ziO, this]
 ·have : 64 * k + i ≠ p := by omega
  simp [zjB, this]
end
theorem zgK (g h L c k : Nat) (n i x : Int) (t : Bool) (w : World) (hi : i = k) (hb : i < n) (hn : n <= 1048576) (hL : (k : Int) / 64 < L) (hc : w.cell? ⟨g, 0, none⟩ = some (.int .i64 n)) (hc1 : w.cell? ⟨g, 1, none⟩ = some (.slice (some ⟨h, 0, none⟩) L c))
  (hx : w.cell? ⟨h, k / 64, none⟩ = some (.int .u64 x)) (hx0 : U64 x) (ht : zjH x (k % 64) = t) :
  Calls Tryd.prog 86 #[.pointer (some ⟨g, 0, none⟩), .int .i64 i] w fun e w' => e = .returned (.bool t) /\ w = w' := by
 subst hi;unfold U64 at hx0;obtain ⟨hxa, hxb⟩ := hx0;have HT := Lib.hid ht;clear ht
 have hk0 : 0 <= (k : Int) / 64 := by omega
 have hk1 : 0 <= (k : Int) % 64 := by omega
 have hk2 : (k : Int) % 64 < 64 := by omega
 go_enter Tryd.func86, Tryd.ntmps86;go_wp2_with fail;refine (zh9 g n k _ (by omega) hb hc).mono ?_;rintro e w' ⟨rfl, rfl⟩;go_wp2_with fail;go_ret;exact ⟨by rw [<- HT.out]; rfl, rfl⟩
theorem zlU (g h L c k : Nat) (n i x : Int) (w : World) (hi : i = k) (hb : i < n) (hn : n <= 1048576) (hL : (k : Int) / 64 < L) (hc : w.cell? ⟨g, 0, none⟩ = some (.int .i64 n)) (hc1 : w.cell? ⟨g, 1, none⟩ = some (.slice (some ⟨h, 0, none⟩) L c))
  (hx : w.cell? ⟨h, k / 64, none⟩ = some (.int .u64 x)) (hx0 : U64 x) (ht : zjH x (k % 64) = true) :
  Calls Tryd.prog 65 #[.pointer (some ⟨g, 0, none⟩), .int .i64 i] w fun e w' => e = .returned (.bool false) /\ w = w' := by
 subst hi;have HT := Lib.hid ht;clear ht;go_enter Tryd.func65, Tryd.ntmps65;go_wp2_with fail;refine (zh9 g n k _ (by omega) hb hc).mono ?_;rintro e w' ⟨rfl, rfl⟩;go_wp2_with fail;refine (zgK g h L c k n k x true _ rfl hb hn hL hc hc1 hx hx0 HT.out).mono ?_;rintro e w' ⟨rfl, rfl⟩;go_wp2_with fail;go_ret;exact ⟨rfl, rfl⟩
theorem zlT (g h L c k : Nat) (n i x : Int) (w : World) (hi : i = k) (hb : i < n) (hn : n <= 1048576) (hL : (k : Int) / 64 < L) (hc : w.cell? ⟨g, 0, none⟩ = some (.int .i64 n)) (hc1 : w.cell? ⟨g, 1, none⟩ = some (.slice (some ⟨h, 0, none⟩) L c))
  (hx : w.cell? ⟨h, k / 64, none⟩ = some (.int .u64 x)) (hz : w.frozen? ⟨h, k / 64, none⟩ = false) (hx0 : U64 x) (ht : zjH x (k % 64) = false) :
  Calls Tryd.prog 65 #[.pointer (some ⟨g, 0, none⟩), .int .i64 i] w fun e w' => e = .returned (.bool true) /\ w' = w.setCell ⟨h, k / 64, none⟩ (.int .u64 (zmI x (k % 64))) := by
 subst hi;have HT := Lib.hid ht;clear ht
 have hk0 : 0 <= (k : Int) / 64 := by omega
 have hk1 : 0 <= (k : Int) % 64 := by omega
 have hk2 : (k : Int) % 64 < 64 := by omega
 have hxx := hx0;unfold U64 at hxx;obtain ⟨hxa, hxb⟩ := hxx;go_enter Tryd.func65, Tryd.ntmps65;go_wp2_with fail;refine (zh9 g n k _ (by omega) hb hc).mono ?_;rintro e w' ⟨rfl, rfl⟩;go_wp2_with fail;refine (zgK g h L c k n k x false _ rfl hb hn hL hc hc1 hx hx0 HT.out).mono ?_;rintro e w' ⟨rfl, rfl⟩;go_wp2_with fail;go_ret;exact ⟨rfl, rfl⟩
structure zcF (w : World) (g h n : Nat) (S : Nat -> Bool) : Prop where
 top : ∃ c, (n + 63) / 64 <= c /\ c <= maxLen /\ Blk w g 145 #[.int .i64 (n : Nat), .slice (some ⟨h, 0, none⟩) ((n + 63) / 64) c]
 words : ∃ cur, Blk w h 53 cur /\ ∀ k, k < (n + 63) / 64 -> cur[k]? = some (.int .u64 ((zcg S k : Nat) : Int))
 le : n <= 1048576
section
variable {w w' : World} {g h n p : Nat} {S : Nat -> Bool}
theorem zcF.glt (hs : zcF w g h n S) : g < w.heap.size := by
 obtain ⟨c, _, _, hb⟩ := hs.top;exact hb.lt
theorem zcF.hlt (hs : zcF w g h n S) : h < w.heap.size := by
 obtain ⟨cur, hb, _⟩ := hs.words;exact hb.lt
theorem zcF.ne (hs : zcF w g h n S) : g ≠ h := by
 obtain ⟨c, _, _, hb⟩ := hs.top;obtain ⟨cur, hb', _⟩ := hs.words;exact hb.ne_ hb' (by decide)
theorem zcF.cells (hs : zcF w g h n S) : w.cell? ⟨g, 0, none⟩ = some (.int .i64 (n : Nat)) /\ ∃ c, (n + 63) / 64 <= c /\ c <= maxLen /\ w.cell? ⟨g, 1, none⟩ = some (.slice (some ⟨h, 0, none⟩) ((n + 63) / 64) c) := by
 obtain ⟨c, h1, h2, hb⟩ := hs.top;exact ⟨hb.cell 0, c, h1, h2, hb.cell 1⟩
theorem zcF.word (hs : zcF w g h n S) {k : Nat} (hk : k < (n + 63) / 64) : w.cell? ⟨h, k, none⟩ = some (.int .u64 ((zcg S k : Nat) : Int)) := by
 obtain ⟨cur, hb, hc⟩ := hs.words;rw [hb.cell k];exact hc k hk
theorem zcF.free (hs : zcF w g h n S) (k : Nat) : w.frozen? ⟨h, k, none⟩ = false := by
 obtain ⟨cur, hb, hc⟩ := hs.words;exact hb.frozen k
theorem zcF.put (hs : zcF w g h n S) {S' : Nat -> Bool} {k : Nat} (hk : k < (n + 63) / 64) (he : ∀ k', k' ≠ k -> zcg S' k' = zcg S k') : zcF (w.setCell ⟨h, k, none⟩ (.int .u64 ((zcg S' k : Nat) : Int))) g h n S' := by
 have hne := hs.ne;obtain ⟨c, h1, h2, hb⟩ := hs.top;obtain ⟨cur, hb', hc⟩ := hs.words;refine ⟨⟨c, h1, h2, hb.far (p := ⟨h, k, none⟩) hne _⟩, ⟨_, hb'.set_ k _, fun k' hk' => ?_⟩, hs.le⟩
 by_cases hkk : k' = k
 ·subst hkk;have hsz : k' < cur.size := (Array.getElem?_eq_some_iff.1 (hc k' hk')).1;rw [Array.getElem?_setIfInBounds_self_of_lt hsz]
 ·rw [Array.getElem?_setIfInBounds_ne (Ne.symm hkk), he k' hkk];exact hc k' hk'
theorem zcF.below {B : Nat} (hs : zcF w g h n S) (hb : Below B w w') (h1 : g < B) (h2 : h < B) : zcF w' g h n S := by
 obtain ⟨c, q1, q2, q3⟩ := hs.top;obtain ⟨cur, q4, q5⟩ := hs.words;exact ⟨⟨c, q1, q2, q3.below hb h1⟩, ⟨cur, q4.below hb h2, q5⟩, hs.le⟩
theorem zcF.kept {row : Option Nat} (hs : zcF w g h n S) (hg : w.grownBy w' row) (h1 : row ≠ some g) (h2 : row ≠ some h) : zcF w' g h n S := by
 obtain ⟨c, q1, q2, q3⟩ := hs.top;obtain ⟨cur, q4, q5⟩ := hs.words;exact ⟨⟨c, q1, q2, q3.grown hg (Ne.symm h1)⟩, ⟨cur, q4.grown hg (Ne.symm h2), q5⟩, hs.le⟩
theorem zcF.congr {T : Nat -> Bool} (hs : zcF w g h n S) (he : ∀ i, S i = T i) : zcF w g h n T := by
 have : S = T := funext he;rw [<- this]; exact hs
theorem ziP (hs : zcF w g h n S) (hp : p < n) :
  Calls Tryd.prog 65 #[.pointer (some ⟨g, 0, none⟩), .int .i64 (p : Nat)] w fun e w' => e = .returned (.bool (!S p)) /\ zcF w' g h n (ziO S p) /\ w.grownBy w' (some h) := by
 obtain ⟨hc0, c, hcc, _, hc1⟩ := hs.cells;have hle := hs.le
 have hk : p / 64 < (n + 63) / 64 := by omega
 have hx := hs.word hk
 have hu : U64 ((zcg S (p / 64) : Nat) : Int) := by have := zde S (p / 64); unfold U64; omega
 have hbit := zgl S p
 cases hS : S p
 ·rw [hS] at hbit;refine (zlT g h ((n + 63) / 64) c p n p _ w rfl (by omega) (by omega) (by omega) hc0 hc1 hx (hs.free _) hu hbit).mono ?_;rintro e w' ⟨rfl, rfl⟩;rw [zjG];exact ⟨rfl, hs.put hk fun k hk => (zfn hk).1, zar _ _ _⟩
 ·rw [hS] at hbit;refine (zlU g h ((n + 63) / 64) c p n p _ w rfl (by omega) (by omega) (by omega) hc0 hc1 hx hu hbit).mono ?_;rintro e w' ⟨rfl, rfl⟩
  have : ziO S p = S := by
   funext i
   unfold ziO
   by_cases hi : i = p
   ·subst hi; simp [hS]
   ·simp [hi]
  rw [this];exact ⟨rfl, hs, World.grownBy.refl _ _⟩
theorem zlI (hs : zcF w g h n S) (hp : p < n) :
  Calls Tryd.prog 64 #[.pointer (some ⟨g, 0, none⟩), .int .i64 (p : Nat)] w fun e w' => e = .returned (.bool (S p)) /\ zcF w' g h n (zjB S p) /\ w.grownBy w' (some h) := by
 obtain ⟨hc0, c, hcc, _, hc1⟩ := hs.cells;have hle := hs.le
 have hk : p / 64 < (n + 63) / 64 := by omega
 have hx := hs.word hk
 have hu : U64 ((zcg S (p / 64) : Nat) : Int) := by have := zde S (p / 64); unfold U64; omega
 have hbit := zgl S p
 cases hS : S p
 ·rw [hS] at hbit
  have hdel : zjB S p = S := by
   funext i
   unfold zjB
   by_cases hi : i = p
   ·subst hi; simp [hS]
   ·simp [hi]
  rw [hdel];obtain ⟨Hs, Hdel, HS, Hbit⟩ := hd4 hs hdel hS hbit;clear hbit hS hdel hs;go_enter Tryd.func64, Tryd.ntmps64;go_wp2_with fail;refine (zgK g h ((n + 63) / 64) c p n p _ false _ rfl (by omega) (by omega) (by omega) hc0 hc1 hx hu Hbit.out).mono ?_;rintro e w' ⟨rfl, rfl⟩;go_wp2_with fail;go_ret;exact ⟨rfl, Hs.out, World.grownBy.refl _ _⟩
 ·rw [hS] at hbit;have hfz := hs.free (p / 64)
  have hfin : ∀ u : Int, u = bits .andNot .u64 ((zcg S (p / 64) : Nat) : Int) (IntKind.u64.wrap (2 ^ (p % 64))) -> zcF (w.setCell ⟨h, p / 64, none⟩ (.int .u64 u)) g h n (zjB S p) /\ w.grownBy (w.setCell ⟨h, p / 64, none⟩ (.int .u64 u)) (some h) := by
   intro u hu;rw [zjQ (Nat.mod_lt _ (by omega)), zin] at hu;subst hu;exact ⟨hs.put hk fun k hk => (zfn hk).2, zar _ _ _⟩
  have hk0 : 0 <= (p : Int) / 64 := by omega
  have hk1 : 0 <= (p : Int) % 64 := by omega
  have hk2 : (p : Int) % 64 < 64 := by omega
  have hxx := hu;unfold U64 at hxx;obtain ⟨hxa, hxb⟩ := hxx;obtain ⟨Hs, HS, Hbit, Hfin⟩ := hd4 hs hS hbit hfin;clear hfin hbit hS hs;go_enter Tryd.func64, Tryd.ntmps64;go_wp2_with fail;refine (zgK g h ((n + 63) / 64) c p n p _ true _ rfl (by omega) (by omega) (by omega) hc0 hc1 hx hu Hbit.out).mono ?_;rintro e w' ⟨rfl, rfl⟩;go_wp2_with fail;go_ret;exact ⟨rfl, Hfin.out _ rfl⟩
end
def TabX (w : World) : Prop := 1 < w.heap.size /\ ∀ k : Nat, k < 64 -> w.cell? ⟨1, k, none⟩ = some (.int .u8 ((Lib.deBruijn64tab.getD k 0 : Nat) : Int))
theorem TabX.below {w w' : World} {B : Nat} (h : TabX w) (hb : Below B w w') (hB : 1 < B) : TabX w' :=
 ⟨Nat.lt_of_lt_of_le h.1 hb.size, fun k hk => (hb.cell (p := ⟨1, k, none⟩) hB).trans (h.2 k hk)⟩
def tzX (x : Int) : Int := IntKind.u64.wrap (bits .and .u64 x (IntKind.u64.wrap (-x)) * 285870213051353865) / 288230376151711744
theorem zl9 (x : Nat) (h0 : x ≠ 0) (h : x < 18446744073709551616) : tzX (x : Int) = ((2 ^ Lib.ctz 64 x * 285870213051353865 % 18446744073709551616 / 288230376151711744 : Nat) : Int) := by
 have hl := Lib.lowest_bit 64 x h0 h
 have e : IntKind.u64.wrap (-(x : Int)) = ((18446744073709551616 - x : Nat) : Int) := by rw [IntKind.wrap_u64]; omega
 have hl1 : x &&& (18446744073709551616 - x) = 2 ^ Lib.ctz 64 x := hl.1;unfold tzX;rw [e, bits_and_u64_nat _ _ h (by omega), hl1];generalize 2 ^ Lib.ctz 64 x = q;rw [IntKind.wrap_u64]
 omega
theorem zlY (x : Int) : 0 <= tzX x /\ tzX x < 64 := by
 unfold tzX;rw [IntKind.wrap_u64]; omega
theorem zma (x t : Int) (w : World) (hx : U64 x) (h0 : ¬ x = 0) (ht0 : 0 <= t) (ht1 : t <= 255) (hc : w.cell? ⟨1, (tzX x).toNat, none⟩ = some (.int .u8 t)) :
  Calls Tryd.prog 89 #[.int .u64 x] w fun e w' => e = .returned (.int .i64 t) /\ w = w' := by
 have hz : (x == 0) = false := by simpa using h0
 obtain ⟨hb0, hb1⟩ := zlY x;unfold tzX at hc hb0 hb1;unfold U64 at hx;obtain ⟨hx0, hx1⟩ := hx;go_enter Tryd.func89, Tryd.ntmps89;go_wp2_with fail;go_ret;exact ⟨rfl, rfl⟩
theorem zmb (x : Nat) (w : World) (h0 : x ≠ 0) (hx : x < 18446744073709551616) (ht : TabX w) :
  Calls Tryd.prog 89 #[.int .u64 (x : Nat)] w fun e w' => e = .returned (.int .i64 (Lib.ctz 64 x : Nat)) /\ w = w' := by
 have hk := (Lib.lowest_bit 64 x h0 hx).2;have hd := Lib.deBruijn64_at _ hk;have he := zl9 x h0 hx;have hb := zlY x;have hc := ht.2 (tzX x).toNat (by omega)
 have hv : Lib.deBruijn64tab.getD (tzX x).toNat 0 = Lib.ctz 64 x := by rw [he, Int.toNat_natCast]; exact hd.2
 rw [hv] at hc;exact zma x _ w ⟨by omega, by omega⟩ (by omega) (by omega) (by omega) hc
def zbB (n : Nat) (S : Nat -> Bool) : List Nat := (List.range n).filter S
def zdE (n : Nat) (S : Nat -> Bool) : List Int := (zbB n S).map fun i => ((i : Nat) : Int)
section
variable {S : Nat -> Bool} {a b k j i : Nat}
theorem zfA (hab : a <= b) (h : ∀ i, a <= i -> i < b -> S i = false) : zbB b S = zbB a S := by
 induction b with
 | zero =>
  have : a = 0 := by omega
  rw [this]
 | succ b ih =>
  by_cases hb : a <= b
  ·unfold zbB;rw [List.range_succ, List.filter_append]
   have : [b].filter S = [] := by simp [h b hb (by omega)]
   rw [this, List.append_nil]
   exact ih hb fun i h1 h2 => h i h1 (by omega)
  ·have : a = b + 1 := by omega
   rw [this]
theorem zjk (h : S b = true) : zbB (b + 1) S = zbB b S ++ [b] := by
 unfold zbB;rw [List.range_succ, List.filter_append];simp [h]
def zec (S : Nat -> Bool) (k j : Nat) : Nat := zcg (fun i => S i && decide (64 * k + j <= i)) k
theorem zc8 : (zec S k j).testBit i = (decide (i < 64) && (S (64 * k + i) && decide (j <= i))) := by
 unfold zec;rw [zcp];have : decide (64 * k + j <= 64 * k + i) = decide (j <= i) := decide_eq_decide.2 (by omega);rw [this]
theorem ziI : zec S k j < 18446744073709551616 := zde _ _
theorem zjs : zec S k 0 = zcg S k := by
 refine Nat.eq_of_testBit_eq fun i => ?_
 rw [zc8, zcp];simp
theorem zju (h : zec S k j = 0) : ∀ i, 64 * k + j <= i -> i < 64 * k + 64 -> S i = false := by
 intro i h1 h2;have hb := zc8 (S := S) (k := k) (j := j) (i := i - 64 * k);rw [h, Nat.zero_testBit] at hb
 have e : 64 * k + (i - 64 * k) = i := by omega
 rw [e] at hb
 have h3 : i - 64 * k < 64 := by omega
 have h4 : j <= i - 64 * k := by omega
 simpa [h3, h4] using hb.symm
theorem zlJ {x : Nat} (h0 : x ≠ 0) (hx : x < 18446744073709551616) : ∃ m, x = (2 * m + 1) * 2 ^ Lib.ctz 64 x /\ Lib.ctz 64 x < 64 := by
 obtain ⟨m, hm, hk⟩ := Lib.ctzFrom_spec 64 x (by omega) hx
 have e : Lib.ctz 64 x = Lib.ctzFrom 64 x := by simp [Lib.ctz, h0]
 rw [e];exact ⟨m, by rw [Nat.mul_comm]; exact hm, hk⟩
theorem zlK {x : Nat} (h0 : x ≠ 0) (hx : x < 18446744073709551616) : x.testBit (Lib.ctz 64 x) = true /\ (∀ i, i < Lib.ctz 64 x -> x.testBit i = false) /\ ∀ i, (x &&& (x - 1)).testBit i = (x.testBit i && decide (Lib.ctz 64 x < i)) := by
 obtain ⟨m, hm, hk⟩ := zlJ h0 hx;obtain ⟨t, ht⟩ := mn (Lib.ctz 64 x);rw [ht] at hm hk ⊢
 have hb : ∀ i, x.testBit i = (decide (t <= i) && (2 * m + 1).testBit (i - t)) := fun i => by rw [hm, Nat.testBit_mul_two_pow]
 have hp : 0 < 2 ^ t := Nat.two_pow_pos t
 have hx1 : x - 1 = 2 ^ t * (2 * m) + (2 ^ t - 1) := by
  rw [hm, Nat.add_mul, Nat.one_mul, Nat.mul_comm (2 * m)]; omega
 refine ⟨by rw [hb]; simp, fun i hi => by rw [hb]; simp [show ¬ t <= i by omega], fun i => ?_⟩;rw [Nat.testBit_and, hb i, hx1, Nat.testBit_two_pow_mul_add _ (by omega) i]
 by_cases h1 : i < t
 ·simp [show ¬ t <= i by omega, show ¬ t < i by omega]
 ·rw [if_neg h1]
  by_cases h2 : i = t
  ·subst h2; simp
  ·obtain ⟨d, hd⟩ : ∃ d, i - t = d + 1 := ⟨i - t - 1, by omega⟩
   rw [hd, Nat.testBit_succ, Nat.testBit_succ, show (2 * m + 1) / 2 = m by omega, show 2 * m / 2 = m by omega];simp [show t <= i by omega, show t < i by omega]
theorem zjt (h0 : zec S k j ≠ 0) : ∃ t, Lib.ctz 64 (zec S k j) = t /\ t < 64 /\ j <= t /\ S (64 * k + t) = true /\ (∀ i, 64 * k + j <= i -> i < 64 * k + t -> S i = false) /\ zec S k j &&& (zec S k j - 1) = zec S k (t + 1) := by
 obtain ⟨t, ht⟩ := mn (Lib.ctz 64 (zec S k j));obtain ⟨h1, h2, h3⟩ := zlK h0 ziI;rw [ht] at h1 h2 h3;rw [zc8] at h1;simp only [Bool.and_eq_true, decide_eq_true_eq] at h1;refine ⟨t, ht, h1.1, h1.2.2, h1.2.1, fun i h4 h5 => ?_, ?_⟩
 ·have h6 := h2 (i - 64 * k) (by omega);rw [zc8] at h6
  have e : 64 * k + (i - 64 * k) = i := by omega
  rw [e] at h6
  have h7 : i - 64 * k < 64 := by omega
  have h8 : j <= i - 64 * k := by omega
  simpa [h7, h8] using h6
 ·refine Nat.eq_of_testBit_eq fun i => ?_
  rw [h3, zc8, zc8]
  by_cases h4 : t < i
  ·simp [h4, show t + 1 <= i by omega, show j <= i by omega]
  ·simp [h4, show ¬ t + 1 <= i by omega]
end
theorem zlx : (Tryd.prog.info? 3).map (fun i => (i.zero, i.size, i.bytes)) = some (some (.int .i64 0), 1, 8) := by kernel_rfl
theorem zfz (n : Nat) (S : Nat -> Bool) : (zbB n S).length <= n := by
 unfold zbB;have := List.length_filter_le S (List.range n)
 rwa [List.length_range] at this
theorem zdF {n : Nat} {S : Nat -> Bool} {i : Nat} : i ∈ zbB n S ↔ i < n /\ S i = true := by
 unfold zbB;rw [List.mem_filter, List.mem_range]
theorem zhn {g h n : Nat} {S : Nat -> Bool} {w : World} (hs : zcF w g h n S) (hS : ∀ i, n <= i -> S i = false) (ht : TabX w) :
  Calls Tryd.prog 84 #[.pointer (some ⟨g, 0, none⟩)] w fun e w' => ∃ A c, e = .returned (.slice A (zbB n S).length c) /\ w'.ownsRow w.heap.size 3 1 (.slice A (zbB n S).length c) (zbB n S).length ((zdE n S).map (Value.int .i64)) /\ Below w.heap.size w w' := by
 obtain ⟨i0, hi0, hz0, hz1, hz2⟩ := info_parts zlx;obtain ⟨_, cc, hcc, hcm, hc1⟩ := hs.cells;have hn := hs.le;have hg := hs.glt;have hh := hs.hlt
 have hword := fun k (hk : k < (n + 63) / 64) => hs.word hk
 obtain ⟨L, hL⟩ := mn ((n + 63) / 64);rw [hL] at hc1 hword hcc
 have hL2 : L <= 16384 := by omega
 have hLn : n <= 64 * L := by omega
 have hfin : zbB (64 * L) S = zbB n S := zfA hLn fun i h1 _ => hS i h1
 obtain ⟨Hs, HS, Ht, HL, Hword, Hfin⟩ := hd6 hs hS ht hL hword hfin;clear hfin hword hL ht hS hs;go_enter Tryd.func84, Tryd.ntmps84;go_wp2_with fail
 go_loopg [3, 13] L (fun gk s i wr => ∃ k : Nat, k + gk = L /\ i = .int .i64 k /\ Hid (wr.ownsRow w.heap.size 3 1 s (zbB (64 * k) S).length ((zdE (64 * k) S).map (Value.int .i64))) /\ Hid (Below w.heap.size w wr))
 case atStart => exact ⟨0, by omega, rfl, Lib.hid (World.ownsRow_nil _ _ _ _), Lib.hid (Below.refl _ _)⟩
 case round =>
  obtain ⟨k, hk, rfl, hown, hbw⟩ := hrel
  by_cases hlt : k < L
  ·have hxc := (hbw.out.cell (p := ⟨h, k, none⟩) hh).trans (Hword.out k hlt);obtain ⟨x, hx⟩ := mn (zcg S k : Nat);rw [hx] at hxc
   have hx0 : zec S k 0 = x := by rw [zjs]; exact hx
   have hxl : x < 18446744073709551616 := by rw [<- hx]; exact zde S k
   obtain ⟨Hx, Hx0⟩ := hd2 hx hx0;clear hx0 hx;obtain ⟨go, rfl⟩ := nm (gk);obtain ⟨wo, rfl⟩ := nm (wr);go_wp2_with fail;clear hxc
   go_loopg [3, 5] 65 (fun gk2 s v wq => ∃ (j x : Nat), j + gk2 = 65 /\ j <= 64 /\ v = .int .u64 x /\ x < 18446744073709551616 /\ Hid (zec S k j = x) /\ Hid (wq.ownsRow w.heap.size 3 1 s (zbB (64 * k + j) S).length ((zdE (64 * k + j) S).map (Value.int .i64))) /\ Hid (Below w.heap.size w wq))
   case atStart => exact ⟨0, x, by omega, by omega, rfl, hxl, Hx0, hown, hbw⟩
   case round =>
    obtain ⟨j, x2, hj, hj64, rfl, hxl2, hx2, hown2, hbw2⟩ := hrel;have hsz2 := hbw2.out.size
    by_cases hz : x2 = 0
    ·have hnone : zbB (64 * (k + 1)) S = zbB (64 * k + j) S := zfA (by omega) fun i h1 h2 => zju (hx2.out.trans hz) i h1 (by omega)
     subst hz;have hown3 := hown2.out;rw [show zdE (64 * k + j) S = zdE (64 * (k + 1)) S by unfold zdE; rw [hnone], <- hnone] at hown3;obtain ⟨Hnone, Hown3⟩ := hd2 hnone hown3;clear hown3 hnone;go_wp2_with fail
     go_roundg (go - 1)
     case measure => omega
     case rel => exact ⟨k + 1, by omega, by simp, Hown3, hbw2⟩
    ·obtain ⟨t, ht1, ht2, ht3, ht4, ht5, ht6⟩ := zjt (by rw [hx2.out]; exact hz);rw [hx2.out] at ht1 ht6;have htab := Ht.out.below hbw2.out (by have := Ht.out.1; omega);have htz := zmb x2 wr hz hxl2 htab;rw [ht1] at htz
     have hxu : (x2 : Int) <= 18446744073709551615 := by omega
     have hxz : ((x2 : Int) == 0) = false := by simp; omega
     have hx1 : IntKind.u64.wrap ((x2 : Int) - 1) = ((x2 - 1 : Nat) : Int) := by rw [IntKind.wrap_u64]; omega
     have hand : bits .and .u64 (x2 : Int) ((x2 - 1 : Nat) : Int) = ((zec S k (t + 1) : Nat) : Int) := by
      rw [bits_and_u64_nat _ _ hxl2 (by omega), ht6]
     obtain ⟨m2, hm2⟩ := mn ((zbB (64 * k + j) S).length)
     have hml : m2 <= 64 * k + j := by rw [<- hm2]; exact zfz _ _
     have hown3 := hown2.out;rw [hm2] at hown3
     have hlist : zbB (64 * k + (t + 1)) S = zbB (64 * k + j) S ++ [64 * k + t] := by
      rw [show 64 * k + (t + 1) = (64 * k + t) + 1 by omega, zjk ht4, zfA (by omega) ht5]
     have hlistS : (zdE (64 * k + (t + 1)) S).map (Value.int .i64) = (zdE (64 * k + j) S).map (Value.int .i64) ++ [.int .i64 (64 * (k : Int) + t)] := by
      unfold zdE;rw [hlist]; simp
     obtain ⟨x3, hx3⟩ := mn (zec S k (t + 1));rw [hx3] at hand
     have hx3l : x3 < 18446744073709551616 := by rw [<- hx3]; exact ziI
     obtain ⟨Ht1, Ht4, Ht5, Ht6, Htab, Htz, Hm2, Hown3⟩ := hd8 ht1 ht4 ht5 ht6 htab htz hm2 hown3;obtain ⟨Hlist, HlistS, Hx3, HAND⟩ := hd4 hlist hlistS hx3 hand;clear hand hx3 hlistS hlist hown3 hm2 htz htab ht6 ht5 ht4 ht1;have hand := HAND.out;go_wp2_with fail;refine Htz.out.mono ?_;rintro e w' ⟨rfl, rfl⟩
     go_wp2_with (first
      | (at_builtin
         refine zau _ rfl (.tmp 24) (.tmp 30) _ rfl w.heap.size 3 i0 _ 1 8 Tryd.underlying40 hi0 hz0 hz1 hz2 rfl (by omega) _ m2 _ rfl
          (Hown3.out.alloc _) _ (some ⟨wr.heap.size, 0, none⟩) 1 1 [.int .i64 _] rfl (zal.new1 _ _ _) ?c1 ?c2 ?c3 ?c4 ?_
         case c1 => intro u hu; simp only [List.mem_singleton] at hu; subst hu; rfl
         case c2 => simp only [maxLen]; omega
         case c3 => omega
         case c4 => simp; omega
         intro v2 w2 hown2 hg2 hat2))
     have hown4 : w2.ownsRow w.heap.size 3 1 v2 (zbB (64 * k + (t + 1)) S).length ((zdE (64 * k + (t + 1)) S).map (Value.int .i64)) := by
      rw [HlistS.out, Hlist.out, List.length_append, List.length_singleton, Hm2.out];exact hown2
     have hbw4 := (hbw2.out.alloc hsz2 _).grown hg2 (by simp; omega) (fun g hg => (Hown3.out.lt g hg).1);obtain ⟨Hown4, Hbw4⟩ := hd2 hown4 hbw4;clear hbw4 hown4
     go_roundg (64 - t)
     case measure => omega
     case rel => exact ⟨t + 1, x3, by omega, by omega, rfl, hx3l, Hx3, Hown4, Hbw4⟩
  ·obtain rfl : k = L := by omega
   have hown3 := hown.out;rw [show zdE (64 * k) S = zdE n S by unfold zdE; rw [Hfin.out], Hfin.out] at hown3;obtain ⟨A, c, rfl, _⟩ := zak hown3;have Hown3 := Lib.hid hown3;clear hown3;go_wp2_with fail;go_ret;exact ⟨A, c, rfl, Hown3.out, hbw.out⟩
def zfq (S : Nat -> Bool) (l : List Nat) : Nat -> Bool := fun i => S i || decide (i ∈ l)
theorem zjW (S : Nat -> Bool) : zfq S [] = S := by funext i; simp [zfq]
theorem ziX (S : Nat -> Bool) (l : List Nat) (p : Nat) : ziO (zfq S l) p = zfq S (l ++ [p]) := by
 funext i
 unfold ziO zfq
 by_cases h : i = p <;> simp [h]
def orS (S T : Nat -> Bool) : Nat -> Bool := fun i => S i || T i
def newS (n : Nat) (S T : Nat -> Bool) : Bool := (List.range n).any fun i => T i && !S i
theorem ziY {n : Nat} {S T : Nat -> Bool} (hT : ∀ i, n <= i -> T i = false) : zfq S (zbB n T) = orS S T := by
 funext i
 unfold zfq orS
 by_cases h : i < n
 ·simp only [zdF, h, true_and]
  cases T i <;> simp
 ·have := hT i (by omega);simp [zdF, h, this]
theorem zkm {n : Nat} {S T : Nat -> Bool} : (zbB n T).any (fun i => !S i) = newS n S T := by
 unfold newS zbB;rw [List.any_filter]
def zfM (S : Nat -> Bool) (l : List Nat) : Bool := l.any fun i => !S i
theorem zhm (n : Nat) (S : Nat -> Bool) : (zbB n S).Pairwise (· < ·) := List.Pairwise.filter _ (List.pairwise_lt_range)
theorem zmk {g h g2 h2 n : Nat} {S T : Nat -> Bool} {w : World} (hs : zcF w g h n S) (ht : zcF w g2 h2 n T) (hT : ∀ i, n <= i -> T i = false) (htab : TabX w) (hh : 1 ≠ h) :
  Calls Tryd.prog 62 #[.pointer (some ⟨g, 0, none⟩), .pointer (some ⟨g2, 0, none⟩)] w fun e w' => e = .returned (.bool (newS n S T)) /\ zcF w' g h n (orS S T) /\ w.grownBy w' (some h) := by
 obtain ⟨l, hl⟩ := mn (zbB n T)
 have hfin : zfq S l = orS S T := by rw [<- hl]; exact ziY hT
 have hans : zfM S l = newS n S T := by rw [<- hl]; exact zkm
 rw [<- hfin, <- hans];have hlist := zhn ht hT htab;rw [hl, show zdE n T = l.map (fun i => ((i : Nat) : Int)) by unfold zdE; rw [hl]] at hlist
 have hlm : ∀ p ∈ l, p < n := fun p hp => by rw [<- hl] at hp; exact (zdF.1 hp).1
 have hln : l.length <= n := by rw [<- hl]; exact zfz n T
 have hnd : l.Nodup := by
  rw [<- hl]
  exact (zhm n T).imp fun h => Nat.ne_of_lt h
 have hle := hs.le;have hgl := hs.glt;have hhl := hs.hlt;obtain ⟨Hs, Ht, HT, Htab, Hl, Hfin, Hans, Hlist⟩ := hd8 hs ht hT htab hl hfin hans hlist;obtain ⟨Hlm, Hnd⟩ := hd2 hlm hnd;clear hnd hlm hlist hans hfin hl htab hT ht hs;go_enter Tryd.func62, Tryd.ntmps62;go_wp2_with fail;refine Hlist.out.mono ?_;rintro e w1 ⟨LA, lc, rfl, hown, hb1⟩;obtain ⟨m, hm⟩ := mn (l.length);rw [hm] at hown hln ⊢;have hs1 := Hs.out.below hb1 hgl hhl;have hR := zal.of_own hown;have hg1 := zah hb1 (some h);obtain ⟨Hown, Hb1, Hs1, HR, Hg1⟩ := hd5 hown hb1 hs1 hR hg1;clear hg1 hR hs1 hb1 hown;go_wp2_with fail
 go_loopg [5, 11] m (fun gk cv iv wr => ∃ j : Nat, j + gk = m /\ iv = .int .i64 j /\ cv = .bool (zfM S (l.take j)) /\ Hid (zcF wr g h n (zfq S (l.take j))) /\ Hid (w1.grownBy wr (some h)))
 case atStart => exact ⟨0, by omega, rfl, by simp [zfM], by rw [List.take_zero, zjW]; exact Hs1, Lib.hid (World.grownBy.refl _ _)⟩
 case round =>
  obtain ⟨j, hj, rfl, rfl, hsj, hgj⟩ := hrel
  by_cases hjm : j < m
  ·have hjl : j < l.length := by omega
   obtain ⟨p, hp⟩ : ∃ p, l[j]? = some p := ⟨_, List.getElem?_eq_getElem hjl⟩
   have hpn := Hlm.out p (List.mem_of_getElem? hp)
   have hown2 := World.ownsRow.kept Hown.out hgj.out (by
    rcases hv : (Value.slice LA m lc).ownBlock with _ | b
    ·exact .inl rfl
    ·refine .inr fun e => ?_
     injection e with e;have := (Hown.out.lt b hv).1
     omega)
   obtain ⟨ad, u, hA, _, hu, hcu⟩ := (zal.of_own hown2).at_ hjm;subst hA
   have hu2 : u = .int .i64 (p : Nat) := by
    rw [List.getElem?_map, List.getElem?_map, hp] at hu;injection hu with hu;exact hu.symm
   subst hu2;have hadd := ziP hsj.out hpn
   have hnot : p ∉ l.take j := by
    intro hm';obtain ⟨i, hi, hip⟩ := List.getElem_of_mem hm';rw [List.length_take] at hi;rw [List.getElem_take] at hip;have h1 := (List.getElem?_eq_some_iff.1 hp).2;exact List.pairwise_iff_getElem.1 Hnd.out i j (by omega) hjl (by omega) (hip.trans h1.symm)
   have hsp : zfq S (l.take j) p = S p := by simp [zfq, hnot]
   have htk : l.take (j + 1) = l.take j ++ [p] := by rw [List.take_add_one, hp]; rfl
   rw [hsp, ziX, <- htk] at hadd
   have hany : zfM S (l.take (j + 1)) = (zfM S (l.take j) || !S p) := by rw [htk]; simp [zfM]
   have hji : (j : Int) < m := by omega
   obtain ⟨b, hb⟩ := mn (S p);obtain ⟨c, hc⟩ := mn (zfM S (l.take j));rw [hb] at hadd hany;rw [hc] at hany ⊢;obtain ⟨Hp, Hown2, Hu, Hadd, Hnot, Hsp, Htk, Hany⟩ := hd8 hp hown2 hu hadd hnot hsp htk hany;obtain ⟨Hb, Hc⟩ := hd2 hb hc;clear hc hb hany htk hsp hnot hadd hu hown2 hp;go_wp2_with fail;refine Hadd.out.mono ?_;rintro e w3 ⟨rfl, hs3, hg3⟩;have hg13 := hgj.out.trans hg3;obtain ⟨Hs3, Hg3, Hg13⟩ := hd3 hs3 hg3 hg13;clear hg13 hg3 hs3
   cases b
   ·go_wp2_with fail
    go_roundg (gk - 1)
    case measure => omega
    case rel => exact ⟨j + 1, by omega, by simp, by rw [Hany.out]; simp, Hs3, Hg13⟩
   ·go_wp2_with fail
    go_roundg (gk - 1)
    case measure => omega
    case rel => exact ⟨j + 1, by omega, by simp, by rw [Hany.out]; simp, Hs3, Hg13⟩
  ·obtain rfl : j = m := by omega
   have htl : l.take j = l := by rw [<- hm, List.take_length]
   rw [htl] at hsj ⊢;have hgw := (zah Hb1.out (some h)).trans hgj.out;obtain ⟨Htl, Hgw⟩ := hd2 htl hgw;clear hgw htl;go_wp2_with fail;go_ret;exact ⟨rfl, hsj.out, Hgw.out⟩
def zfk (g f : zad) (bound : Bool) (i : Nat) (p : Int) : Bool := if bound then decide (p = i) else za7 g false (f.kinds.getD (f.params.getD i 0).toNat 0) p
def zcM (gs : List zad) (g : zad) (bound : Bool) (x : zam) : Bool := decide (0 <= x.f) && (match gs[x.f.toNat]? with | none => false | some f => decide (x.args.length = f.params.length) && (List.range x.args.length).all fun i => zfk g f bound i (x.args.getD i 0))
theorem ziN {w : World} {B cb : Nat} {allv : Value} {gs : List zad} {ga : Addr} {g : zad} {pv kv iv nv : Value} {bound : Bool} (h : Ck w B cb allv gs ga g pv kv iv nv bound)
  (hpar : ∀ f ∈ gs, ∀ p ∈ f.params, 0 <= p /\ p < f.kinds.length) (hgl : gs.length <= 16) (x : zam) (av : Value) (D : Nat) (hD : D <= w.heap.size) (hav : zaO .i64 w D av x.args) (hal : x.args.length <= 140737488351232) (hpl : ∀ f ∈ gs, f.params.length <= 4) (hkl : ∀ f ∈ gs, f.kinds.length <= 1024) :
  Calls Tryd.prog 55 #[.pointer (some ⟨cb, 0, none⟩), .agg (zae x av).toArray] w fun e w' => e = .returned (.bool (zcM gs g bound x)) /\ Below w.heap.size w w' := by
 obtain ⟨r, hr⟩ := mn (zcM gs g bound x);rw [hr];unfold zcM at hr;obtain ⟨op, byo, d, e, a, b, f, cell, imm, args, next, els⟩ := x;simp only at hr hav hal;obtain ⟨AA, ac, rfl, _, _, hAr⟩ := hav.slice;obtain ⟨m, hm⟩ := mn (args.length);rw [hm] at hAr hal hr;simp only [zae, hm];have hP := Blk.new w 55 #[.int .u8 op, .int .u8 byo, .int .i64 d, .int .i64 e, .int .i64 a, .int .i64 b, .int .i64 f, .int .i64 cell, .int .u64 imm, .slice AA m ac, .int .i64 next, .int .i64 els];have kp6 := bc hP 6;have kp9 := bc hP 9;obtain ⟨NC, hNC⟩ := nm (#[.int .u8 op, .int .u8 byo, .int .i64 d, .int .i64 e, .int .i64 a, .int .i64 b, .int .i64 f, .int .i64 cell, .int .u64 imm, .slice AA m ac, .int .i64 next, .int .i64 els] : Array Value);have hC := h.below ((Below.refl w.heap.size w).alloc (Nat.le_refl _) (.cells NC 55));have hb := (Below.refl w.heap.size w).alloc (Nat.le_refl _) (.cells NC 55);have hA := hAr.below ((Below.refl D w).alloc hD (.cells NC 55));rw [<- hNC] at kp6 kp9 ⊢;obtain ⟨V, hV⟩ := nm (w.alloc (.cells NC 55));rw [<- hV] at hC hb hA kp6 kp9;obtain ⟨GA, gc, rfl, _, _⟩ := hC.all.slice;have kc0 := bc hC.blk 0;have kc2 := bc hC.blk 2;obtain ⟨Z, hZ⟩ := mn (gs.length);rw [hZ] at kc0 hgl
 by_cases f0 : 0 <= f
 case neg =>
  have hf : f < 0 := by omega
  have hs : r = false := by rw [<- hr]; simp [f0]
  obtain ⟨Hb, HA, HC, Hr, HP, HAr, H, Hpar⟩ := hd8 hb hA hC hr hP hAr h hpar;obtain ⟨Hpl, Hm, HZ, HNC, Hs, HV, Hkl⟩ := hd7 hpl hm hZ hNC hs hV hkl;clear hkl hV hs hNC hZ hm hpl hpar h hAr hP hr hC hA hb;go_enter Tryd.func55, Tryd.ntmps55;go_upto_region 1 with fail;rw [<- HV.out]
  go_quiet (fail)
  go_wp2_with fail;go_ret;rw [Hs.out];exact ⟨rfl, below_drewN Hb.out _⟩
 obtain ⟨F, rfl⟩ := Int.eq_ofNat_of_zero_le f0
 have f0' : ¬ (F : Int) < 0 := by omega
 by_cases f1 : F < Z
 case neg =>
  have hf : (Z : Int) <= F := by omega
  have hs : r = false := by rw [<- hr, Int.toNat_natCast, List.getElem?_eq_none (by omega)]; simp
  obtain ⟨Hb, HA, HC, Hr, HP, HAr, H, Hpar⟩ := hd8 hb hA hC hr hP hAr h hpar;obtain ⟨Hpl, Hm, HZ, HNC, Hs, HV, Hkl⟩ := hd7 hpl hm hZ hNC hs hV hkl;clear hkl hV hs hNC hZ hm hpl hpar h hAr hP hr hC hA hb;clear f0 f1;go_enter Tryd.func55, Tryd.ntmps55;go_upto_region 1 with fail;rw [<- HV.out]
  go_quiet (fail)
  go_wp2_with fail;go_ret;rw [Hs.out];exact ⟨rfl, below_drewN Hb.out _⟩
 obtain ⟨ff, hff⟩ : ∃ ff, gs[F]? = some ff := ⟨_, List.getElem?_eq_getElem (by omega)⟩
 have hfm := List.mem_of_getElem? hff;rw [Int.toNat_natCast, hff] at hr;simp only [f0, decide_true, Bool.true_and] at hr
 have hf1 : ¬ (Z : Int) <= F := by omega
 have hf2 : (F : Int) < Z := by omega
 have hpl' := hpl ff hfm;have hkl' := hkl ff hfm;have hpar' := hpar ff hfm;obtain ⟨ad, pv2, kv2, iv2, nv2, hGA, _, hG2⟩ := hC.all.at_ hff;subst hGA;obtain ⟨PA, pc, hpv2, _, _, hPR⟩ := hG2.params.slice;subst hpv2;obtain ⟨PK, kc, hkv2, _, _, hKR⟩ := hG2.kinds.slice;subst hkv2;obtain ⟨M, hM⟩ := mn (ff.params.length);obtain ⟨KL, hKL⟩ := mn (ff.kinds.length);have g0 := hG2.c0;have g1 := hG2.c1;rw [hM] at hr hPR hpl' g0;rw [hKL] at hKR hkl' g1 hpar';obtain ⟨Hb, HA, HC, Hr, HP, HAr, H, Hpar⟩ := hd8 hb hA hC hr hP hAr h hpar;obtain ⟨Hpl, Hm, HZ, HNC, HV, Hff, Hfm, HG2⟩ := hd8 hpl hm hZ hNC hV hff hfm hG2;obtain ⟨HPR, HKR, HM, HKL, Hpar', Hkl⟩ := hd6 hPR hKR hM hKL hpar' hkl;clear hkl hpar' hKL hM hKR hPR hG2 hfm hff hV hNC hZ hm hpl hpar h hAr hP hr hC hA hb;clear f0 f1;go_enter Tryd.func55, Tryd.ntmps55;go_upto_region 1 with fail;rw [<- HV.out]
 go_quiet (fail)
 obtain ⟨q1, rfl⟩ := nm (nq);go_upto_region 3 with fail
 go_quiet (fail)
 obtain ⟨q2, rfl⟩ := nm (nq);go_upto_region 4 with fail
 by_cases hmM : m = M
 ·subst hmM
  go_quiet (fail)
  obtain ⟨q3, rfl⟩ := nm (nq);have hd : Below V.heap.size V (((V.drewN q1).drewN q2).drewN q3) := below_drewN (below_drewN (below_drewN (Below.refl _ _) _) _) _;have hb0 : Below w.heap.size w (((V.drewN q1).drewN q2).drewN q3) := below_drewN (below_drewN (below_drewN Hb.out _) _) _;have hC0 := HC.out.below hd;have hA0 := HA.out.below (hd.mono (Nat.le_trans hD Hb.out.size));have hG0 := HG2.out.below (hd.mono (by have := HC.out.le; have := HC.out.blk.lt; omega));have hP0 := HPR.out.below (hd.mono (by have := HC.out.le; have := HC.out.blk.lt; omega));have hK0 := HKR.out.below (hd.mono (by have := HC.out.le; have := HC.out.blk.lt; omega));have kp9' : (((V.drewN q1).drewN q2).drewN q3).cell? ⟨w.heap.size, 9, none⟩ = some (.slice AA m ac) := kp9
  have hVw : w.heap.size < V.heap.size := by rw [HV.out, World.size_alloc]; omega
  obtain ⟨W0, hW0⟩ := nm (((V.drewN q1).drewN q2).drewN q3);rw [<- hW0] at hd hb0 hC0 hA0 hG0 hP0 hK0 kp9' ⊢;have hr2 := Hr.out;simp only [decide_true, Bool.true_and] at hr2;have hsz0 := hd.size;obtain ⟨HW0, Hd, Hb0, HC0, HA0, HG0, HP0, HK0⟩ := hd8 hW0 hd hb0 hC0 hA0 hG0 hP0 hK0;have Hr2 := Lib.hid hr2;clear hr2 hK0 hP0 hG0 hA0 hC0 hb0 hd hW0;clear kp6 kp9 kc0 kc2 g0 g1;go_wp2_with fail
  go_loopw [40] (fun i wq => ∃ j : Nat, j <= m /\ i = .int .i64 j /\ Below W0.heap.size W0 wq /\ Hid (∀ k, k < j -> zfk g ff bound k (args.getD k 0) = true)) (fun i _ => m - (intOf i).toNat)
  case atStart => exact ⟨0, by omega, rfl, Below.refl _ _, (show ∀ k, k < 0 -> zfk g ff bound k (args.getD k 0) = true by omega)⟩
  case round =>
   obtain ⟨j, hj, rfl, hbq, hall⟩ := hrel;have hsq := hbq.size;have hCq := HC0.out.below hbq
   by_cases hjm : j < m
   ·obtain ⟨aad, u0, hAA, _, hu0, hce⟩ := (HA0.out.below (hbq.mono (by have := Hb0.out.size; omega))).at_ hjm;subst hAA
    obtain ⟨p, hpj, rfl⟩ : ∃ p, args[j]? = some p /\ u0 = .int .i64 p := by
     rw [List.getElem?_map, Option.map_eq_some_iff] at hu0;obtain ⟨x, h1, h2⟩ := hu0;exact ⟨x, h1, h2.symm⟩
    have hpg : args.getD j 0 = p := by rw [List.getD_eq_getElem?_getD, hpj]; rfl
    have hBq : B <= W0.heap.size := by have := HC0.out.le; have := HC0.out.blk.lt; omega
    obtain ⟨pad, pu, hPA, _, hpu, hpce⟩ := (HP0.out.below (hbq.mono hBq)).at_ hjm;subst hPA
    obtain ⟨pp, hpp, rfl⟩ : ∃ pp, ff.params[j]? = some pp /\ pu = .int .i64 pp := by
     rw [List.getElem?_map, Option.map_eq_some_iff] at hpu;obtain ⟨x, h1, h2⟩ := hpu;exact ⟨x, h1, h2.symm⟩
    obtain ⟨pp0, pp1⟩ := Hpar'.out pp (List.mem_of_getElem? hpp);obtain ⟨PP, rfl⟩ := Int.eq_ofNat_of_zero_le pp0
    have hPK : PP < KL := by omega
    obtain ⟨kad, ku, hKA, _, hku, hkce⟩ := (HK0.out.below (hbq.mono hBq)).at_ hPK;subst hKA
    obtain ⟨kk, hkk, rfl⟩ : ∃ kk, ff.kinds[PP]? = some kk /\ ku = .int .u8 kk := by
     rw [List.getElem?_map, Option.map_eq_some_iff] at hku;obtain ⟨x, h1, h2⟩ := hku;exact ⟨x, h1, h2.symm⟩
    have hkg : ff.kinds.getD (ff.params.getD j 0).toNat 0 = kk := by
     rw [List.getD_eq_getElem?_getD (l := ff.params), hpp, Option.getD_some, Int.toNat_natCast, List.getD_eq_getElem?_getD, hkk]
     rfl
    have hGq := HG0.out.below (hbq.mono hBq);have g0 := hGq.c0;have g1 := hGq.c1;rw [HM.out] at g0;rw [HKL.out] at g1;have kc2 := bc hCq.blk 2
    have hbig : r = false ∨ zfk g ff bound j p = true := by
     rcases hh : zfk g ff bound j p with _ | _
     ·left
      rw [<- Hr2.out]
      rcases hq : (List.range m).all (fun i => zfk g ff bound i (args.getD i 0)) with _ | _
      ·rfl
      ·have := List.all_eq_true.1 hq j (List.mem_range.2 hjm);rw [hpg, hh] at this; cases this
     ·exact .inr rfl
    have hstep : zfk g ff bound j p = true -> ∀ k, k < j + 1 -> zfk g ff bound k (args.getD k 0) = true := fun hf k hk => by
     by_cases hkj : k = j
     ·rw [hkj, hpg]; exact hf
     ·exact hall.out k (by omega)
    have hbnd := Hb0.out.trans (hbq.mono Hb0.out.size)
    have hjI : (j : Int) < m := by omega
    have hPKI : (PP : Int) < KL := by omega
    clear hu0 hpu hku
    cases bound
    ·obtain ⟨bb, hbb⟩ := mn (isB g false kk [p])
     have harg : zfk g ff false j p = bb := by
      rw [<- hbb];unfold zfk isB;rw [if_neg (by decide), hkg];simp
     rw [harg] at hbig hstep;have l0 := hCq.blk.lt;have l1 : (ad.add (F * 8)).block < wr.heap.size := Nat.lt_of_lt_of_le hGq.lt (by omega);have hal := (Below.refl wr.drew.heap.size wr.drew).alloc (Nat.le_refl _) (.cells #[.int .i64 p] 3)
     have lp : (pad.add j).block < wr.heap.size := by rw [block_add]; omega
     have lk : (kad.add PP).block < wr.heap.size := by rw [block_add]; omega
     have e0 := (hal.cell (p := ⟨cb, 2, none⟩) l0).trans kc2;have e1 := (hal.cell (p := ad.add (F * 8)) l1).trans g0;have e2 := (hal.cell (p := ⟨(ad.add (F * 8)).block, (ad.add (F * 8)).off + 1, none⟩) l1).trans g1;have e3 := (hal.cell (p := pad.add j) lp).trans hpce;have e4 := (hal.cell (p := kad.add PP) lk).trans hkce;have hCal := hCq.below ((Below.refl wr.heap.size wr).drew.alloc (Nat.le_refl _) (.cells #[.int .i64 p] 3));obtain ⟨Hstep, Hbig, Hall, Hbq, HCq, Hpj, Hpg, Hpp⟩ := hd8 hstep hbig hall hbq hCq hpj hpg hpp;obtain ⟨Hkk, Hkg, HGq, Hbnd, Hbb, Harg, Hal, HCal⟩ := hd8 hkk hkg hGq hbnd hbb harg hal hCal;clear hCal hal harg hbb hbnd hGq hkg hkk hpp hpg hpj hCq hbq hall hbig hstep;go_upto_region 9 with fail;refine wp_region_noPanic ?_;refine wp_region_held_drew (S := fun W => W.cell? ⟨cb, 2, none⟩ = some (.bool false) /\ W.cell? (ad.add (F * 8)) = some (.slice (some pad) m pc) /\ W.cell? ⟨(ad.add (F * 8)).block, (ad.add (F * 8)).off + 1, none⟩ = some (.slice (some kad) KL kc) /\ W.cell? (pad.add j) = some (.int .i64 PP) /\ W.cell? (kad.add PP) = some (.int .u8 kk)) (by kernel_rfl) ⟨kc2, g0, g1, hpce, hkce⟩ (fun hHeld => ?_);refine zab 0 ?_;refine zab 1 ?_;refine zab 2 ?_;refine zab 3 ?_;refine zab 4 ?_;refine zac 5 ?_;refine zac 6 ?_;refine zac 7 ?_;refine zab 8 ?_;refine zab 9 ?_;refine zab 10 ?_;refine zab 11 ?_;refine zab 12 ?_;refine zab 13 ?_;refine zab 14 ?_;refine zab 15 ?_;refine zab 16 ?_;refine zab 17 ?_;refine zab 18 ?_;refine zab 19 ?_;refine zab 20 ?_;refine zab 21 ?_;refine zab 22 ?_;refine zab 23 ?_;refine zab 24 ?_;refine zab 25 ?_;refine zab 26 ?_;refine zab 27 ?_;refine zab 28 ?_;refine zab 29 ?_;refine zab 30 ?_;refine zbb 31 (fun K hK => ?_);go_simp;refine hK.out _ _ ⟨e0, e1, e2, e3, e4⟩ (fun hHeld2 => ?_);clear hK K hHeld;refine lay ?_;refine zbb 32 (fun K hK => ?_);go_simp;refine (zcu HCal.out kk (wr.heap.size + 1) (some ⟨wr.heap.size, 0, none⟩) 1 1 [p] (zal.new1 _ _ _) rfl (by omega)).mono ?_;rintro e w1 ⟨rfl, rfl⟩;rw [Hbb.out];refine hK.out _ _ ⟨e0, e1, e2, e3, e4⟩ (fun hHeld3 => ?_);clear hK K hHeld2;refine lay ?_;refine zab 33 ?_;refine zab 34 ?_;refine zab 35 ?_;refine wpAnyH_done (by kernel_rfl) ?_ _;refine NoPanic.normal ?_;clear hHeld3 e0 e1 e2 e3 e4 g0 g1 hpce hkce kc2;have hbe := Hbq.out.drew.trans (Hal.out.mono Hbq.out.size);have hbe2 := Hbnd.out.drew.trans (Hal.out.mono Hbnd.out.size)
     cases bb
     ·have hs : r = false := by
       rcases Hbig.out with h1 | h1
       ·exact h1
       ·cases h1
      obtain ⟨Hs, Hbe, Hbe2⟩ := hd3 hs hbe hbe2;clear hbe2 hbe hs;go_wp2_with fail;go_ret;rw [Hs.out];exact ⟨rfl, Hbe2.out⟩
     ·have hs := Hstep.out rfl;obtain ⟨Hs, Hbe, Hbe2⟩ := hd3 hs hbe hbe2;clear hbe2 hbe hs;go_wp2_with fail;exact ⟨⟨j + 1, by omega, by go_num, Hbe.out, Lib.hid Hs.out⟩, by simp [intOf]; omega⟩
    ·by_cases hpe : p = j
     ·have hs := hstep (by simp [zfk, hpe])
      have hne : (p != (j : Int)) = false := by simp [hpe]
      obtain ⟨Hs, Hstep, Hbig, Hall, Hbq, HCq, Hpj, Hpg⟩ := hd8 hs hstep hbig hall hbq hCq hpj hpg;obtain ⟨Hpp, Hkk, Hkg, HGq, Hbnd⟩ := hd5 hpp hkk hkg hGq hbnd;clear hbnd hGq hkg hkk hpp hpg hpj hCq hbq hall hbig hstep hs;go_upto_region 9 with fail
      go_quiet (fail)
      go_wp2_with fail;exact ⟨⟨j + 1, by omega, by go_num, below_drewN Hbq.out nq, Lib.hid Hs.out⟩, by simp [intOf]; omega⟩
     ·have hs : r = false := by
       rcases hbig with h1 | h1
       ·exact h1
       ·simp [zfk, hpe] at h1
      have hne : (p != (j : Int)) = true := by simp [hpe]
      obtain ⟨Hs, Hstep, Hbig, Hall, Hbq, HCq, Hpj, Hpg⟩ := hd8 hs hstep hbig hall hbq hCq hpj hpg;obtain ⟨Hpp, Hkk, Hkg, HGq, Hbnd, Hpe⟩ := hd6 hpp hkk hkg hGq hbnd hpe;clear hpe hbnd hGq hkg hkk hpp hpg hpj hCq hbq hall hbig hstep hs;go_upto_region 9 with fail
      go_quiet (fail)
      go_wp2_with fail;go_ret;rw [Hs.out];exact ⟨rfl, below_drewN Hbnd.out nq⟩
   ·have hs : r = true := by
     rw [<- Hr2.out]
     refine List.all_eq_true.2 fun k hk => hall.out k ?_
     have := List.mem_range.1 hk
     omega
    have hbnd := Hb0.out.trans (hbq.mono Hb0.out.size);obtain ⟨Hs, Hall, Hbq, HCq, Hbnd⟩ := hd5 hs hall hbq hCq hbnd;clear hbnd hCq hbq hall hs;go_wp2_with fail;go_ret;rw [Hs.out];exact ⟨rfl, Hbnd.out⟩
 ·have hn : ((m : Int) != M) = true := by simp; omega
  have hs : r = false := by rw [<- Hr.out]; simp [hmM]
  obtain ⟨Hs, HmM⟩ := hd2 hs hmM;clear hmM hs
  go_quiet (fail)
  go_wp2_with fail;go_ret;rw [Hs.out];refine ⟨rfl, ?_⟩
  repeat refine below_drewN ?_ _
  exact Hb.out
end Go.Proofs.YtnfjjliiajaijaaDoor
