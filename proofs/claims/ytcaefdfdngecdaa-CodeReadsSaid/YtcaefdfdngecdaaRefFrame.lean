/- What stands while the document's reader reads: the tape, the functions read so far, the function being read; and how each step keeps it. No condition. -/
import Derived.Test.YtcaefdfdngecdaaRefPlain
set_option linter.unusedVariables false
set_option linter.unusedSimpArgs false
namespace Go.Proofs.Ytcaefdfdngecdaa
open Go.RowKit

/-- nothing that was there has turned, but for the blocks of S -/
structure Keeps (S : Nat → Prop) (w w' : World) : Prop where
  os : w'.os = w.os
  tape : w'.tape = w.tape
  output : w'.output = w.output
  size : w.heap.size ≤ w'.heap.size
  block : ∀ i, i < w.heap.size → ¬ S i → w'.heap[i]? = w.heap[i]?
section
variable {S S' : Nat → Prop} {w w' w'' : World}
theorem Keeps.refl (S : Nat → Prop) (w : World) : Keeps S w w := ⟨rfl, rfl, rfl, Nat.le_refl _, fun _ _ _ => rfl⟩
theorem Keeps.trans (h : Keeps S w w') (k : Keeps S' w' w'') (hS : ∀ i, S' i → S i ∨ w.heap.size ≤ i) : Keeps S w w'' :=
  ⟨k.os.trans h.os, k.tape.trans h.tape, k.output.trans h.output, Nat.le_trans h.size k.size, fun i hi hn =>
    (k.block i (Nat.lt_of_lt_of_le hi h.size) (fun hs => by rcases hS i hs with h1 | h1; exact hn h1; omega)).trans (h.block i hi hn)⟩
theorem Keeps.drewN (h : Keeps S w w') (q : Nat) : Keeps S w (w'.drewN q) := ⟨h.os, h.tape, h.output, h.size, h.block⟩
theorem Keeps.drew (h : Keeps S w w') : Keeps S w w'.drew := ⟨h.os, h.tape, h.output, h.size, h.block⟩
theorem Keeps.of_drew (h : Keeps S w.drew w') : Keeps S w w' := ⟨h.os, h.tape, h.output, h.size, h.block⟩
theorem Keeps.grown {row : Option Nat} (h : Keeps S w w') (hg : w'.grownBy w'' row) (hr : ∀ g, row = some g → S g ∨ w.heap.size ≤ g) : Keeps S w w'' :=
  ⟨hg.os.trans h.os, hg.tape.trans h.tape, hg.output.trans h.output, Nat.le_trans h.size hg.size, fun i hi hn =>
    (hg.block i (Nat.lt_of_lt_of_le hi h.size) (fun e => by rcases hr i e.symm with h1 | h1; exact hn h1; omega)).trans (h.block i hi hn)⟩
theorem Keeps.alloc (h : Keeps S w w') (o : Obj) : Keeps S w (w'.alloc o) := h.grown (World.grownBy_alloc w' o none) nofun
theorem Keeps.setCell (h : Keeps S w w') {p : Addr} (hp : S p.block ∨ w.heap.size ≤ p.block) (u : Value) : Keeps S w (w'.setCell p u) :=
  h.grown (grown_setCell w' p u) fun g e => by injection e with e; subst e; exact hp
theorem Keeps.below {B : Nat} (h : Keeps S w w') (hb : Below B w' w'') (hB : w.heap.size ≤ B) : Keeps S w w'' :=
  ⟨hb.os.trans h.os, hb.tape.trans h.tape, hb.output.trans h.output, Nat.le_trans h.size hb.size, fun i hi hn => (hb.block i (by omega)).trans (h.block i hi hn)⟩
theorem Keeps.mono (h : Keeps S w w') (hS : ∀ i, i < w.heap.size → S i → S' i) : Keeps S' w w' := ⟨h.os, h.tape, h.output, h.size, fun i hi hn => h.block i hi fun hs => hn (hS i hi hs)⟩
theorem Keeps.toBelow {B : Nat} (h : Keeps S w w') (hB : B ≤ w.heap.size) (hS : ∀ i, S i → B ≤ i) : Below B w w' :=
  ⟨h.os, h.tape, h.output, h.size, fun i hi => h.block i (by omega) fun hs => by have := hS i hs; omega⟩
theorem Keeps.blk {g : Nat} {t : TypeId} {cs : Array Value} (h : Keeps S w w') (hb : Blk w g t cs) (hg : ¬ S g) : Blk w' g t cs := (h.block g hb.lt hg).trans hb
theorem Keeps.cell (h : Keeps S w w') {p : Addr} (hl : p.block < w.heap.size) (hp : ¬ S p.block) : w'.cell? p = w.cell? p := World.cell?_of_block (h.block _ hl hp)
theorem Keeps.own {base size n : Nat} {e : TypeId} {v : Value} {xs : List Value} (h : Keeps S w w') (ho : w.ownsRow base e size v n xs) (hs : ∀ k, v.ownBlock = some k → ¬ S k) : w'.ownsRow base e size v n xs := by
  rcases ho.2 with h0 | ⟨g, cap, cur, rfl, h1, h2, h3⟩
  · exact ⟨ho.1, .inl h0⟩
  · exact ⟨ho.1, .inr ⟨g, cap, cur, rfl, h1, h.blk (t := e) (cs := cur) h2 (hs g rfl), h3⟩⟩
theorem Keeps.reads {B size n : Nat} {A : Option Addr} {xs : List Value} (h : Keeps S w w') (hr : Reads w B size A n xs) (hB : B ≤ w.heap.size) (hs : ∀ ad, A = some ad → ¬ S ad.block) : Reads w' B size A n xs :=
  ⟨hr.1, fun hn => by
    obtain ⟨ad, e, hb, hc⟩ := hr.2 hn
    exact ⟨ad, e, hb, fun j u hu => (h.cell (by rw [block_of_add]; omega) (by rw [block_of_add]; exact hs ad e)).trans (hc j u hu)⟩⟩
theorem Keeps.of_below {B : Nat} (h : Below B w w') (hB : w.heap.size ≤ B) : Keeps S w w' := (Keeps.refl S w).below h hB
theorem Keeps.of_grown {row : Option Nat} (hg : w.grownBy w' row) : Keeps (fun i => row = some i) w w' := (Keeps.refl _ w).grown hg fun g e => .inl e
end


theorem keeps_set (W : World) (g i : Nat) (u : Value) : Keeps (fun k => k = g) W (W.setCell ⟨g, i, none⟩ u) := Keeps.setCell (S := fun k => k = g) (Keeps.refl _ W) (p := ⟨g, i, none⟩) (.inl rfl) u
/-- functions that a call made, their rows in blocks below 'lim' -/
def FsR (W : World) (base lim : Nat) (css : List (List Value)) (fs : List FuncD) : Prop :=
  css.length = fs.length ∧ ∀ (i : Nat) f, fs[i]? = some f → ∃ lv cv, css[i]? = some (fcells f lv cv) ∧ W.ownsRow base 51 1 lv f.locals.length (kindVals f.locals) ∧ W.ownsRow base 49 3 cv f.code.length (f.code.flatMap icells) ∧
    (∀ k, lv.ownBlock = some k → k < lim) ∧ (∀ k, cv.ownBlock = some k → k < lim)
def Turn (T lim : Nat) (k : Nat) : Prop := k = T ∨ lim ≤ k
theorem FsR.keep {W W' : World} {base lim T : Nat} {css : List (List Value)} {fs : List FuncD} {cs : Array Value} (h : FsR W base lim css fs) (hk : Keeps (Turn T lim) W W') (hT : Blk W T 59 cs) : FsR W' base lim css fs := by
  refine ⟨h.1, fun i f hf => ?_⟩
  obtain ⟨lv, cv, h1, h2, h3, h4, h5⟩ := h.2 i f hf
  refine ⟨lv, cv, h1, hk.own h2 fun k e hs => ?_, hk.own h3 fun k e hs => ?_, h4, h5⟩
  · rcases hs with rfl | hs
    · exact own_blk_ne h2 hT (by decide) e
    · have := h4 k e; omega
  · rcases hs with rfl | hs
    · exact own_blk_ne h3 hT (by decide) e
    · have := h5 k e; omega
theorem FsR.more {W : World} {base lim lim' : Nat} {css : List (List Value)} {fs : List FuncD} (h : FsR W base lim css fs) (hl : lim ≤ lim') : FsR W base lim' css fs := by
  refine ⟨h.1, fun i f hf => ?_⟩
  obtain ⟨lv, cv, h1, h2, h3, h4, h5⟩ := h.2 i f hf
  exact ⟨lv, cv, h1, h2, h3, fun k e => by have := h4 k e; omega, fun k e => by have := h5 k e; omega⟩
theorem FsR.snoc {W : World} {base lim : Nat} {css : List (List Value)} {fs : List FuncD} {f : FuncD} {lv cv : Value} (h : FsR W base lim css fs) (h1 : W.ownsRow base 51 1 lv f.locals.length (kindVals f.locals)) (h2 : W.ownsRow base 49 3 cv f.code.length (f.code.flatMap icells)) (h3 : ∀ k, lv.ownBlock = some k → k < lim) (h4 : ∀ k, cv.ownBlock = some k → k < lim) : FsR W base lim (css ++ [fcells f lv cv]) (fs ++ [f]) := by
  refine ⟨by simp [h.1], fun i g hg => ?_⟩
  rcases Nat.lt_or_ge i fs.length with hi | hi
  · rw [List.getElem?_append_left hi] at hg
    obtain ⟨lv', cv', k1, k2⟩ := h.2 i g hg
    exact ⟨lv', cv', by rw [List.getElem?_append_left (by rw [h.1]; exact hi)]; exact k1, k2⟩
  · rw [List.getElem?_append_right hi] at hg
    have h0 : i - fs.length = 0 := by
      have := (List.getElem?_eq_some_iff.1 hg).1
      simp at this; omega
    rw [h0] at hg
    simp only [List.getElem?_cons_zero, Option.some.injEq] at hg
    subst hg
    exact ⟨lv, cv, by rw [List.getElem?_append_right (by rw [h.1]; exact hi), h.1, h0]; rfl, h1, h2, h3, h4⟩
theorem FsR.rows {W : World} {base lim : Nat} {css : List (List Value)} {fs : List FuncD} (h : FsR W base lim css fs) : FsRows W base css fs := by
  refine ⟨h.1, fun i f hf => ?_⟩
  obtain ⟨lv, cv, h1, h2, h3, _⟩ := h.2 i f hf
  exact ⟨lv, cv, h1, h2, h3⟩
/-- the functions read so far -/
structure RdB (w : World) (R T P lim : Nat) (pv : Value) (css : List (List Value)) (fs : List FuncD) (W : World) : Prop where
  res : Blk W R 26 #[.slice none 0 0]
  prog : Blk W P 26 #[pv]
  own : W.ownsRow R 45 5 pv fs.length css.flatten
  rows : FsR W R lim css fs
  bel : Below w.heap.size w W
  low : w.heap.size ≤ R ∧ R < T ∧ T < P ∧ P < lim ∧ lim ≤ W.heap.size
  pvl : ∀ k, pv.ownBlock = some k → k < lim
theorem RdB.keep {w W W' : World} {R T P lim : Nat} {pv : Value} {css : List (List Value)} {fs : List FuncD} {cs : Array Value} (h : RdB w R T P lim pv css fs W) (hk : Keeps (Turn T lim) W W') (hT : Blk W T 59 cs) : RdB w R T P lim pv css fs W' := by
  obtain ⟨l1, l2, l3, l4, l5⟩ := h.low
  have hs := hk.size
  refine ⟨hk.blk h.res ?_, hk.blk h.prog ?_, hk.own h.own fun k e hs => ?_, h.rows.keep hk hT, h.bel.trans (hk.toBelow h.bel.size fun i hi => ?_), ⟨l1, l2, l3, l4, by omega⟩, h.pvl⟩
  · rintro (e | e) <;> omega
  · rintro (e | e) <;> omega
  · rcases hs with rfl | hs
    · exact own_blk_ne h.own hT (by decide) e
    · have := h.pvl k e; omega
  · rcases hi with e | e <;> omega
theorem RdB.more {w W : World} {R T P lim lim' : Nat} {pv : Value} {css : List (List Value)} {fs : List FuncD} (h : RdB w R T P lim pv css fs W) (hl : lim ≤ lim') (hw : lim' ≤ W.heap.size) : RdB w R T P lim' pv css fs W := by
  obtain ⟨l1, l2, l3, l4, l5⟩ := h.low
  exact ⟨h.res, h.prog, h.own, h.rows.more hl, h.bel, ⟨l1, l2, l3, by omega, hw⟩, fun k e => by have := h.pvl k e; omega⟩
/-- and the function being read -/
structure RdA (w : World) (R T P F B : Nat) (A : Option Addr) (n c : Nat) (xs : List Int) (p : Int) (pv : Value) (css : List (List Value)) (fs : List FuncD) (a : Int) (lv : Value) (ks : List Int) (d : Bool) (e : Int) (cv : Value) (is : List InstrD) (W : World) : Prop where
  tin : TIn W T B A n c xs p
  rb : RdB w R T P F pv css fs W
  fb : Blk W F 45 #[.int .i64 a, lv, .bool d, .int .i64 e, cv]
  lo : W.ownsRow F 51 1 lv ks.length (kindVals ks)
  co : W.ownsRow F 49 3 cv is.length (is.flatMap icells)
  bt : B ≤ w.heap.size
section
variable {w W W' : World} {R T P F B : Nat} {A : Option Addr} {n c : Nat} {xs : List Int} {p q : Int} {pv : Value} {css : List (List Value)} {fs : List FuncD} {a : Int} {lv : Value} {ks : List Int} {d : Bool} {e : Int} {cv : Value} {is : List InstrD}
theorem RdA.next (h : RdA w R T P F B A n c xs p pv css fs a lv ks d e cv is W) (ht : TIn W' T B A n c xs q) (hg : W.grownBy W' (some T)) : RdA w R T P F B A n c xs q pv css fs a lv ks d e cv is W' := by
  obtain ⟨l1, l2, l3, l4, l5⟩ := h.rb.low
  have hT := h.tin.cells
  exact ⟨ht, h.rb.keep ((Keeps.refl _ W).grown hg fun g e => .inl (.inl (by injection e with e; exact e.symm))) hT, h.fb.grown hg (by intro e; injection e with e; omega),
    own_kept' h.lo hg (fun g e => by injection e with e; subst e; exact .inr ⟨_, _, hT, by decide⟩), own_kept' h.co hg (fun g e => by injection e with e; subst e; exact .inr ⟨_, _, hT, by decide⟩), h.bt⟩
theorem RdA.keep (h : RdA w R T P F B A n c xs p pv css fs a lv ks d e cv is W) (hk : Keeps (fun k => F < k ∧ lv.ownBlock ≠ some k ∧ cv.ownBlock ≠ some k) W W') : RdA w R T P F B A n c xs p pv css fs a lv ks d e cv is W' := by
  obtain ⟨l1, l2, l3, l4, l5⟩ := h.rb.low
  have hT := h.tin.cells
  have hBt := h.bt
  have hb : Below F W W' := hk.toBelow l5 fun i hi => by omega
  exact ⟨h.tin.below hb (by omega) (by omega), h.rb.keep (hk.mono fun i _ hi => .inr (by omega)) hT, hk.blk h.fb (fun hs => by omega), hk.own h.lo (fun k e hs => hs.2.1 e), hk.own h.co (fun k e hs => hs.2.2 e), h.bt⟩
theorem RdA.alloc (h : RdA w R T P F B A n c xs p pv css fs a lv ks d e cv is W) (o : Obj) : RdA w R T P F B A n c xs p pv css fs a lv ks d e cv is (W.alloc o) := h.keep ((Keeps.refl _ W).alloc o)
theorem RdA.drew (h : RdA w R T P F B A n c xs p pv css fs a lv ks d e cv is W) : RdA w R T P F B A n c xs p pv css fs a lv ks d e cv is W.drew := h.keep ((Keeps.refl _ W).drew)
theorem RdA.drewN (h : RdA w R T P F B A n c xs p pv css fs a lv ks d e cv is W) (m : Nat) : RdA w R T P F B A n c xs p pv css fs a lv ks d e cv is (W.drewN m) := h.keep ((Keeps.refl _ W).drewN m)
theorem RdA.setX (h : RdA w R T P F B A n c xs p pv css fs a lv ks d e cv is W) {X : Nat} (hX : F < X) (h1 : lv.ownBlock ≠ some X) (h2 : cv.ownBlock ≠ some X) (i : Nat) (u : Value) : RdA w R T P F B A n c xs p pv css fs a lv ks d e cv is (W.setCell ⟨X, i, none⟩ u) :=
  h.keep ((Keeps.refl _ W).setCell (.inl ⟨hX, h1, h2⟩) u)
/-- a store into the function's box -/
theorem RdA.setF (h : RdA w R T P F B A n c xs p pv css fs a lv ks d e cv is W) (i : Nat) (u : Value) : TIn (W.setCell ⟨F, i, none⟩ u) T B A n c xs p ∧ RdB w R T P F pv css fs (W.setCell ⟨F, i, none⟩ u) ∧ (W.setCell ⟨F, i, none⟩ u).ownsRow F 51 1 lv ks.length (kindVals ks) ∧ (W.setCell ⟨F, i, none⟩ u).ownsRow F 49 3 cv is.length (is.flatMap icells) := by
  obtain ⟨l1, l2, l3, l4, l5⟩ := h.rb.low
  have hBt := h.bt
  have hk : Keeps (fun k => k = F) W (W.setCell ⟨F, i, none⟩ u) := keeps_set W F i u
  have hb : Below F W (W.setCell ⟨F, i, none⟩ u) := hk.toBelow l5 fun i hi => by omega
  exact ⟨h.tin.below hb (by omega) (by omega), h.rb.keep (hk.mono fun i _ hi => .inr (by omega)) h.tin.cells, hk.own h.lo (fun k e hs => own_blk_ne h.lo h.fb (by decide) (by subst hs; exact e)), hk.own h.co (fun k e hs => own_blk_ne h.co h.fb (by decide) (by subst hs; exact e))⟩
theorem RdA.set0 (h : RdA w R T P F B A n c xs p pv css fs a lv ks d e cv is W) (u : Int) : RdA w R T P F B A n c xs p pv css fs u lv ks d e cv is (W.setCell ⟨F, 0, none⟩ (.int .i64 u)) := by
  obtain ⟨h1, h2, h3, h4⟩ := h.setF 0 (.int .i64 u)
  exact ⟨h1, h2, Blk.set_ h.fb 0 _, h3, h4, h.bt⟩
theorem RdA.set2 (h : RdA w R T P F B A n c xs p pv css fs a lv ks d e cv is W) (u : Bool) : RdA w R T P F B A n c xs p pv css fs a lv ks u e cv is (W.setCell ⟨F, 2, none⟩ (.bool u)) := by
  obtain ⟨h1, h2, h3, h4⟩ := h.setF 2 (.bool u)
  exact ⟨h1, h2, Blk.set_ h.fb 2 _, h3, h4, h.bt⟩
theorem RdA.set3 (h : RdA w R T P F B A n c xs p pv css fs a lv ks d e cv is W) (u : Int) : RdA w R T P F B A n c xs p pv css fs a lv ks d u cv is (W.setCell ⟨F, 3, none⟩ (.int .i64 u)) := by
  obtain ⟨h1, h2, h3, h4⟩ := h.setF 3 (.int .i64 u)
  exact ⟨h1, h2, Blk.set_ h.fb 3 _, h3, h4, h.bt⟩
/-- the locals' row has grown, and its slice is stored -/
theorem RdA.addK (h : RdA w R T P F B A n c xs p pv css fs a lv ks d e cv is W) {v : Value} {x : Int} (hg : W.grownBy W' lv.ownBlock) (ho : W'.ownsRow F 51 1 v (ks.length + 1) (kindVals ks ++ [.int .u8 x])) : RdA w R T P F B A n c xs p pv css fs a v (ks ++ [x]) d e cv is (W'.setCell ⟨F, 1, none⟩ v) := by
  obtain ⟨l1, l2, l3, l4, l5⟩ := h.rb.low
  have hBt := h.bt
  have hk : Keeps (fun k => lv.ownBlock = some k) W W' := Keeps.of_grown hg
  have hge : ∀ k, lv.ownBlock = some k → F ≤ k := fun k e => (h.lo.lt k e).1
  have hne : lv.ownBlock ≠ some F := own_blk_ne h.lo h.fb (by decide)
  have hb : Below F W W' := hk.toBelow l5 hge
  have hm : RdA w R T P F B A n c xs p pv css fs a v (ks ++ [x]) d e cv is (W'.setCell ⟨F, 1, none⟩ v) := by
    have hf : Blk W' F 45 #[.int .i64 a, lv, .bool d, .int .i64 e, cv] := hk.blk h.fb hne
    have hc : W'.ownsRow F 49 3 cv is.length (is.flatMap icells) := hk.own h.co fun k e1 e2 => by
      obtain ⟨cs, hb2⟩ := own_blk h.co e1
      exact own_blk_ne h.lo hb2 (by decide) e2
    have hr := h.rb.keep (hk.mono fun i _ hi => .inr (hge i hi)) h.tin.cells
    have ht := h.tin.below hb (by omega) (by omega)
    have hk2 : Keeps (fun k => k = F) W' (W'.setCell ⟨F, 1, none⟩ v) := keeps_set W' F 1 v
    have hs := hk.size
    have hb2 : Below F W' (W'.setCell ⟨F, 1, none⟩ v) := hk2.toBelow (by omega) fun i hi => by omega
    refine ⟨ht.below hb2 (by omega) (by omega), hr.keep (hk2.mono fun i _ hi => .inr (by omega)) ht.cells, Blk.set_ hf 1 v, ?_, hk2.own hc (fun k e hs => own_blk_ne hc hf (by decide) (by subst hs; exact e)), h.bt⟩
    rw [List.length_append, show kindVals (ks ++ [x]) = kindVals ks ++ [.int .u8 x] by simp [kindVals]]
    exact hk2.own ho (fun k e hs => own_blk_ne ho hf (by decide) (by subst hs; exact e))
  exact hm
/-- the code's row has grown, and its slice is stored -/
theorem RdA.addI (h : RdA w R T P F B A n c xs p pv css fs a lv ks d e cv is W) {v : Value} {x : InstrD} (hg : W.grownBy W' cv.ownBlock) (ho : W'.ownsRow F 49 3 v (is.length + 1) (is.flatMap icells ++ icells x)) : RdA w R T P F B A n c xs p pv css fs a lv ks d e v (is ++ [x]) (W'.setCell ⟨F, 4, none⟩ v) := by
  obtain ⟨l1, l2, l3, l4, l5⟩ := h.rb.low
  have hBt := h.bt
  have hk : Keeps (fun k => cv.ownBlock = some k) W W' := Keeps.of_grown hg
  have hge : ∀ k, cv.ownBlock = some k → F ≤ k := fun k e => (h.co.lt k e).1
  have hne : cv.ownBlock ≠ some F := own_blk_ne h.co h.fb (by decide)
  have hb : Below F W W' := hk.toBelow l5 hge
  have hf : Blk W' F 45 #[.int .i64 a, lv, .bool d, .int .i64 e, cv] := hk.blk h.fb hne
  have hc : W'.ownsRow F 51 1 lv ks.length (kindVals ks) := hk.own h.lo fun k e1 e2 => by
    obtain ⟨cs, hb2⟩ := own_blk h.lo e1
    exact own_blk_ne h.co hb2 (by decide) e2
  have hr := h.rb.keep (hk.mono fun i _ hi => .inr (hge i hi)) h.tin.cells
  have ht := h.tin.below hb (by omega) (by omega)
  have hk2 : Keeps (fun k => k = F) W' (W'.setCell ⟨F, 4, none⟩ v) := keeps_set W' F 4 v
  have hs := hk.size
  have hb2 : Below F W' (W'.setCell ⟨F, 4, none⟩ v) := hk2.toBelow (by omega) fun i hi => by omega
  refine ⟨ht.below hb2 (by omega) (by omega), hr.keep (hk2.mono fun i _ hi => .inr (by omega)) ht.cells, Blk.set_ hf 4 v, hk2.own hc (fun k e hs => own_blk_ne hc hf (by decide) (by subst hs; exact e)), ?_, h.bt⟩
  rw [List.length_append, show (is ++ [x]).flatMap icells = is.flatMap icells ++ icells x by simp]
  exact hk2.own ho (fun k e hs => own_blk_ne ho hf (by decide) (by subst hs; exact e))
/-- a new function's box -/
theorem RdB.box (h : RdB w R T P F pv css fs W) (ht : TIn W T B A n c xs p) (hF : F = W.heap.size) (hB : B ≤ w.heap.size) : RdA w R T P F B A n c xs p pv css fs 0 (.slice none 0 0) [] false 0 (.slice none 0 0) [] (W.alloc (.cells #[.int .i64 0, .slice none 0 0, .bool false, .int .i64 0, .slice none 0 0] 45)) := by
  obtain ⟨l1, l2, l3, l4, l5⟩ := h.low
  have hk : Keeps (Turn T F) W (W.alloc (.cells #[.int .i64 0, .slice none 0 0, .bool false, .int .i64 0, .slice none 0 0] 45)) := (Keeps.refl _ W).alloc _
  refine ⟨ht.kept (World.grownBy_alloc W _ none) (by omega) nofun, h.keep hk ht.cells, ?_, World.ownsRow_nil _ _ _ _, World.ownsRow_nil _ _ _ _, hB⟩
  rw [hF]; exact Blk.new W _ _
/-- the function is read: it joins the others -/
theorem RdA.join (h : RdA w R T P F B A n c xs p pv css fs a lv ks d e cv is W) {v : Value} (hg : W.grownBy W' pv.ownBlock) (ho : W'.ownsRow R 45 5 v (fs.length + 1) (css.flatten ++ fcells ⟨a, ks, d, e, is⟩ lv cv)) :
    TIn (W'.setCell ⟨P, 0, none⟩ v) T B A n c xs p ∧ RdB w R T P (W'.setCell ⟨P, 0, none⟩ v).heap.size v (css ++ [fcells ⟨a, ks, d, e, is⟩ lv cv]) (fs ++ [⟨a, ks, d, e, is⟩]) (W'.setCell ⟨P, 0, none⟩ v) := by
  obtain ⟨l1, l2, l3, l4, l5⟩ := h.rb.low
  have hBt := h.bt
  have hs := hg.size
  have hnT : pv.ownBlock ≠ some T := own_blk_ne h.rb.own h.tin.cells (by decide)
  have hnP : pv.ownBlock ≠ some P := own_blk_ne h.rb.own h.rb.prog (by decide)
  have hnR : pv.ownBlock ≠ some R := own_blk_ne h.rb.own h.rb.res (by decide)
  have ht : TIn W' T B A n c xs p := h.tin.kept hg (by omega) fun g e => ⟨by have := (h.rb.own.lt g e).1; omega, fun e2 => hnT (e2 ▸ e)⟩
  have hk2 : Keeps (fun k => k = P) W' (W'.setCell ⟨P, 0, none⟩ v) := keeps_set W' P 0 v
  have hsz : (W'.setCell ⟨P, 0, none⟩ v).heap.size = W'.heap.size := by simp [World.setCell]
  have hP : Blk W' P 26 #[pv] := h.rb.prog.grown hg (Ne.symm hnP)
  have hrow : ∀ {base size m : Nat} {ty : TypeId} {u : Value} {ys : List Value}, W.ownsRow base ty size u m ys → ty ≠ 45 → ty ≠ 26 → (W'.setCell ⟨P, 0, none⟩ v).ownsRow base ty size u m ys := by
    intro base size m ty u ys hu h1 h2
    have hu' := own_kept' hu hg fun g e => .inr (by obtain ⟨cs, hb⟩ := own_blk h.rb.own e; exact ⟨_, cs, hb, Ne.symm h1⟩)
    exact hk2.own hu' fun k e hs => by subst hs; exact own_blk_ne hu' hP h2 e
  refine ⟨ht.kept (grown_setCell W' ⟨P, 0, none⟩ v) (by omega) fun g e => by injection e with e; subst e; simp only; omega, ?_⟩
  refine ⟨hk2.blk (h.rb.res.grown hg (Ne.symm hnR)) (by intro e; omega), Blk.set_ hP 0 v, ?_, ?_, ?_, ⟨l1, l2, l3, by omega, Nat.le_refl _⟩, ?_⟩
  · rw [List.length_append, List.flatten_append]
    exact hk2.own (by simpa using ho) fun k e hs => by subst hs; exact own_blk_ne ho hP (by decide) e
  · have hl : F ≤ (W'.setCell ⟨P, 0, none⟩ v).heap.size := by omega
    have h0 : FsR (W'.setCell ⟨P, 0, none⟩ v) R (W'.setCell ⟨P, 0, none⟩ v).heap.size css fs := by
      refine ⟨h.rb.rows.1, fun i f hf => ?_⟩
      obtain ⟨lv', cv', h1, h2, h3, h4, h5⟩ := h.rb.rows.2 i f hf
      exact ⟨lv', cv', h1, hrow h2 (by decide) (by decide), hrow h3 (by decide) (by decide), fun k e => by have := h4 k e; omega, fun k e => by have := h5 k e; omega⟩
    exact h0.snoc (own_base (hrow h.lo (by decide) (by decide)) (by omega)) (own_base (hrow h.co (by decide) (by decide)) (by omega)) (fun k e => by have := (h.lo.lt k e).2; omega) (fun k e => by have := (h.co.lt k e).2; omega)
  · exact (h.rb.bel.grown hg h.rb.bel.size fun k e => by have := (h.rb.own.lt k e).1; omega).setCell (p := ⟨P, 0, none⟩) (by simp; omega) v
  · intro k e
    have := (ho.lt k e).2
    omega
end
end Go.Proofs.Ytcaefdfdngecdaa
