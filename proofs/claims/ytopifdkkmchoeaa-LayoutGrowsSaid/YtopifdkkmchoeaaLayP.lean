/- Where in a frame all things are, as plain data. No condition. -/
import Derived.Test.YtopifdkkmchoeaaIrReads
import Derived.Test.YtopifdkkmchoeaaMvDel
set_option linter.unusedVariables false
set_option linter.unusedSimpArgs false
namespace Go.Proofs.Ytopifdkkmchoeaa
open Go.RowKit

def wordsL (o n : Nat) : List Int := (List.range n).map fun i : Nat => ((8 * (o + i) : Nat) : Int)
theorem wordsL_snoc (o n : Nat) : wordsL o (n + 1) = wordsL o n ++ [((8 * (o + n) : Nat) : Int)] := by simp [wordsL, List.range_succ]
theorem wordsL_len (o n : Nat) : (wordsL o n).length = n := by simp [wordsL]
/-- is a register written by a graph's nodes? -/
def writtenB (ns : List NodeD) (r : Nat) : Bool := ns.any fun x => decide ((r : Int) ∈ writesL x)
def regsK (ns : List NodeD) (k : Nat) : List Nat := ((List.range k).map (6 + ·)).filter (writtenB ns)
theorem regsK_snoc (ns : List NodeD) (k : Nat) : regsK ns (k + 1) = regsK ns k ++ (if writtenB ns (6 + k) then [6 + k] else []) := by
  unfold regsK
  rw [List.range_succ, List.map_append, List.filter_append]
  congr 1
  simp [List.filter_cons]
theorem regsK_len (ns : List NodeD) (k : Nat) : (regsK ns k).length ≤ k := by
  unfold regsK
  refine Nat.le_trans (List.length_filter_le _ _) ?_
  simp
def saveL : List Nat → Nat → List Mv
  | [], _ => []
  | r :: l, o => ((r : Int), ((8 * o : Nat) : Int)) :: saveL l (o + 1)
theorem saveL_snoc : ∀ (l : List Nat) (o r : Nat), saveL (l ++ [r]) o = saveL l o ++ [((r : Int), ((8 * (o + l.length) : Nat) : Int))]
  | [], o, r => rfl
  | x :: l, o, r => by
    rw [List.cons_append, saveL, saveL, saveL_snoc l (o + 1) r, List.cons_append, List.length_cons, show o + 1 + l.length = o + (l.length + 1) by omega]
theorem saveL_len : ∀ (l : List Nat) (o : Nat), (saveL l o).length = l.length
  | [], _ => rfl
  | _ :: l, o => by rw [saveL, List.length_cons, saveL_len l (o + 1), List.length_cons]
theorem once_pos (l : List Int) : ∀ p ∈ onceL l, 0 ≤ p := by
  have h : ∀ (l o : List Int), (∀ p ∈ o, 0 ≤ p) → ∀ p ∈ l.foldl addStep o, 0 ≤ p := by
    intro l
    induction l with
    | nil => intro o h; exact h
    | cons x l ih =>
      intro o h
      refine ih _ fun p hp => ?_
      unfold addStep at hp
      split at hp
      · rename_i h2
        rcases List.mem_append.1 hp with h3 | h3
        · exact h p h3
        · simp at h3; rw [h3]; exact h2.1
      · exact h p hp
  exact h l [] (by simp)
theorem writes_pos (x : NodeD) : ∀ p ∈ writesL x, 0 ≤ p := by
  unfold writesL
  split
  · exact once_pos _
  · split
    · exact once_pos _
    · simp
theorem writes_len (x : NodeD) : (writesL x).length ≤ 2 := by
  unfold writesL
  split
  · have := once_len [x.d]; simp at this; omega
  · split
    · have := once_len [x.d, x.e]; simp at this; omega
    · simp
def nSlots (g : GraphD) : Nat := g.kinds.length - 16
def nCells (g : GraphD) : Nat := g.cells.toNat
def nSaves (g : GraphD) : Nat := (regsK g.nodes 6).length
def nRes (g : GraphD) : Nat := if g.result then 1 else 0
def sizeL (g : GraphD) : Nat := 8 * (nSlots g + nCells g + nSaves g + nRes g)
def resL (g : GraphD) : Int := if g.result then ((8 * (nSlots g + nCells g + nSaves g) : Nat) : Int) else -1
/-- a layout as it is handed back -/
def LayOwn (w : World) (base : Nat) (v : Value) (g : GraphD) : Prop := ∃ sv cv vv, v = .agg #[.int .i64 (sizeL g), sv, cv, vv, .int .i64 (resL g)] ∧
  w.ownsRow base 3 1 sv (nSlots g) ((wordsL 0 (nSlots g)).map (Value.int .i64)) ∧ w.ownsRow base 3 1 cv (nCells g) ((wordsL (nSlots g) (nCells g)).map (Value.int .i64)) ∧ w.ownsRow base 65 2 vv (nSaves g) (mcells (saveL (regsK g.nodes 6) (nSlots g + nCells g)))
def arrB (p : Nat → Bool) : Array Value := ((List.range 16).map fun r => Value.bool (p r)).toArray
theorem arrB_get (p : Nat → Bool) (r : Nat) (h : r < 16) : (arrB p)[r]? = some (.bool (p r)) := by
  unfold arrB
  rw [List.getElem?_toArray, List.getElem?_map, List.getElem?_range h]; rfl
theorem arrB_set (p : Nat → Bool) (a : Nat) (b : Bool) : (arrB p).setIfInBounds a (.bool b) = arrB fun r => if r = a then b else p r := by
  unfold arrB
  apply Array.ext_getElem?
  intro i
  rw [Array.getElem?_setIfInBounds]
  simp only [List.getElem?_toArray, List.getElem?_map, List.size_toArray, List.length_map, List.length_range]
  by_cases hi : i < 16
  · rw [List.getElem?_range hi]
    by_cases e : a = i
    · subst e; simp [hi]
    · simp [e, show ¬ i = a from fun h => e h.symm]
  · have h2 : (List.range 16)[i]? = none := List.getElem?_eq_none (by simp; omega)
    rw [h2]
    split
    · rw [if_neg (by omega)]; rfl
    · rfl
theorem arrB_false : arrB (fun _ => false) = #[.bool false, .bool false, .bool false, .bool false, .bool false, .bool false, .bool false, .bool false, .bool false, .bool false, .bool false, .bool false, .bool false, .bool false, .bool false, .bool false] := rfl
theorem written_snoc (ns : List NodeD) (q : Nat) (x : NodeD) (h : ns[q]? = some x) (r : Nat) : writtenB (ns.take (q + 1)) r = (writtenB (ns.take q) r || decide ((r : Int) ∈ writesL x)) := by
  unfold writtenB
  rw [List.take_add_one, h]
  simp
/-- some of a node's writes marked -/
def markB (p : Nat → Bool) (l : List Int) (r : Nat) : Bool := p r || decide ((r : Int) ∈ l)
theorem markB_nil (p : Nat → Bool) : markB p [] = p := by funext r; simp [markB]
theorem markB_snoc (p : Nat → Bool) (l : List Int) (a : Nat) : (fun r => if r = a then true else markB p l r) = markB p (l ++ [(a : Int)]) := by
  funext r
  unfold markB
  by_cases e : r = a
  · subst e; simp
  · simp [e, show ¬ (r : Int) = a by omega]
theorem arrB_congr {p q : Nat → Bool} (h : ∀ r, r < 16 → p r = q r) : arrB p = arrB q := by
  unfold arrB
  congr 1
  exact List.map_congr_left fun r hr => by rw [h r (List.mem_range.1 hr)]
theorem bool_apart {w : World} {g : Nat} {t : TypeId} {p : Nat → Bool} {a : Addr} {k : IntKind} {z : Int} (h : Blk w g t (arrB p)) (hc : w.cell? a = some (.int k z)) : a.block ≠ g := by
  intro e
  unfold Blk at h
  unfold World.cell? at hc
  rw [e, h] at hc
  simp only at hc
  split at hc
  · cases hc
  · by_cases hi : a.off < 16
    · rw [arrB_get p a.off hi] at hc
      injection hc with hc
      cases hc
    · rw [Array.getElem?_eq_none (by simp [arrB]; omega)] at hc
      cases hc
theorem mark_written (ns : List NodeD) (q : Nat) (x : NodeD) (h : ns[q]? = some x) : markB (writtenB (ns.take q)) (writesL x) = writtenB (ns.take (q + 1)) := by
  funext r
  rw [written_snoc ns q x h]; rfl
def five (w : World) (g : Nat) (a b c d e : Value) : World := ((((w.setCell ⟨g, 0, none⟩ a).setCell ⟨g, 1, none⟩ b).setCell ⟨g, 2, none⟩ c).setCell ⟨g, 3, none⟩ d).setCell ⟨g, 4, none⟩ e
theorem five_blk {w : World} {H : Nat} {t : TypeId} {z0 z1 z2 z3 z4 : Value} (h : Blk w H t #[z0, z1, z2, z3, z4]) (a b c d e : Value) : Blk (five w H a b c d e) H t #[a, b, c, d, e] :=
  ((((h.set_ 0 a).set_ 1 b).set_ 2 c).set_ 3 d).set_ 4 e
theorem five_own {w : World} {g base size n : Nat} {ty t : TypeId} {cs : Array Value} {v : Value} {xs : List Value} (h : w.ownsRow base ty size v n xs) (hg : Blk w g t cs) (ht : ty ≠ t) (a b c d e : Value) : (five w g a b c d e).ownsRow base ty size v n xs := by
  have hne := own_blk_ne h hg ht
  exact ownsRow_setCell_other (ownsRow_setCell_other (ownsRow_setCell_other (ownsRow_setCell_other (ownsRow_setCell_other h (a := ⟨g, 0, none⟩) hne a) (a := ⟨g, 1, none⟩) hne b) (a := ⟨g, 2, none⟩) hne c) (a := ⟨g, 3, none⟩) hne d) (a := ⟨g, 4, none⟩) hne e
theorem five_below {w w0 : World} {B g : Nat} (h : Below B w0 w) (hg : B ≤ g) (a b c d e : Value) : Below B w0 (five w g a b c d e) :=
  ((((h.setCell (p := ⟨g, 0, none⟩) hg a).setCell (p := ⟨g, 1, none⟩) hg b).setCell (p := ⟨g, 2, none⟩) hg c).setCell (p := ⟨g, 3, none⟩) hg d).setCell (p := ⟨g, 4, none⟩) hg e
theorem results_row_tmpL {fn : Func} {p u : Tmp} {ty : TypeId} {P : Program} (h : fn.results = #[.cell p ty, .tmp u]) (tmps : Array Value) (w : World) (g : Nat) (t : TypeId) (cs : Array Value) (fr : Nat × Nat) (d : Array Field)
    (hp : tmps.getD p undef = .pointer (some ⟨g, 0, none⟩)) (hg : w.heap[g]? = some (.cells cs t fr))
    (hu : P.underlying ty = some (.struct d)) (hi : (P.info? ty).map (·.size) = some cs.size) :
    (results fn tmps).run P w = .ok (.tuple #[.agg cs, tmps.getD u undef]) w := results_row_tmp h tmps w g t cs fr d hp hg hu hi
theorem Blk.set_fst {w : World} {g : Nat} {t : TypeId} {s a b c d : Value} (h : Blk w g t #[s, a, b, c, d]) (u : Value) : Blk (w.setCell ⟨g, 0, none⟩ u) g t #[u, a, b, c, d] := by
  have h2 := h.set_ 0 u
  simpa using h2
theorem Blk.set5_1 {w : World} {g : Nat} {t : TypeId} {s a b c d : Value} (h : Blk w g t #[s, a, b, c, d]) (u : Value) : Blk (w.setCell ⟨g, 1, none⟩ u) g t #[s, u, b, c, d] := by
  have h2 := h.set_ 1 u
  simpa using h2
theorem Blk.set5_2 {w : World} {g : Nat} {t : TypeId} {s a b c d : Value} (h : Blk w g t #[s, a, b, c, d]) (u : Value) : Blk (w.setCell ⟨g, 2, none⟩ u) g t #[s, a, u, c, d] := by
  have h2 := h.set_ 2 u
  simpa using h2
theorem Blk.set5_3 {w : World} {g : Nat} {t : TypeId} {s a b c d : Value} (h : Blk w g t #[s, a, b, c, d]) (u : Value) : Blk (w.setCell ⟨g, 3, none⟩ u) g t #[s, a, b, u, d] := by
  have h2 := h.set_ 3 u
  simpa using h2
theorem Blk.set5_4 {w : World} {g : Nat} {t : TypeId} {s a b c d : Value} (h : Blk w g t #[s, a, b, c, d]) (u : Value) : Blk (w.setCell ⟨g, 4, none⟩ u) g t #[s, a, b, c, u] := by
  have h2 := h.set_ 4 u
  simpa using h2
theorem Below.drew' {B : Nat} {a w : World} (h : Below B a w) : Below B a w.drew := ⟨h.os, h.tape, h.output, h.size, h.block⟩
set_option maxRecDepth 100000 in
set_option maxHeartbeats 1000000 in
theorem word_any (w : World) (L : Nat) (s : Int) (a b c d : Value) (hL : Blk w L 36 #[.int .i64 s, a, b, c, d]) (hs0 : 0 ≤ s) (hs1 : s < 1000000) :
    Calls Try.prog 23 #[.pointer (some ⟨L, 0, none⟩)] w fun e w' => e = .returned (.int .i64 s) ∧ w' = w.setCell ⟨L, 0, none⟩ (.int .i64 (s + 8)) := by
  have h2 := hL.set_fst (.int .i64 (s + 8))
  have kl0 := Blk.cell hL 0
  simp only [List.getElem?_toArray, List.getElem?_cons_zero, List.getElem?_cons_succ] at kl0
  have fl0 := Blk.frozen hL 0
  have k2 := h2.cell 0
  simp only [List.getElem?_toArray, List.getElem?_cons_zero] at k2
  have HL := Lib.hid hL
  have H2 := Lib.hid h2
  clear h2 hL
  go_enter Try.func23, Try.ntmps23
  go_wp2_with fail
  go_ret
  exact ⟨rfl, rfl⟩
end Go.Proofs.Ytopifdkkmchoeaa
