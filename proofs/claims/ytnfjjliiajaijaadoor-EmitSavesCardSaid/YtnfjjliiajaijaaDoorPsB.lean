/- What the rows' saves are, plainly: registers the graph writes, each in a word of its own. No condition. -/
import Derived.Test.YtnfjjliiajaijaaDoorPsA
import Derived.Test.YtnfjjliiajaijaaDoorPkAY
set_option linter.unusedVariables false
set_option linter.unusedSimpArgs false
set_option maxRecDepth 100000
set_option maxHeartbeats 10000000
namespace Go.Proofs.YtnfjjliiajaijaaDoor
open Go.RowKit

theorem emitN_row {gs : List GraphD} {i : Nat} {g : GraphD} (h : gs[i]? = some g) : (emitN gs).rows[i]? = some (rowOf (emitN (gs.take i)) g) := by
 suffices hn : ∀ n, i < n → n ≤ gs.length → (emitN (gs.take n)).rows[i]? = some (rowOf (emitN (gs.take i)) g) by
  have h1 := hn gs.length (List.getElem?_eq_some_iff.1 h).1 (Nat.le_refl _)
  rwa [List.take_length] at h1
 intro n
 induction n with
 | zero => intro h0; omega
 | succ n ih =>
  intro h1 h2
  have hl := (emitN_rows (gs.take n)).1
  rw [List.length_take, Nat.min_eq_left (by omega)] at hl
  rw [List.take_add_one, List.getElem?_eq_getElem (show n < gs.length by omega), Option.toList_some, emitN_snoc]
  show ((emitN (gs.take n)).rows ++ [rowOf (emitN (gs.take n)) gs[n]])[i]? = _
  by_cases hi : i < n
  ·rw [List.getElem?_append_left (by omega)]
   exact ih hi (by omega)
  ·obtain rfl : n = i := by omega
   rw [List.getElem?_append_right (by omega), hl, Nat.sub_self]
   rw [List.getElem?_eq_getElem (show n < gs.length by omega)] at h
   injection h with h
   rw [h]; rfl
theorem saveL_get : ∀ (l : List Nat) (o k r : Nat), l[k]? = some r → (saveL l o)[k]? = some ((r : Int), ((8 * (o + k) : Nat) : Int))
 | [], _, _, _, h => by simp at h
 | x :: l, o, 0, r, h => by
  simp only [List.getElem?_cons_zero, Option.some.injEq] at h
  rw [h]; rfl
 | x :: l, o, k + 1, r, h => by
  rw [List.getElem?_cons_succ] at h
  rw [saveL, List.getElem?_cons_succ, saveL_get l (o + 1) k r h, show o + 1 + k = o + (k + 1) by omega]
theorem regsK_nodup (ns : List NodeD) (k : Nat) : (regsK ns k).Nodup := by
 unfold regsK
 rw [List.nodup_iff_pairwise_ne]
 refine List.Pairwise.sublist List.filter_sublist ?_
 rw [List.pairwise_map]
 exact (List.nodup_iff_pairwise_ne.1 List.nodup_range).imp fun h e => h (by omega)
theorem saves_at {g : GraphD} {k : Nat} (hk : k < (savesOf g).length) : ∃ r : Nat, (regsK g.nodes 6)[k]? = some r ∧ (savesOf g)[k]? = some ((r : Int), ((8 * (nSlots g + nCells g + k) : Nat) : Int)) ∧ writtenB g.nodes r = true ∧ 8 * (nSlots g + nCells g + k) < sizeL g := by
 rw [savesOf_len] at hk
 unfold nSaves at hk
 have hr : (regsK g.nodes 6)[k]? = some (regsK g.nodes 6)[k] := List.getElem?_eq_getElem hk
 refine ⟨_, hr, saveL_get _ _ _ _ hr, ?_, ?_⟩
 ·have := List.mem_of_getElem? hr
  unfold regsK at this
  exact (List.mem_filter.1 this).2
 ·unfold sizeL nSaves
  omega
theorem saves_ne {g : GraphD} {j k r s : Nat} (hj : (regsK g.nodes 6)[j]? = some r) (hk : (regsK g.nodes 6)[k]? = some s) (hne : j < k) : r ≠ s := fun e => by
 subst e
 obtain ⟨h1, e1⟩ := List.getElem?_eq_some_iff.1 hj
 obtain ⟨h2, e2⟩ := List.getElem?_eq_some_iff.1 hk
 have := (List.nodup_iff_pairwise_ne.1 (regsK_nodup g.nodes 6))
 rw [List.pairwise_iff_getElem] at this
 exact this j k h1 h2 hne (by rw [e1, e2])
theorem written_line {g : GraphD} (hns : NsOk g.nodes) (he : 0 ≤ g.entry ∧ g.entry < g.nodes.length) {r : Nat} (h : writtenB (lineG g).nodes r = true) : writtenB g.nodes r = true := by
 unfold writtenB at h ⊢
 rw [List.any_eq_true] at h ⊢
 obtain ⟨x, hx, hd⟩ := h
 rcases line_node hns he hx with ⟨n, hn, a, b, rfl⟩ | ⟨a, b, rfl⟩
 ·exact ⟨n, hn, hd⟩
 ·exfalso
  have h1 := of_decide_eq_true hd
  unfold writesL nopD at h1
  simp at h1
theorem emit_ok {gs : List GraphD} (h : emitErr gs = 0) : checkB gs true = true := by
 rcases hc : checkB gs true with _ | _
 ·unfold emitErr at h
  rw [if_pos hc] at h
  cases h
 ·rfl
/-- register r is written among the nodes ahead of k -/
def wroteTo (ns : List NodeD) (r : Int) (k : Nat) : Bool := (ns.take k).any fun x => decide (r ∈ writesL x)
theorem wroteTo_next {ns : List NodeD} {r : Int} {k : Nat} {x : NodeD} (h : ns[k]? = some x) : wroteTo ns r (k + 1) = (wroteTo ns r k || decide (r ∈ writesL x)) := by
 unfold wroteTo
 rw [List.take_add_one, h, Option.toList_some, List.any_append]
 simp
theorem wroteTo_all {ns : List NodeD} {r : Nat} (h : writtenB ns r = true) : wroteTo ns r ns.length = true := by
 unfold wroteTo
 rw [List.take_length]
 exact h
/-- one save of a row -/
theorem save_row {g : GraphD} {l : List Mv} {k : Nat} (hns : NsOk g.nodes) (he : 0 ≤ g.entry ∧ g.entry < g.nodes.length) (hl : l = savesOf (lineG g)) (hk : k < l.length) :
  ∃ q o : Nat, l[k]? = some ((q : Int), (o : Int)) ∧ o % 8 = 0 ∧ o < sizeL (lineG g) ∧ writtenB g.nodes q = true := by
 subst hl
 obtain ⟨r, _, h2, h3, h4⟩ := saves_at hk
 exact ⟨r, _, h2, by omega, h4, written_line hns he h3⟩
theorem save_ne {g : GraphD} {l : List Mv} {j k : Nat} {q o q' o' : Int} (hl : l = savesOf (lineG g)) (hjk : j < k) (hj : l[j]? = some (q, o)) (hk : l[k]? = some (q', o')) : q ≠ q' ∧ o ≠ o' := by
 subst hl
 obtain ⟨r, h1, h2, _⟩ := saves_at (List.getElem?_eq_some_iff.1 hj).1
 obtain ⟨s, h3, h4, _⟩ := saves_at (List.getElem?_eq_some_iff.1 hk).1
 rw [hj] at h2
 rw [hk] at h4
 simp only [Option.some.injEq, Prod.mk.injEq] at h2 h4
 have := saves_ne h1 h3 hjk
 omega
theorem save_cells {w W : World} {B n c : Nat} {SV : Option Addr} {l : List Mv} {k : Nat} {q o : Int} (ho : w.ownsRow B 50 2 (.slice SV n c) n (mvcells l)) (hn : 0 < n) (hb : Below w.heap.size w W) (hk : l[k]? = some (q, o)) :
  ∃ SB, SV = some ⟨SB, 0, none⟩ ∧ SB < w.heap.size ∧ W.cell? ⟨SB, k * 2, none⟩ = some (.int .i64 q) ∧ W.cell? ⟨SB, k * 2 + 1, none⟩ = some (.int .i64 o) := by
 obtain ⟨_, g, rfl, _, ⟨cs, hg⟩, hc⟩ := own_row ho hn
 obtain ⟨h1, h2⟩ := mvcells_get l k _ hk
 have e1 := hc _ _ h1
 have e2 := hc _ _ h2
 rw [addr_zero] at e1 e2
 exact ⟨g, rfl, hg.lt, (hb.cell (p := ⟨g, k * 2, none⟩) hg.lt).trans e1, (hb.cell (p := ⟨g, k * 2 + 1, none⟩) hg.lt).trans e2⟩
/-- a function's row in memory -/
theorem row_at {w : World} {B FB fc j : Nat} {T : TopS} {fv sv : Value} {lvs : List Value} {ps : List (Value × Value)} {r : RowD} (hI : Items w B (imgIts T fv sv lvs ps)) (hl2 : ps.length = T.rows.length) (hfv : fv = .slice (some ⟨FB, 0, none⟩) T.rows.length fc) (hj : T.rows[j]? = some r) :
  ∃ pv sv', w.ownsRow B 87 1 pv r.params.length (kindsV r.params) ∧ w.ownsRow B 50 2 sv' r.saves.length (mvcells r.saves) ∧ ∀ (k : Nat) v, (rowCells r pv sv')[k]? = some v → w.cell? ⟨FB, j * 6 + k, none⟩ = some v := by
 have hjl := (List.getElem?_eq_some_iff.1 hj).1
 obtain ⟨p, hp⟩ : ∃ p, ps[j]? = some p := ⟨_, List.getElem?_eq_getElem (by omega)⟩
 have hz : (T.rows.zip ps)[j]? = some (r, p) := by rw [List.getElem?_zip_eq_some]; exact ⟨hj, hp⟩
 have hm := List.mem_of_getElem? hz
 have hR := hI.each (.row fv 48 6 T.rows.length (rowsCells T.rows ps)) (by unfold imgIts; simp)
 have hR : w.ownsRow B 48 6 fv T.rows.length (rowsCells T.rows ps) := hR
 refine ⟨p.1, p.2, hI.each (.row p.1 87 1 r.params.length (kindsV r.params)) ?_, hI.each (.row p.2 50 2 r.saves.length (mvcells r.saves)) ?_, fun k v hv => ?_⟩
 ·unfold imgIts rowIts
  refine List.mem_append_right _ (List.mem_append_right _ (List.mem_append_right _ (List.mem_flatMap.2 ⟨(r, p), hm, ?_⟩)))
  exact List.mem_cons_self
 ·unfold imgIts rowIts
  refine List.mem_append_right _ (List.mem_append_right _ (List.mem_append_right _ (List.mem_flatMap.2 ⟨(r, p), hm, ?_⟩)))
  exact List.mem_cons_of_mem _ List.mem_cons_self
 ·subst hfv
  obtain ⟨_, g, e, _, _, hc⟩ := own_row hR (by omega)
  injection e with e
  injection e with e
  subst e
  have hk : k < 6 := by
   have := (List.getElem?_eq_some_iff.1 hv).1
   simpa [rowCells] using this
  have h1 := flatMap_get (f := fun p : RowD × (Value × Value) => rowCells p.1 p.2.1 p.2.2) (c := 6) (fun _ => rfl) (T.rows.zip ps) j (r, p) hz k hk
  have h2 := hc (j * 6 + k) v (by unfold rowsCells; rw [h1]; exact hv)
  rw [addr_zero] at h2
  exact h2
end Go.Proofs.YtnfjjliiajaijaaDoor
