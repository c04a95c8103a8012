/- Walk of moves.Line. Conditions: the moves lie in memory, and are not too many. -/
import Derived.Test.YtopifdkkmchoeaaMvLP
import Derived.Test.YtopifdkkmchoeaaMvCheck
set_option linter.unusedVariables false
set_option linter.unusedSimpArgs false
namespace Go.Proofs.Ytopifdkkmchoeaa
open Go.RowKit

theorem own_set_at {w : World} {M size n g j c : Nat} {e : TypeId} {u : Value} {xs : List Value} (h : w.ownsRow M e size (.slice (some ⟨g, 0, none⟩) n c) n xs) (hj : j < n * size) : (w.setCell ⟨g, j, none⟩ u).ownsRow M e size (.slice (some ⟨g, 0, none⟩) n c) n (xs.set j u) := by
  rcases h.2 with ⟨h0, _⟩ | ⟨g', cap, cur, hv, hb, hh, h1, h2, h3, h4⟩
  · cases h0
  · injection hv with hv1 _ hv3
    injection hv1 with hv1
    injection hv1 with hv1
    subst hv1 hv3
    have hset : (w.setCell ⟨g, j, none⟩ u).heap[g]? = some (.cells (cur.setIfInBounds j u) e (0, 0)) := Blk.set_ (show Blk w g e cur from hh) j u
    refine ⟨by rw [List.length_set]; exact h.1, .inr ⟨g, c, _, rfl, hb, hset, h1, h2, by simpa using h3, ?_⟩⟩
    rw [Array.toList_setIfInBounds, ← h4, List.take_set]
theorem ret_line {A : Option Addr} {n m c : Nat} (h : n = m) : Ending.returned (.tuple #[.slice A n c, .int .i64 0]) = .returned (.tuple #[.slice A m c, .int .i64 0]) := by rw [h]
theorem apart_app {g : Nat} {OA OA' : Option Addr} {n c n' c' H : Nat} (h : ∀ a b, some (⟨g, 0, none⟩ : Addr) = some a → OA = some b → a.block ≠ b.block) (hat : (Value.slice OA' n' c').ownBlock = (Value.slice OA n c).ownBlock ∨ (Value.slice OA' n' c').ownBlock = some H) (hg : g < H) : ∀ a b, some (⟨g, 0, none⟩ : Addr) = some a → OA' = some b → a.block ≠ b.block := by
  intro a b ha hb
  injection ha with ha
  subst ha hb
  rcases hat with h1 | h1
  · cases OA with
    | none => cases h1
    | some b' => injection h1 with h1; rw [h1]; exact h _ _ rfl rfl
  · injection h1 with h1; rw [h1]; show g ≠ H; omega
theorem apart_ne {g : Nat} {OA : Option Addr} {n c : Nat} (h : ∀ a b, some (⟨g, 0, none⟩ : Addr) = some a → OA = some b → a.block ≠ b.block) : some g ≠ (Value.slice OA n c).ownBlock := by
  intro e
  cases OA with
  | none => cases e
  | some b => injection e with e; exact h _ _ rfl rfl e
def lenV : Value → Nat
  | .slice _ n _ => n
  | _ => 0
def LinePost (ms : List Mv) (s : Int) (w : World) (e : Ending) (w' : World) : Prop :=
  Below w.heap.size w w' ∧ ∃ V x, e = .returned (.tuple #[.slice V (lineAll ms s).length x, .int .i64 0]) ∧ w'.ownsRow w.heap.size 26 2 (.slice V (lineAll ms s).length x) (lineAll ms s).length (mcells (lineAll ms s))
set_option maxRecDepth 100000 in
set_option maxHeartbeats 1000000 in
theorem line_bad (A : Option Addr) (n c : Nat) (ms : List Mv) (s : Int) (w : World) (B : Nat) (hr : Reads w B 2 A n (mcells ms)) (hl : ms.length = n) (hn : n ≤ c) (hc : n ≤ 140737488351232) (hB : B ≤ w.heap.size) (hi : ∀ m ∈ ms, I64 m.1 ∧ I64 m.2) (hok : ¬ okM ms s) :
    Calls Try.prog 7 #[.slice A n c, .int .i64 s] w fun e w' => e = .returned (.tuple #[.slice none 0 0, .int .i64 2]) ∧ Below w.heap.size w w' := by
  have hck := check_any A n c ms s w B hr hl hn hc hB hi
  rw [decide_eq_false hok] at hck
  have Hr := Lib.hid hr
  have Hl := Lib.hid hl
  have Hi := Lib.hid hi
  have HB := Lib.hid hB
  have Hok := Lib.hid hok
  have Hck := Lib.hid hck
  clear hck hok hB hi hl hr
  go_enter Try.func7, Try.ntmps7
  go_wp2_with fail
  refine Hck.out.mono ?_
  rintro e w2 ⟨rfl, hb2⟩
  have Hb2 := Lib.hid hb2
  clear hb2
  go_wp2_with fail
  go_ret2
  exact ⟨rfl, Hb2.out⟩
set_option maxRecDepth 100000 in
set_option maxHeartbeats 4000000 in
theorem line_any (A : Option Addr) (n c : Nat) (ms : List Mv) (s : Int) (w : World) (B : Nat) (hr : Reads w B 2 A n (mcells ms)) (hl : ms.length = n) (hn : n ≤ c) (hcm : c ≤ maxLen) (hc : n * 48 ≤ 140737488351232) (hB : B ≤ w.heap.size) (hi : ∀ m ∈ ms, I64 m.1 ∧ I64 m.2) (hok : okM ms s) :
    Calls Try.prog 7 #[.slice A n c, .int .i64 s] w fun e w' => LinePost ms s w e w' := by
  obtain ⟨i0, hi0, hz0, hz1, hz2⟩ := info_parts infoMv
  have hck := check_any A n c ms s w B hr hl hn (by omega) hB hi
  rw [decide_eq_true hok] at hck
  have hll := lineAll_len ms s
  rw [hl] at hll
  obtain ⟨all, hall⟩ : ∃ all, all = lineAll ms s := ⟨_, rfl⟩
  have hst := LeftM.start hok
  have hkl := keptM_len ms
  rw [hl] at hkl
  rw [← hall] at hst hll
  have hpost : ∀ e w', LinePost ms s w e w' = (Below w.heap.size w w' ∧ ∃ V x, e = .returned (.tuple #[.slice V all.length x, .int .i64 0]) ∧ w'.ownsRow w.heap.size 26 2 (.slice V all.length x) all.length (mcells all)) := fun e w' => by rw [hall]; rfl
  obtain ⟨N, hN⟩ : ∃ N, N = all.length := ⟨_, rfl⟩
  rw [← hN] at hll
  have Hr := Lib.hid hr
  have Hl := Lib.hid hl
  have Hi := Lib.hid hi
  have HB := Lib.hid hB
  have Hok := Lib.hid hok
  have Hck := Lib.hid hck
  have Hst := Lib.hid hst
  have Hpost := Lib.hid hpost
  have Hall := Lib.hid hall
  have HN := Lib.hid hN
  clear hN hall hpost hst hck hok hB hi hl hr
  go_enter Try.func7, Try.ntmps7
  go_wp2_with fail
  refine Hck.out.mono ?_
  rintro e w2 ⟨rfl, hb2⟩
  have hr2 := Hr.out.below (hb2.mono HB.out)
  have hz2' := hb2.size
  have Hb2 := Lib.hid hb2
  have Hr2 := Lib.hid hr2
  clear hr2 hb2
  go_wp2_with fail
  refine (clone_mv A n c (mcells ms) w2 B Hr2.out (mcells_one _) hn hcm (by have := HB.out; omega) (by omega)).mono ?_
  rintro e w3 ⟨hb3, V, x, rfl, hO3⟩
  have hb3' := Hb2.out.trans (hb3.mono Hb2.out.size)
  have hz3 := hb3.size
  have Hb3 := Lib.hid hb3
  have HO3 := Lib.hid hO3
  have Hb3' := Lib.hid hb3'
  clear hb3' hO3 hb3
  go_wp2_with fail
  refine (deletefunc_any w3 w2.heap.size n x V ms HO3.out hz3 (by omega)).mono ?_
  rintro e w4 ⟨n', rfl, hO4, hb4⟩
  have hb4' := Hb3'.out.trans (hb4.mono Hb2.out.size)
  have hn4 : (keptM ms).length = n' := by have := hO4.1; rw [mcells_len] at this; omega
  obtain ⟨_, _, e4, hn1, hn2, _⟩ := own_any hO4
  injection e4 with e4 _ e6
  subst e4 e6
  have hal := (Below.refl w4.heap.size w4).alloc (Nat.le_refl _) (.cells #[.slice V n' x] 24)
  have hL := Blk.new w4 24 #[.slice V n' x]
  have hO5 := hO4.alloc (.cells #[.slice V n' x] 24)
  have hb5 := hb4'.trans (hal.mono hb4'.size)
  obtain ⟨W5, hW5⟩ : ∃ W5, W5 = w4.alloc (.cells #[.slice V n' x] 24) := ⟨_, rfl⟩
  obtain ⟨L, hLL⟩ : ∃ L, L = w4.heap.size := ⟨_, rfl⟩
  rw [← hW5] at hal hL hO5 hb5
  rw [← hLL] at hL
  have hO5b := own_base hO5 hz2'
  unfold maxLen at hn2
  rw [← Hl.out] at hkl
  have hnn : n' ≤ n := by have := Hl.out; omega
  have HO4 := Lib.hid hO4
  have Hb4' := Lib.hid hb4'
  have Hal := Lib.hid hal
  have HL := Lib.hid hL
  have HO5 := Lib.hid hO5
  have Hb5 := Lib.hid hb5
  have HW5 := Lib.hid hW5
  have HLL := Lib.hid hLL
  have HO5b := Lib.hid hO5b
  have Hn4 := Lib.hid hn4
  have Hkl := Lib.hid hkl
  clear hkl hn4 hO5b hLL hW5 hb5 hO5 hL hal hb4' hO4
  clear hb4
  go_upto_region 4 with fail
  rw [← HW5.out, ← HLL.out]
  have hLw : w.heap.size ≤ L := by rw [HLL.out]; exact Hb4'.out.size
  go_wp2_with fail
  go_loopw [7] (fun ov wr => ∃ (out left : List Mv) (OA : Option Addr) (oc nl : Nat), ov = .slice OA out.length oc ∧ nl ≤ n ∧ Blk wr L 24 #[.slice V nl x] ∧ wr.ownsRow w.heap.size 26 2 (.slice V nl x) nl (mcells left) ∧ wr.ownsRow w.heap.size 26 2 (.slice OA out.length oc) out.length (mcells out) ∧ Hid (∀ a b, V = some a → OA = some b → a.block ≠ b.block) ∧ Below w.heap.size w wr ∧ Hid (LeftM all out left s)) (fun ov _ => N - lenV ov)
  case atStart => exact ⟨[], keptM ms, none, 0, n', rfl, by omega, HL.out, HO5b.out, World.ownsRow_nil _ _ _ _, nofun, Hb5.out, Hst.out⟩
  case round =>
    obtain ⟨out, left, OA, oc, nl, rfl, hnl, hLq, hOl, hOo, hap, hbq, hLM⟩ := hrel
    have hll2 : left.length = nl := by have := hOl.1; rw [mcells_len] at this; omega
    have hsz := hbq.size
    obtain ⟨_, _, e4, hq1, hq2, hrd⟩ := own_any hOl
    injection e4 with e4 _ e6
    subst e4 e6
    rcases left with _ | ⟨m, r⟩
    · obtain rfl : nl = 0 := by simpa using hll2.symm
      have hda := hLM.out.done
      have kl0 := Blk.cell hLq 0
      simp only [List.getElem?_toArray, List.getElem?_cons_zero, List.getElem?_cons_succ] at kl0
      have hfin : wr.ownsRow w.heap.size 26 2 (.slice OA all.length oc) all.length (mcells all) := by rw [← hda]; exact hOo
      have hfo : out.length = all.length := by rw [hda]
      have HLq := Lib.hid hLq
      have HOl := Lib.hid hOl
      have HOo := Lib.hid hOo
      have Hap := Lib.hid hap
      have Hbq := Lib.hid hbq
      have HLM := Lib.hid hLM
      have Hda := Lib.hid hda
      have Hfin := Lib.hid hfin
      have Hfo := Lib.hid hfo
      have Hll2 := Lib.hid hll2
      have Hrd := Lib.hid hrd
      clear hrd hll2 hfo hfin hda hLM hbq hap hOo hOl hLq
      go_wp2_with fail
      go_ret2
      rw [Hpost.out]
      exact ⟨Hbq.out, OA, oc, ret_line Hfo.out, Hfin.out⟩
    · obtain ⟨hnl0, g, hV, hgw, ⟨gcs, hgB⟩, hcel⟩ := own_row hOl (by simp at hll2; omega)
      clear hnl0
      subst hV
      have hix := index_any (some ⟨g, 0, none⟩) nl x (m :: r) wr wr.heap.size hrd hll2 hq1 (by omega) (Nat.le_refl _) 18 #[.pointer (some ⟨L, 0, none⟩)] (freeM (m :: r)) eg_free (fun W y hb => by
        simpa using free_any W y L (some ⟨g, 0, none⟩) nl x (m :: r) (hLq.below hb hLq.lt) ((hrd.below hb).more hb.size) hll2 hq1 (by omega))
      unfold idxM at hix
      have hLl := hLq.lt
      have hLg : L ≠ g := Blk.ne_ hLq hgB (by decide)
      have kl0 := Blk.cell hLq 0
      simp only [List.getElem?_toArray, List.getElem?_cons_zero, List.getElem?_cons_succ] at kl0
      rcases hf : (m :: r).findIdx? (freeM (m :: r)) with _ | i
      · rw [hf] at hix
        simp only at hix
        obtain ⟨hLM', hlt⟩ := hLM.out.ring hf
        rw [← HN.out] at hlt
        obtain ⟨q1, q2⟩ := mcells_get _ 0 m (show (m :: r)[0]? = some m from rfl)
        have hnlp : 0 < nl := by rw [← hll2]; simp
        obtain ⟨a, b⟩ := m
        have HLq := Lib.hid hLq
        have HOl := Lib.hid hOl
        have HOo := Lib.hid hOo
        have Hap := Lib.hid hap
        have Hbq := Lib.hid hbq
        have HLM := Lib.hid hLM
        have Hll2 := Lib.hid hll2
        have Hrd := Lib.hid hrd
        have Hix := Lib.hid hix
        have Hf := Lib.hid hf
        have HLM' := Lib.hid hLM'
        have HgB := Lib.hid hgB
        have Hcel := Lib.hid hcel
        have Q1 := Lib.hid q1
        have Q2 := Lib.hid q2
        clear q2 q1 hcel hgB hLM' hf hix hrd hll2 hLM hbq hap hOo hOl hLq
        go_wp2_with fail
        refine Hix.out.mono ?_
        rintro e w6 ⟨rfl, hb6⟩
        have hL6 := HLq.out.below hb6 HLq.out.lt
        have hl6 := own_kept' HOl.out (only_of_below hb6 none) nofun
        have ho6 := own_kept' HOo.out (only_of_below hb6 none) nofun
        have hbw6 := Hbq.out.trans (hb6.mono hsz)
        have hz6 := hbw6.size
        have c0 := hl6.cells (g := g) rfl _ _ Q1.out
        rw [addr_zero, Nat.zero_mul] at c0
        clear kl0
        have kl0 := Blk.cell hL6 0
        simp only [List.getElem?_toArray, List.getElem?_cons_zero, List.getElem?_cons_succ] at kl0
        have ho6a := ho6.alloc (.cells #[.int .i64 s, .int .i64 a] 26)
        have hNew : Reads (w6.alloc (.cells #[.int .i64 s, .int .i64 a] 26)) (w6.heap.size + 1) 2 (some ⟨w6.heap.size, 0, none⟩) 1 (mcells [(s, a)]) := Reads.newS _ rfl _ _ _ _ _ rfl rfl
        have HL6 := Lib.hid hL6
        have Hl6 := Lib.hid hl6
        have Ho6 := Lib.hid ho6
        have Hbw6 := Lib.hid hbw6
        have Ho6a := Lib.hid ho6a
        have HNew := Lib.hid hNew
        clear hNew ho6a hbw6 ho6 hl6 hL6
        go_upto_region 12 with (first
          | (at_builtin
             refine wpList_append_any _ rfl (.tmp 42) (.tmp 46) _ rfl w.heap.size 26 i0 _ 2 16 Try.underlying24 hi0 hz0 hz1 hz2 rfl (by omega) (.slice OA out.length oc) out.length (mcells out) rfl Ho6a.out (w6.heap.size + 1) (some ⟨w6.heap.size, 0, none⟩) 1 1 (mcells [(s, a)]) rfl HNew.out ?c1 ?c2 ?c3 ?c4 ?_
             case c1 => exact mcells_one _
             case c2 => unfold maxLen; omega
             case c3 => omega
             case c4 => simp; omega
             intro v7 w7 hown7 hg7 hat7))
        obtain ⟨OA', oc', e7, hd1, hd2, _⟩ := own_any hown7
        subst e7
        have hO7 : w7.ownsRow w.heap.size 26 2 (.slice OA' (out ++ [(s, a)]).length oc') (out ++ [(s, a)]).length (mcells (out ++ [(s, a)])) := by rw [mcells_append, List.length_append]; exact hown7
        have hl7 := (Hl6.out.alloc (.cells #[.int .i64 s, .int .i64 a] 26)).kept hg7 (.inr (apart_ne Hap.out))
        have hL7 := (HL6.out.alloc (.cells #[.int .i64 s, .int .i64 a] 26)).grown hg7 (fun e => own_blk_ne Ho6a.out (HL6.out.alloc _) (by decide) e.symm)
        have hb7 : Below w.heap.size w w7 := (Hbw6.out.alloc hz6 (.cells #[.int .i64 s, .int .i64 a] 26)).grown hg7 (by simp; omega) (fun k e => (World.ownsRow.lt Ho6a.out k e).1)
        have hgl : g < w6.heap.size := (World.ownsRow.lt Hl6.out g rfl).2
        have hap7 := apart_app (n := out.length) (c := oc) Hap.out hat7 (show g < (w6.alloc (.cells #[.int .i64 s, .int .i64 a] 26)).heap.size by simp; omega)
        have hs7 := hb7.size
        clear kl0 c0
        have kl0 := Blk.cell hL7 0
        simp only [List.getElem?_toArray, List.getElem?_cons_zero, List.getElem?_cons_succ] at kl0
        have Hown7 := Lib.hid hown7
        have Hg7 := Lib.hid hg7
        have Hat7 := Lib.hid hat7
        have HO7 := Lib.hid hO7
        have Hl7 := Lib.hid hl7
        have HL7 := Lib.hid hL7
        have Hb7 := Lib.hid hb7
        have Hap7 := Lib.hid hap7
        clear hap7 hb7 hL7 hl7 hO7 hat7 hg7 hown7
        go_wp2_with fail
        clear kl0
        go_loopw [50] (fun i wq => ∃ k : Nat, k ≤ nl ∧ i = .int .i64 k ∧ Blk wq L 24 #[.slice (some ⟨g, 0, none⟩) nl x] ∧ wq.ownsRow w.heap.size 26 2 (.slice (some ⟨g, 0, none⟩) nl x) nl (mcells (midL (turnM a s) k ((a, b) :: r))) ∧ w7.grownBy wq (some g)) (fun i _ => nl - (intOf i).toNat)
        case atStart => exact ⟨0, by omega, rfl, HL7.out, by rw [midL_zero]; exact Hl7.out, World.grownBy.refl _ _⟩
        case round =>
          obtain ⟨k, hk, rfl, hLk, hlk, hgk⟩ := hrel
          by_cases hkl : k < nl
          · have hkI : (k : Int) < nl := by omega
            obtain ⟨y, hy⟩ : ∃ y, ((a, b) :: r)[k]? = some y := ⟨_, List.getElem?_eq_getElem (by have := Hll2.out; omega)⟩
            have hym := midL_get (f := turnM a s) hy
            obtain ⟨q1, q2⟩ := mcells_get _ k y hym
            have c1 := hlk.cells (g := g) rfl _ _ q2
            rw [addr_zero] at c1
            have kl0 := Blk.cell hLk 0
            simp only [List.getElem?_toArray, List.getElem?_cons_zero, List.getElem?_cons_succ] at kl0
            by_cases hya : y.2 = a
            · have hyb : (y.2 == a) = true := by simp [hya]
              have hset := own_set_at (u := .int .i64 s) hlk (j := k * 2 + 1) (by omega)
              rw [mcells_set _ k y s hym, show (y.1, s) = turnM a s y by unfold turnM; rw [hyb]; rfl, midL_set hy] at hset
              have hLn := hLk.far (p := ⟨g, k * 2 + 1, none⟩) hLg (.int .i64 s)
              have hgn := only_setCell hgk (p := ⟨g, k * 2 + 1, none⟩) (.inl rfl) (.int .i64 s)
              obtain ⟨gq, hgq⟩ := own_blk hlk rfl
              have fl := Blk.frozen hgq (k * 2 + 1)
              have HLk := Lib.hid hLk
              have Hlk := Lib.hid hlk
              have Hgk := Lib.hid hgk
              have Hy := Lib.hid hy
              have Hym := Lib.hid hym
              have Hset := Lib.hid hset
              have HLn := Lib.hid hLn
              have Hgn := Lib.hid hgn
              have Hya := Lib.hid hya
              have Q3 := Lib.hid q1
              have Q4 := Lib.hid q2
              have Hgq := Lib.hid hgq
              clear hgq q2 q1 hya hgn hLn hset hym hy hgk hlk hLk
              go_wp2_with fail
              exact ⟨⟨k + 1, by omega, by go_num, HLn.out, Hset.out, Hgn.out⟩, by simp [intOf]; omega⟩
            · have hyb : (y.2 == a) = false := by rw [beq_eq_false_iff_ne]; exact hya
              have hsm := midL_same (f := turnM a s) hy (by unfold turnM; rw [hyb]; rfl)
              rw [← hsm] at hlk
              have HLk := Lib.hid hLk
              have Hlk := Lib.hid hlk
              have Hgk := Lib.hid hgk
              have Hy := Lib.hid hy
              have Hym := Lib.hid hym
              have Hya := Lib.hid hya
              have Q3 := Lib.hid q1
              have Q4 := Lib.hid q2
              have Hsm := Lib.hid hsm
              clear hsm q2 q1 hya hym hy hgk hlk hLk
              go_wp2_with fail
              exact ⟨⟨k + 1, by omega, by go_num, HLk.out, Hlk.out, Hgk.out⟩, by simp [intOf]; omega⟩
          · obtain rfl : k = nl := by omega
            have hkI : ¬ (k : Int) < k := by omega
            rw [← Hll2.out, midL_all, Hll2.out] at hlk
            have hOk := HO7.out.kept hgk (.inr fun e => apart_ne Hap7.out e.symm)
            have hbk : Below w.heap.size w wr := Hb7.out.grown hgk (by omega) (fun k e => by injection e with e; omega)
            have HLk := Lib.hid hLk
            have Hlk := Lib.hid hlk
            have Hgk := Lib.hid hgk
            have HOk := Lib.hid hOk
            have Hbk := Lib.hid hbk
            clear hbk hOk hgk hlk hLk
            go_wp2_with fail
            exact ⟨⟨out ++ [(s, a)], ((a, b) :: r).map (turnM a s), OA', oc', k, by rw [List.length_append]; rfl, by omega, HLk.out, Hlk.out, HOk.out, Hap7.out, Hbk.out, HLM'.out⟩, by simp [lenV]; omega⟩
      · rw [hf] at hix
        simp only at hix
        have hil : i < (m :: r).length := by rw [List.findIdx?_eq_some_iff_getElem] at hf; exact hf.1
        obtain ⟨y, hy⟩ : ∃ y, (m :: r)[i]? = some y := ⟨_, List.getElem?_eq_getElem hil⟩
        obtain ⟨hLM', hlt⟩ := hLM.out.hit hf hy
        rw [← HN.out] at hlt
        rw [hll2] at hil
        obtain ⟨q1, q2⟩ := mcells_get _ i y hy
        obtain ⟨a, b⟩ := y
        have HLq := Lib.hid hLq
        have HOl := Lib.hid hOl
        have HOo := Lib.hid hOo
        have Hap := Lib.hid hap
        have Hbq := Lib.hid hbq
        have HLM := Lib.hid hLM
        have Hll2 := Lib.hid hll2
        have Hrd := Lib.hid hrd
        have Hix := Lib.hid hix
        have Hf := Lib.hid hf
        have Hy := Lib.hid hy
        have HLM' := Lib.hid hLM'
        have HgB := Lib.hid hgB
        have Hcel := Lib.hid hcel
        have Q1 := Lib.hid q1
        have Q2 := Lib.hid q2
        clear q2 q1 hcel hgB hLM' hy hf hix hrd hll2 hLM hbq hap hOo hOl hLq
        go_wp2_with fail
        refine Hix.out.mono ?_
        rintro e w6 ⟨rfl, hb6⟩
        have hL6 := HLq.out.below hb6 HLq.out.lt
        have hl6 := own_kept' HOl.out (only_of_below hb6 none) nofun
        have ho6 := own_kept' HOo.out (only_of_below hb6 none) nofun
        have hbw6 := Hbq.out.trans (hb6.mono hsz)
        have hz6 := hbw6.size
        have hLl6 := hL6.lt
        have c0 := hl6.cells (g := g) rfl _ _ Q1.out
        have c1 := hl6.cells (g := g) rfl _ _ Q2.out
        rw [addr_zero] at c0 c1
        clear kl0
        have kl0 := Blk.cell hL6 0
        simp only [List.getElem?_toArray, List.getElem?_cons_zero, List.getElem?_cons_succ] at kl0
        have ho6a := ho6.alloc (.cells #[.int .i64 a, .int .i64 b] 26)
        have hNew : Reads (w6.alloc (.cells #[.int .i64 a, .int .i64 b] 26)) (w6.heap.size + 1) 2 (some ⟨w6.heap.size, 0, none⟩) 1 (mcells [(a, b)]) := Reads.newS _ rfl _ _ _ _ _ rfl rfl
        have HL6 := Lib.hid hL6
        have Hl6 := Lib.hid hl6
        have Ho6 := Lib.hid ho6
        have Hbw6 := Lib.hid hbw6
        have Ho6a := Lib.hid ho6a
        have HNew := Lib.hid hNew
        clear hNew ho6a hbw6 ho6 hl6 hL6
        go_upto_region 9 with (first
          | (at_builtin
             refine wpList_append_any _ rfl (.tmp 26) (.tmp 31) _ rfl w.heap.size 26 i0 _ 2 16 Try.underlying24 hi0 hz0 hz1 hz2 rfl (by omega) (.slice OA out.length oc) out.length (mcells out) rfl Ho6a.out (w6.heap.size + 1) (some ⟨w6.heap.size, 0, none⟩) 1 1 (mcells [(a, b)]) rfl HNew.out ?c1 ?c2 ?c3 ?c4 ?_
             case c1 => exact mcells_one _
             case c2 => unfold maxLen; omega
             case c3 => omega
             case c4 => simp; omega
             intro v7 w7 hown7 hg7 hat7))
        obtain ⟨OA', oc', e7, hd1, hd2, _⟩ := own_any hown7
        subst e7
        have hO7 : w7.ownsRow w.heap.size 26 2 (.slice OA' (out ++ [(a, b)]).length oc') (out ++ [(a, b)]).length (mcells (out ++ [(a, b)])) := by rw [mcells_append, List.length_append]; exact hown7
        have hl7 := (Hl6.out.alloc (.cells #[.int .i64 a, .int .i64 b] 26)).kept hg7 (.inr (apart_ne Hap.out))
        have hL7 := (HL6.out.alloc (.cells #[.int .i64 a, .int .i64 b] 26)).grown hg7 (fun e => own_blk_ne Ho6a.out (HL6.out.alloc _) (by decide) e.symm)
        have hb7 : Below w.heap.size w w7 := (Hbw6.out.alloc hz6 (.cells #[.int .i64 a, .int .i64 b] 26)).grown hg7 (by simp; omega) (fun k e => (World.ownsRow.lt Ho6a.out k e).1)
        have hgl : g < w6.heap.size := (World.ownsRow.lt Hl6.out g rfl).2
        have hap7 := apart_app (n := out.length) (c := oc) Hap.out hat7 (show g < (w6.alloc (.cells #[.int .i64 a, .int .i64 b] 26)).heap.size by simp; omega)
        have hdel := delete_any w7 w.heap.size g nl x i (i + 1) (m :: r) hl7 (by omega) (by omega) (by omega)
        rw [show ((i + 1 : Nat) : Int) = (i : Int) + 1 by omega] at hdel
        have hs7 := hb7.size
        clear kl0 c0 c1
        have kl0 := Blk.cell hL7 0
        simp only [List.getElem?_toArray, List.getElem?_cons_zero, List.getElem?_cons_succ] at kl0
        have Hown7 := Lib.hid hown7
        have Hg7 := Lib.hid hg7
        have Hat7 := Lib.hid hat7
        have HO7 := Lib.hid hO7
        have Hl7 := Lib.hid hl7
        have HL7 := Lib.hid hL7
        have Hb7 := Lib.hid hb7
        have Hap7 := Lib.hid hap7
        have Hdel := Lib.hid hdel
        clear hdel hap7 hb7 hL7 hl7 hO7 hat7 hg7 hown7
        go_wp2_with fail
        refine Hdel.out.mono ?_
        rintro e w8 ⟨rfl, hl8, hg8⟩
        have hL8 := HL7.out.grown hg8 (by intro e; injection e with e; exact hLg e)
        have hO8 := HO7.out.kept hg8 (.inr fun e => apart_ne Hap7.out e.symm)
        have hb8 : Below w.heap.size w w8 := Hb7.out.grown hg8 (by omega) (fun k e => by injection e with e; omega)
        have hL9 := hL8.set_ 0 (.slice (some ⟨g, 0, none⟩) (nl - 1) x)
        have hl9 := ownsRow_setCell_other hl8 (a := ⟨L, 0, none⟩) (own_blk_ne hl8 hL8 (by decide)) (.slice (some ⟨g, 0, none⟩) (nl - 1) x)
        have hO9 := ownsRow_setCell_other hO8 (a := ⟨L, 0, none⟩) (own_blk_ne hO8 hL8 (by decide)) (.slice (some ⟨g, 0, none⟩) (nl - 1) x)
        have hb9 := hb8.setCell (p := ⟨L, 0, none⟩) hLw (.slice (some ⟨g, 0, none⟩) (nl - 1) x)
        clear kl0
        have kl0 := Blk.cell hL8 0
        simp only [List.getElem?_toArray, List.getElem?_cons_zero, List.getElem?_cons_succ] at kl0
        have fl0 := Blk.frozen hL8 0
        have Hl8 := Lib.hid hl8
        have Hg8 := Lib.hid hg8
        have HL8 := Lib.hid hL8
        have HO8 := Lib.hid hO8
        have Hb8 := Lib.hid hb8
        have HL9 := Lib.hid hL9
        have Hl9 := Lib.hid hl9
        have HO9 := Lib.hid hO9
        have Hb9 := Lib.hid hb9
        clear hb9 hO9 hl9 hL9 hb8 hO8 hL8 hg8 hl8
        go_wp2_with fail
        exact ⟨⟨out ++ [(a, b)], (m :: r).eraseIdx i, OA', oc', nl - 1, by rw [List.length_append]; rfl, by omega, HL9.out, Hl9.out, HO9.out, Hap7.out, Hb9.out, HLM'.out⟩, by simp [lenV]; omega⟩
end Go.Proofs.Ytopifdkkmchoeaa
