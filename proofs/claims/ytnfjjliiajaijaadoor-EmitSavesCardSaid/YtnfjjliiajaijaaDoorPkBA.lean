/- What a law's walk is told of an argument that came in: a slice of integers reads as a list, within the form's reach. No condition. What a law's walk is told of an argument that came in: slices of whatever elements, structs of one-cell fields, each within the form's reach. No condition. -/
import Derived.Test.YtnfjjliiajaijaaDoorRows
import Derived.Test.YtnfjjliiajaijaaDoorPkAA
import Derived.ProofKit
import Derived.OpenShut
import Derived.SizedLaws
import Derived.Deep.Slices
import Derived.Deep.Fields
set_option linter.unusedVariables false
set_option linter.unusedSimpArgs false
set_option maxRecDepth 100000
set_option maxHeartbeats 10000000
namespace Go.Proofs.YtnfjjliiajaijaaDoor
open Go.ChangeShapes Go.WideShapes Go.ChangeAt Go.RowKit

theorem lits_length (k : IntKind) {H : Type} (l : List Int) : (lits (H := H) k l).length = l.length := by simp [lits]

theorem u64_of_wf {a : Int} (h : (Lit.int .u64 a).wf = true) : U64 a := by
 have := bounds_u64 h
 unfold U64; omega
theorem lt_of_trod {H : Type} {enc : TypeId × Value → H} {P : Program} {W : World} {b : Nat} {sp : Nat → Bool} {hd : Bool} {t : TypeId} {v : Value} {d : DataW H} {p : List MemPlace} (h : DataW.Trod enc P W b sp hd t v d p) : ∀ x ∈ p, x.block < W.heap.size := by
 obtain ⟨m, hm⟩ := h; exact DataW.trod_lt m _ _ _ hm
theorem own : ownKnob Tryd.prog.godebug = none := by kernel_rfl
theorem laidOut : laidOutB Tryd.prog = true := by kernel_rfl
end Go.Proofs.YtnfjjliiajaijaaDoor
namespace Go.Proofs.YtnfjjliiajaijaaDoor
open Go.ChangeShapes Go.WideShapes Go.ChangeAt Go.RowKit Go.Deep

section
variable {H : Type} {enc : TypeId × Value → H} {P : Program} {w : World}
/-- each slice and string within the reach -/
def Small (P : Program) (t : TypeId) (d : DataW H) : Prop := ∀ n ∈ d.weights P t, n ≤ reachBytes
theorem small_of_each {ts : List TypeId} {ds : List (DataW H)} {j : Nat} {t : TypeId} {d : DataW H} (hsz : (DataW.weightsEach P ts ds).all (· ≤ reachBytes) = true) (hts : ts[j]? = some t) (hds : ds[j]? = some d) : Small P t d :=
 fun n hn => by simpa using List.all_eq_true.1 hsz n (DataW.weights_mem_each hts hds n hn)
theorem mem_weightsAll {e : TypeId} {d : DataW H} {n : Nat} (hn : n ∈ d.weights P e) : ∀ {l : List (DataW H)}, d ∈ l → n ∈ DataW.weightsAll P e l
 | x :: r, h => by
  simp only [DataW.weightsAll, List.mem_append]
  rcases List.mem_cons.1 h with rfl | h
  ·exact .inl hn
  ·exact .inr (mem_weightsAll hn h)
theorem Small.slice {t e : TypeId} {elems spare : List (DataW H)} (h : Small P t (.slice elems spare)) (hu : P.underlying t = some (.slice e)) : (elems.length + spare.length) * P.bytesOf e ≤ reachBytes ∧ ∀ d ∈ elems, Small P e d := by
 unfold Small at h
 simp only [DataW.weights, hu, List.mem_cons, List.mem_append] at h
 exact ⟨h _ (.inl rfl), fun d hd n hn => h n (.inr (.inl (mem_weightsAll hn hd)))⟩
theorem Small.part {t : TypeId} {fs : Array Field} {parts : List (DataW H)} (h : Small P t (.agg parts)) (hu : P.underlying t = some (.struct fs)) {j : Nat} {f : Field} {d : DataW H} (hf : fs[j]? = some f) (hd : parts[j]? = some d) : Small P f.type d := by
 unfold Small at h
 simp only [DataW.weights, hu] at h
 exact fun n hn => h n (DataW.weights_mem_each (j := j) (by simp [List.getElem?_map, hf]) hd n hn)
theorem lists_of {β γ : Type} {Q : Nat → β → γ → Prop} : ∀ {n : Nat}, (∀ i, i < n → ∃ b c, Q i b c) → ∃ (bs : List β) (cs : List γ), bs.length = n ∧ cs.length = n ∧ ∀ (i : Nat) b c, bs[i]? = some b → cs[i]? = some c → Q i b c
 | 0, _ => ⟨[], [], rfl, rfl, by simp⟩
 | n + 1, h => by
  obtain ⟨bs, cs, h1, h2, h3⟩ := lists_of (n := n) fun i hi => h i (by omega)
  obtain ⟨b, c, hq⟩ := h n (by omega)
  refine ⟨bs ++ [b], cs ++ [c], by simp [h1], by simp [h2], fun i b' c' hb hc => ?_⟩
  rcases Nat.lt_or_ge i n with hi | hi
  ·rw [List.getElem?_append_left (by omega)] at hb hc
   exact h3 i b' c' hb hc
  ·have hi' : i < (bs ++ [b]).length := (List.getElem?_eq_some_iff.1 hb).1
   have hin : i = n := by simp [h1] at hi'; omega
   subst hin
   rw [List.getElem?_append_right (by omega), h1, Nat.sub_self] at hb
   rw [List.getElem?_append_right (by omega), h2, Nat.sub_self] at hc
   simp at hb hc
   subst hb hc
   exact hq
theorem flatten_at {size : Nat} (h0 : 0 < size) : ∀ (css : List (List Value)), (∀ c ∈ css, c.length = size) → ∀ (j : Nat) (u : Value), css.flatten[j]? = some u → ∃ c, css[j / size]? = some c ∧ c[j % size]? = some u
 | [], _, j, u, h => by simp at h
 | x :: r, hl, j, u, h => by
  have hx := hl x List.mem_cons_self
  rw [List.flatten_cons] at h
  rcases Nat.lt_or_ge j size with hj | hj
  ·rw [List.getElem?_append_left (by omega)] at h
   exact ⟨x, by rw [Nat.div_eq_of_lt hj]; rfl, by rw [Nat.mod_eq_of_lt hj]; exact h⟩
  ·rw [List.getElem?_append_right (by omega), hx] at h
   obtain ⟨c, h1, h2⟩ := flatten_at h0 r (fun c hc => hl c (List.mem_cons_of_mem _ hc)) (j - size) u h
   have e1 : j / size = (j - size) / size + 1 := by
    conv => lhs; rw [show j = j - size + size by omega]
    rw [Nat.add_div_right _ h0]
   have e2 : j % size = (j - size) % size := by
    conv => lhs; rw [show j = j - size + size by omega]
    rw [Nat.add_mod_right]
   exact ⟨c, by rw [e1, List.getElem?_cons_succ]; exact h1, by rw [e2]; exact h2⟩
theorem flatten_length {size : Nat} : ∀ (css : List (List Value)), (∀ c ∈ css, c.length = size) → css.flatten.length = css.length * size
 | [], _ => by simp
 | x :: r, hl => by
  rw [List.flatten_cons, List.length_append, hl x List.mem_cons_self, flatten_length r fun c hc => hl c (List.mem_cons_of_mem _ hc), List.length_cons, Nat.add_mul]; omega
theorem open_rows {α : Type} {t e size by_ : Nat} (ht : P.underlying t = some (.slice e)) (hC : P.cellsOf e = size) (hB : P.bytesOf e = by_) (h0 : 0 < size) (R : List Value → α → Prop)
  (hel : ∀ fuel cs' x, DataW.trod enc P w 0 (fun _ => true) true fuel e cs' = some x → Small P e x.1 → cs'.length = size → ∃ a, R cs' a)
  {fuel : Nat} {cs : List Value} {x : DataW H × List MemPlace} (h : DataW.trod enc P w 0 (fun _ => true) true fuel t cs = some x) (hs : Small P t x.1) :
  ∃ (A : Option Addr) (n c : Nat) (css : List (List Value)) (al : List α), cs = [.slice A n c] ∧ n ≤ c ∧ c ≤ maxLen ∧ c * by_ ≤ 140737488351232 ∧ css.length = n ∧ al.length = n ∧ (∀ c ∈ css, c.length = size) ∧ Reads w w.heap.size size A n css.flatten ∧
   ∀ (i : Nat) a, al[i]? = some a → ∃ cs', css[i]? = some cs' ∧ R cs' a := by
 have lt := DataW.trod_lt _ _ _ _ h
 rcases open_slice ht h with ⟨rfl, rfl⟩ | ⟨ad, len, cap, m, n, D, Pl, rfl, hb, hl, hm, hmm, rfl, hi⟩
 ·exact ⟨none, 0, 0, [], [], rfl, Nat.le_refl _, by unfold maxLen; omega, by omega, rfl, rfl, by simp, Reads.none_, by simp⟩
 ·simp only [if_true] at hmm
  subst hmm
  rw [hC] at hi lt
  obtain ⟨hw1, hw2⟩ := hs.slice ht
  rw [List.length_map, List.length_map, List.length_range, List.length_range, hB] at hw1
  have hx : ∀ i, i < len → ∃ cs' a, w.cells? 0 (ad.add (i * size)) size = some cs' ∧ R cs' a := fun i hil => by
   obtain ⟨cs', hc, htr⟩ := hi i (by omega)
   obtain ⟨a, ha⟩ := hel n cs' _ htr (hw2 _ (List.mem_map.2 ⟨i, List.mem_range.2 hil, rfl⟩)) (World.cells?_some hc).2.1
   exact ⟨cs', a, hc, ha⟩
  obtain ⟨css, al, h1, h2, h3⟩ := lists_of hx
  have hsz : ∀ c ∈ css, c.length = size := fun c hc => by
   obtain ⟨i, hi', rfl⟩ := List.getElem_of_mem hc
   exact (World.cells?_some (h3 i css[i] al[i] (List.getElem?_eq_getElem hi') (List.getElem?_eq_getElem (by omega))).1).2.1
  refine ⟨some ad, len, m, css, al, rfl, hl, hm, ?_, h1, h2, hsz, ⟨by rw [flatten_length css hsz, h1], fun hn => ⟨ad, rfl, ?_, fun j u hu => ?_⟩⟩, fun i a ha => ?_⟩
  ·have : len + (m - len) = m := by omega
   rw [this] at hw1
   exact hw1
  ·exact lt (.cell ad.block (ad.off + 0)) (List.mem_append_left _ (List.mem_map.2 ⟨0, List.mem_range.2 (Nat.mul_pos (by omega) h0), rfl⟩))
  ·obtain ⟨c, hc1, hc2⟩ := flatten_at h0 css hsz j u hu
   have hci : j / size < css.length := (List.getElem?_eq_some_iff.1 hc1).1
   have hq := (h3 (j / size) c al[j / size] hc1 (List.getElem?_eq_getElem (by omega))).1
   have hat := (World.cells?_some hq).2.2 (j % size) (Nat.mod_lt _ h0)
   rw [add_of_add, Nat.mul_comm, Nat.div_add_mod, hc2] at hat
   exact hat
  ·have hia : i < al.length := (List.getElem?_eq_some_iff.1 ha).1
   exact ⟨css[i], List.getElem?_eq_getElem (by omega), (h3 i css[i] a (List.getElem?_eq_getElem (by omega)) ha).2⟩
theorem open_nums {t e by_ : Nat} {k : IntKind} (ht : P.underlying t = some (.slice e)) (he : P.underlying e = some (.int k)) (hC : P.cellsOf e = 1) (hB : P.bytesOf e = by_)
  {fuel : Nat} {cs : List Value} {x : DataW H × List MemPlace} (h : DataW.trod enc P w 0 (fun _ => true) true fuel t cs = some x) (hs : Small P t x.1) :
  ∃ (A : Option Addr) (n c : Nat) (zs : List Int), cs = [.slice A n c] ∧ Reads w w.heap.size 1 A n (zs.map (Value.int k)) ∧ zs.length = n ∧ n ≤ c ∧ c ≤ maxLen ∧ c * by_ ≤ 140737488351232 ∧ ∀ z ∈ zs, (Lit.int k z).wf = true := by
 have lt := DataW.trod_lt _ _ _ _ h
 rcases open_ints ht he hC h with ⟨rfl, rfl⟩ | ⟨x, l, c', zs, rfl, _, hl, hm, hz, rfl, hcell, hwz⟩
 ·exact ⟨none, 0, 0, [], rfl, Reads.none_, rfl, Nat.le_refl _, by unfold maxLen; omega, by omega, by simp⟩
 ·simp only [if_true] at hz
  have hr := (hs.slice ht).1
  rw [lits_length, lits_length, hB, List.length_take, List.length_drop, hz, Nat.min_eq_left hl, Nat.add_sub_cancel' hl] at hr
  refine ⟨_, _, _, zs.take l, rfl, ⟨by simp [hz, hl], fun hn => ⟨x, rfl, ?_, ?_⟩⟩, by simp [hz, hl], hl, hm, hr, fun z hz' => hwz z (List.mem_of_mem_take hz')⟩
  ·exact lt (.cell x.block (x.off + 0)) (List.mem_map.2 ⟨0, List.mem_range.2 (by rw [hz]; omega), rfl⟩)
  ·intro i u hu
   rw [List.getElem?_map, Option.map_eq_some_iff] at hu
   obtain ⟨y, hy, rfl⟩ := hu
   have hit : i < l := by
    have := (List.getElem?_eq_some_iff.1 hy).1
    rw [List.length_take] at this; omega
   rw [hcell i (by omega)]
   rw [List.getElem?_take_of_lt hit] at hy
   simp [List.getD_eq_getElem?_getD, hy]
theorem open_fields {t : TypeId} {fs : Array Field} (hu : P.underlying t = some (.struct fs)) (hone : oneCellFields P fs = true) (hC : P.cellsOf t = fs.size)
  {fuel : Nat} {cs : List Value} {x : DataW H × List MemPlace} (h : DataW.trod enc P w 0 (fun _ => true) true fuel t cs = some x) (hs : Small P t x.1) :
  cs.length = fs.size ∧ ∀ (j : Nat) (f : Field), fs[j]? = some f → ∃ v n y, cs[j]? = some v ∧ DataW.trod enc P w 0 (fun _ => true) true n f.type [v] = some y ∧ Small P f.type y.1 := by
 obtain ⟨ys, n, _, rfl, hlen, hyl, hf⟩ := DataW.trod_struct hu h
 rw [hC] at hlen
 refine ⟨hlen, fun j f hj => ?_⟩
 obtain ⟨ho, hk⟩ := hone_of hone j f hj
 have hjl : j < fs.size := (Array.getElem?_eq_some_iff.1 hj).1
 have h1 := hf j f hj
 rw [ho, hk] at h1
 have hone' : (cs.drop j).take 1 = [cs[j]'(by omega)] := by
  rw [List.drop_eq_getElem_cons (by omega)]
  rfl
 rw [hone'] at h1
 have hys : ys[j]? = some (ys[j]'(by omega)) := List.getElem?_eq_getElem (by omega)
 exact ⟨_, n, _, List.getElem?_eq_getElem (by omega), h1.trans hys, hs.part hu hj (by rw [List.getElem?_map, hys]; rfl)⟩
end
end Go.Proofs.YtnfjjliiajaijaaDoor
