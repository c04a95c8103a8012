/- Moves one after the other leave each word where it ought to be: plain data. No condition. -/
import Derived.Test.YtopifdkkmchoeaaMvLP
set_option linter.unusedVariables false
set_option linter.unusedSimpArgs false
namespace Go.Proofs.Ytopifdkkmchoeaa
open Go.RowKit

theorem nodup_sub : ∀ (T L : List Int), T.Nodup → (∀ x ∈ T, x ∈ L) → T.length ≤ L.length
  | [], _, _, _ => by simp
  | a :: T, L, hn, hs => by
    rw [List.nodup_cons] at hn
    have ha := hs a List.mem_cons_self
    have h := nodup_sub T (L.erase a) hn.2 fun x hx => by
      have hne : x ≠ a := fun e => hn.1 (by rw [← e]; exact hx)
      rw [List.mem_erase_of_ne hne]
      exact hs x (List.mem_cons_of_mem _ hx)
    rw [List.length_erase_of_mem ha] at h
    have := List.length_pos_of_mem ha
    simp only [List.length_cons]
    omega
def updM (W : Int → Int) (a v : Int) : Int → Int := fun k => if k = a then v else W k
def execM (W : Int → Int) (l : List Mv) : Int → Int := l.foldl (fun W m => updM W m.1 (W m.2)) W
theorem exec_cons (W : Int → Int) (m : Mv) (l : List Mv) : execM W (m :: l) = execM (updM W m.1 (W m.2)) l := rfl
theorem exec_snoc (W : Int → Int) (l : List Mv) (m : Mv) : execM W (l ++ [m]) = updM (execM W l) m.1 (execM W l m.2) := by simp [execM, List.foldl_append]
structure ShInv (n : Int) (tgt W : Int → Int) (left : List Mv) : Prop where
  src : ∀ m ∈ left, W m.2 = tgt m.1
  done : ∀ i, 0 ≤ i → i < n → i ∉ left.map (·.1) → W i = tgt i
  nodup : (left.map (·.1)).Nodup
  to_ : ∀ m ∈ left, 0 ≤ m.1 ∧ m.1 < n
  fr : ∀ m ∈ left, 0 ≤ m.2 ∧ m.2 ≤ n
theorem fst_inj : ∀ {left : List Mv} {i : Nat} {m : Mv}, (left.map (·.1)).Nodup → left[i]? = some m → m.1 ∉ (left.eraseIdx i).map (·.1)
  | [], _, _, _, h => by simp at h
  | x :: r, 0, m, hn, h => by
    simp at h; subst h
    rw [List.map_cons, List.nodup_cons] at hn
    simpa using hn.1
  | x :: r, i + 1, m, hn, h => by
    rw [List.map_cons, List.nodup_cons] at hn
    have h' : r[i]? = some m := by simpa using h
    have ih := fst_inj hn.2 h'
    rw [List.eraseIdx_cons_succ, List.map_cons, List.mem_cons]
    rintro (e | e)
    · exact hn.1 (e ▸ List.mem_map.2 ⟨m, List.mem_of_getElem? h', rfl⟩)
    · exact ih e
theorem erase_sub {left : List Mv} {i : Nat} : ∀ x ∈ left.eraseIdx i, x ∈ left := fun x hx => List.mem_of_mem_eraseIdx hx
theorem erase_or : ∀ {left : List Mv} {i : Nat} {m x : Mv}, left[i]? = some m → x ∈ left → x = m ∨ x ∈ left.eraseIdx i
  | [], _, _, _, h, _ => by simp at h
  | y :: r, 0, m, x, h, hx => by
    simp at h; subst h
    rcases List.mem_cons.1 hx with h | h
    · exact .inl h
    · exact .inr (by simpa using h)
  | y :: r, i + 1, m, x, h, hx => by
    rw [List.eraseIdx_cons_succ]
    rcases List.mem_cons.1 hx with h2 | h2
    · exact .inr (by rw [h2]; exact List.mem_cons_self)
    · exact (erase_or (show r[i]? = some m by simpa using h) h2).imp id fun h3 => List.mem_cons_of_mem _ h3
theorem ShInv.hit {n : Int} {tgt W : Int → Int} {left : List Mv} {i : Nat} {m : Mv} (h : ShInv n tgt W left) (hm : left[i]? = some m) (hf : freeM left m = true) : ShInv n tgt (updM W m.1 (W m.2)) (left.eraseIdx i) := by
  have hml := List.mem_of_getElem? hm
  have hfr : ∀ x ∈ left, x.2 ≠ m.1 := by
    unfold freeM at hf
    rw [Bool.not_eq_true', List.any_eq_false] at hf
    intro x hx e
    exact hf x hx (by simp [e])
  have hnd := fst_inj h.nodup hm
  refine ⟨fun x hx => ?_, fun j h0 h1 hj => ?_, ?_, fun x hx => h.to_ x (erase_sub x hx), fun x hx => h.fr x (erase_sub x hx)⟩
  · have hxl := erase_sub x hx
    unfold updM
    rw [if_neg (hfr x hxl)]
    exact h.src x hxl
  · unfold updM
    split
    · rename_i e; rw [e]; exact h.src m hml
    · rename_i e
      refine h.done j h0 h1 fun hj2 => ?_
      obtain ⟨x, hx, rfl⟩ := List.mem_map.1 hj2
      rcases erase_or hm hx with h2 | h2
      · exact e (by rw [h2])
      · exact hj (List.mem_map.2 ⟨x, h2, rfl⟩)
  · have := h.nodup
    rw [List.nodup_iff_count] at this ⊢
    intro a
    exact Nat.le_trans (List.Sublist.count_le a ((List.eraseIdx_sublist left i).map _)) (this a)
theorem ShInv.ring {n : Int} {tgt W : Int → Int} {m : Mv} {r : List Mv} (h : ShInv n tgt W (m :: r)) (hf : (m :: r).findIdx? (freeM (m :: r)) = none) : ShInv n tgt (updM W n (W m.1)) ((m :: r).map (turnM m.1 n)) := by
  have hno : ∀ x ∈ m :: r, x.2 ≠ n := by
    intro x hx e
    have h1 := nodup_sub ((m :: r).map (·.1)) (((m :: r).map (·.2)).erase n) h.nodup fun a ha => by
      obtain ⟨y, hy, rfl⟩ := List.mem_map.1 ha
      rw [List.mem_erase_of_ne (by have := (h.to_ y hy).2; omega)]
      have h2 := List.findIdx?_eq_none_iff.1 hf y hy
      unfold freeM at h2
      rw [Bool.not_eq_false', List.any_eq_true] at h2
      obtain ⟨z, hz, hz2⟩ := h2
      exact List.mem_map.2 ⟨z, hz, by simpa using hz2⟩
    have hmem : n ∈ (m :: r).map (·.2) := List.mem_map.2 ⟨x, hx, e⟩
    rw [List.length_erase_of_mem hmem, List.length_map, List.length_map] at h1
    simp only [List.length_cons] at h1
    omega
  have hm1 := h.to_ m List.mem_cons_self
  have hfst : ((m :: r).map (turnM m.1 n)).map (·.1) = (m :: r).map (·.1) := by
    rw [List.map_map]
    refine List.map_congr_left fun x _ => ?_
    exact turn_fst _ _ _
  refine ⟨fun x hx => ?_, fun j h0 h1 hj => ?_, by rw [hfst]; exact h.nodup, fun x hx => ?_, fun x hx => ?_⟩
  · obtain ⟨y, hy, rfl⟩ := List.mem_map.1 hx
    rw [turn_fst]
    unfold turnM
    by_cases e : y.2 = m.1
    · rw [if_pos (by simp [e])]
      show updM W n (W m.1) n = tgt y.1
      unfold updM
      rw [if_pos rfl, ← e]
      exact h.src y hy
    · rw [if_neg (by simp [e])]
      unfold updM
      rw [if_neg (hno y hy)]
      exact h.src y hy
  · rw [hfst] at hj
    unfold updM
    rw [if_neg (by omega)]
    exact h.done j h0 h1 hj
  · obtain ⟨y, hy, rfl⟩ := List.mem_map.1 hx
    rw [turn_fst]; exact h.to_ y hy
  · obtain ⟨y, hy, rfl⟩ := List.mem_map.1 hx
    unfold turnM
    split
    · exact ⟨by show 0 ≤ n; omega, Int.le_refl _⟩
    · exact h.fr y hy
theorem line_law : ∀ (f : Nat) (left : List Mv) (n : Int) (tgt W : Int → Int), ShInv n tgt W left → needM left ≤ f → (∀ m ∈ lineM f left n, 0 ≤ m.1 ∧ m.1 ≤ n ∧ 0 ≤ m.2 ∧ m.2 ≤ n) ∧ ∀ i, 0 ≤ i → i < n → execM W (lineM f left n) i = tgt i
  | 0, left, n, tgt, W, h, hf => by
    have : left = [] := by
      rcases left with _ | ⟨a, r⟩
      · rfl
      · have := need_pos (left := a :: r) (by simp); omega
    subst this
    exact ⟨by intro m hm; simp [lineM] at hm, fun i h0 h1 => h.done i h0 h1 (by simp)⟩
  | f + 1, [], n, tgt, W, h, hf => ⟨by intro m hm; simp [lineM_nil] at hm, fun i h0 h1 => by rw [lineM_nil]; exact h.done i h0 h1 (by simp)⟩
  | f + 1, m :: r, n, tgt, W, h, hf => by
    rcases hx : (m :: r).findIdx? (freeM (m :: r)) with _ | i
    · have hr := need_ring (s := n) hx fun x hx2 => by have := (h.to_ x hx2).2; omega
      obtain ⟨h1, h2⟩ := line_law f _ n tgt _ (h.ring hx) (by omega)
      rw [lineM_ring hx]
      have hm1 := h.to_ m List.mem_cons_self
      refine ⟨fun x hx2 => ?_, fun i h0 h1' => ?_⟩
      · rcases List.mem_cons.1 hx2 with e | e
        · rw [e]; exact ⟨by show 0 ≤ n; omega, Int.le_refl _, hm1.1, by show m.1 ≤ n; omega⟩
        · exact h1 x e
      · rw [exec_cons]; exact h2 i h0 h1'
    · have hx2 := hx
      rw [List.findIdx?_eq_some_iff_getElem] at hx2
      obtain ⟨hl, hp, _⟩ := hx2
      have hg := List.getElem?_eq_getElem hl
      obtain ⟨h1, h2⟩ := line_law f _ n tgt _ (h.hit hg hp) (by have := need_hit hl; omega)
      rw [lineM_hit hx hg]
      have hmem := List.mem_of_getElem? hg
      have hm1 := h.to_ _ hmem
      have hm2 := h.fr _ hmem
      refine ⟨fun x hx2 => ?_, fun j h0 h1' => ?_⟩
      · rcases List.mem_cons.1 hx2 with e | e
        · rw [e]; exact ⟨hm1.1, by omega, hm2.1, hm2.2⟩
        · exact h1 x e
      · rw [exec_cons]; exact h2 j h0 h1'
/-- the shuffle of the law -/
def shufM (fs : List Int) (n : Nat) : List Mv := (List.range n).map fun i : Nat => ((i : Int), fs.getD i 0)
theorem shuf_get {fs : List Int} {n : Nat} : ∀ m ∈ shufM fs n, ∃ i : Nat, i < n ∧ m = ((i : Int), fs.getD i 0) := fun m hm => by
  obtain ⟨i, hi, rfl⟩ := List.mem_map.1 hm
  exact ⟨i, List.mem_range.1 hi, rfl⟩
theorem shuf_fst (fs : List Int) (n : Nat) : (shufM fs n).map (·.1) = (List.range n).map fun i : Nat => (i : Int) := by
  unfold shufM
  rw [List.map_map]; rfl
theorem shuf_nodup (fs : List Int) (n : Nat) : ((shufM fs n).map (·.1)).Nodup := by
  rw [shuf_fst]
  refine List.Pairwise.map _ (fun a b (h : a ≠ b) => ?_) List.nodup_range
  exact fun e => h (by omega)
theorem shuf_ok {fs : List Int} {n : Nat} (h : ∀ i, i < n → 0 ≤ fs.getD i 0 ∧ fs.getD i 0 < n) : okM (shufM fs n) n := by
  refine ⟨fun m hm => ?_, shuf_nodup fs n, by omega⟩
  obtain ⟨i, hi, rfl⟩ := shuf_get m hm
  have := h i hi
  exact ⟨by show 0 ≤ (i : Int); omega, this.1, by show (i : Int) ≠ n; omega, by show fs.getD i 0 ≠ n; omega⟩
theorem shuf_law {fs : List Int} {n : Nat} (h : ∀ i, i < n → 0 ≤ fs.getD i 0 ∧ fs.getD i 0 < n) (W : Int → Int) (hW : ∀ i : Nat, i < n → W i = 1000 + i) :
    (∀ m ∈ lineAll (shufM fs n) n, 0 ≤ m.1 ∧ m.1 ≤ n ∧ 0 ≤ m.2 ∧ m.2 ≤ n) ∧ ∀ i : Nat, i < n → execM W (lineAll (shufM fs n) n) i = 1000 + fs.getD i 0 := by
  have hI : ShInv n (fun i => 1000 + fs.getD i.toNat 0) W (keptM (shufM fs n)) := by
    refine ⟨fun m hm => ?_, fun i h0 h1 hi => ?_, ?_, fun m hm => ?_, fun m hm => ?_⟩
    · obtain ⟨i, hi, rfl⟩ := shuf_get m (List.mem_filter.1 hm).1
      have := h i hi
      have e := hW (fs.getD i 0).toNat (by omega)
      rw [Int.toNat_of_nonneg this.1] at e
      simpa using e
    · obtain ⟨k, rfl⟩ := Int.eq_ofNat_of_zero_le h0
      have hk : k < n := by omega
      rw [hW k hk]
      have e : fs.getD k 0 = (k : Int) := by
        refine Decidable.byContradiction fun hne => hi ?_
        refine List.mem_map.2 ⟨((k : Int), fs.getD k 0), List.mem_filter.2 ⟨List.mem_map.2 ⟨k, List.mem_range.2 hk, rfl⟩, ?_⟩, rfl⟩
        rw [Bool.not_eq_true', beq_eq_false_iff_ne]
        exact fun e => hne e.symm
      simp only [Int.toNat_natCast]
      rw [e]
    · have := shuf_nodup fs n
      rw [List.nodup_iff_count] at this ⊢
      intro a
      exact Nat.le_trans (List.Sublist.count_le a ((List.filter_sublist).map _)) (this a)
    · obtain ⟨i, hi, rfl⟩ := shuf_get m (List.mem_filter.1 hm).1
      exact ⟨by show 0 ≤ (i : Int); omega, by show (i : Int) < n; omega⟩
    · obtain ⟨i, hi, rfl⟩ := shuf_get m (List.mem_filter.1 hm).1
      have := h i hi
      exact ⟨this.1, by show fs.getD i 0 ≤ n; omega⟩
  obtain ⟨h1, h2⟩ := line_law _ _ _ _ _ hI (Nat.le_refl _)
  refine ⟨h1, fun i hi => ?_⟩
  have := h2 i (by omega) (by omega)
  rw [Int.toNat_natCast] at this
  exact this
end Go.Proofs.Ytopifdkkmchoeaa
