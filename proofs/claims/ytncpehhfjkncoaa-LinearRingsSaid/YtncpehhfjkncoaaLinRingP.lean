/- Chains and rings of jumps, laid in a line, plainly. No condition. -/
import Derived.Test.YtncpehhfjkncoaaLinAll
set_option linter.unusedVariables false
set_option linter.unusedSimpArgs false
namespace Go.Proofs.Ytncpehhfjkncoaa

def ndR (a : Int) : NodeD := ⟨12, 0, 0, 0, a, 0, 0, 0, 0, [], 0, 0⟩
def chain (k : Nat) : List NodeD := (List.range k).map fun i => nopD (i + 1)
def ringN (k : Nat) (ring : Bool) : List NodeD := (if ring then (chain k).set (k - 1) (nopD 0) else chain k) ++ [ndR (-1)]
def ringG (k e : Nat) (ring : Bool) : GraphD := ⟨[], List.replicate 16 0, 0, [], false, -1, ringN k ring, e⟩
/-- one node of the line -/
theorem lineS_one {ns : List NodeD} {entry r : Nat} (h : thru ns entry = r) (hr : (nd ns r).op = 10 ∨ nextL (nd ns r) = []) :
    lineS ns entry = ⟨upd (fun _ => none) r 0, [if (nd ns r).op = 10 then { nd ns r with next := r } else turned ns (nd ns r)], []⟩ := by
  unfold lineS
  rw [h]
  have hrun : runF ns (ns.length + 1) ⟨fun _ => none, [], []⟩ r = ⟨upd (fun _ => none) r 0, [if (nd ns r).op = 10 then { nd ns r with next := r } else turned ns (nd ns r)], []⟩ := by
    by_cases h10 : (nd ns r).op = 10
    · rw [runF_nop rfl h10, if_pos h10]; rfl
    · rw [runF_end rfl h10 (hr.resolve_left h10), if_neg h10]; rfl
  show workF ns (ns.length + 1) (runF ns (ns.length + 1) ⟨fun _ => none, [], []⟩ r) = _
  rw [hrun]
  simp only [workF]
section
variable {k e : Nat} {ring : Bool}
theorem chain_len : (chain k).length = k := by simp [chain]
theorem ringN_len : (ringN k ring).length = k + 1 := by
  unfold ringN
  cases ring <;> simp [chain_len]
theorem ringN_last : (ringN k ring)[k]? = some (ndR (-1)) := by
  unfold ringN
  have : (if ring then (chain k).set (k - 1) (nopD 0) else chain k).length = k := by cases ring <;> simp [chain_len]
  rw [List.getElem?_append_right (by omega), this, Nat.sub_self]; rfl
theorem ringN_at {i : Nat} (hi : i < k) : (ringN k ring)[i]? = some (nopD (if ring = true ∧ i = k - 1 then 0 else i + 1)) := by
  unfold ringN
  have hl : (if ring then (chain k).set (k - 1) (nopD 0) else chain k).length = k := by cases ring <;> simp [chain_len]
  rw [List.getElem?_append_left (by omega)]
  cases ring
  · simp [chain, hi]
  · simp only [if_true, true_and]
    by_cases h : i = k - 1
    · subst h
      rw [List.getElem?_set_self (by rw [chain_len]; exact hi), if_pos rfl]
    · rw [List.getElem?_set_ne (Ne.symm h), if_neg h]
      simp [chain, hi]
theorem ring_hop {i : Nat} (hi : i < k) : hop (ringN k ring) i = if ring = true ∧ i = k - 1 then 0 else i + 1 := by
  have h := nd_at (ringN_at (ring := ring) hi)
  rw [hop_nop (by rw [h]; rfl), h]
  simp [nopD]
theorem chain_hops : ∀ (j i : Nat), i + j ≤ k → hops (ringN k false) j i = i + j
  | 0, i, _ => rfl
  | j + 1, i, h => by
    show hops (ringN k false) j (hop (ringN k false) i) = i + (j + 1)
    rw [ring_hop (by omega), if_neg (fun h => by cases h.1), chain_hops j (i + 1) (by omega)]
    omega
theorem ring_hops : ∀ (j i : Nat), i + j < k → hops (ringN k true) j i = i + j
  | 0, i, _ => rfl
  | j + 1, i, h => by
    show hops (ringN k true) j (hop (ringN k true) i) = i + (j + 1)
    rw [ring_hop (by omega), if_neg (fun h => by have := h.2; omega), ring_hops j (i + 1) (by omega)]
    omega
theorem ring_back {i : Nat} (hi : i < k) : hops (ringN k true) (k - i) i = 0 := by
  rw [show k - i = (k - 1 - i) + 1 by omega, hops_succ, ring_hops _ _ (by omega), ring_hop (by omega), if_pos ⟨rfl, by omega⟩]
theorem ring_round {i : Nat} (hi : i < k) : hops (ringN k true) k i = i := by
  conv => lhs; rw [show k = (k - i) + i by omega]
  rw [hops_add]
  have h0 := ring_back hi
  rw [← show k = (k - i) + i by omega, h0]
  have := ring_hops (k := k) i 0 (by omega)
  rw [this]; omega
theorem ring_line (he : e < k) : lineN (ringN k ring) e = [if ring = true then nopD 0 else ndR (-1)] := by
  unfold lineN
  cases ring
  · have hnk : nd (ringN k false) k = ndR (-1) := nd_at ringN_last
    have hh : hops (ringN k false) (k - e) e = k := by rw [chain_hops _ _ (by omega)]; omega
    have ht : thru (ringN k false) e = k := by
      rw [thru_stop (k := k - e) (by rw [ringN_len]; omega) (by rw [hh, hnk]; decide), hh]
    rw [lineS_one ht (.inr (by rw [hnk]; rfl)), hnk]
    rfl
  · have h0 : hops (ringN k true) 0 e = e := rfl
    have hop10 : ∀ i, i < k → (nd (ringN k true) i).op = 10 := fun i hi => by rw [nd_at (ringN_at hi)]; rfl
    have ht : thru (ringN k true) e = 0 := by
      rw [thru_ring (k := 0) (p := k) (by omega) (by omega) (by rw [ringN_len]; omega) (by rw [h0]; exact hop10 e he) (by rw [h0]; exact ring_round he), h0]
      by_cases h : e = 0
      · have := minK_le (ns := ringN k true) (x := e) (m := k) (t := 0) (by omega)
        rw [h0] at this; omega
      · have := minK_le (ns := ringN k true) (x := e) (m := k) (t := k - e) (by omega)
        rw [ring_back he] at this; omega
    have hn0 : nd (ringN k true) 0 = nopD (if true = true ∧ 0 = k - 1 then 0 else 0 + 1) := nd_at (ringN_at (by omega))
    rw [lineS_one ht (.inl (by rw [hn0]; rfl)), hn0]
    simp [fixN, nopD, upd]
theorem ring_check (hk : 1 ≤ k) (hk2 : k ≤ 200) (he : e < k) : checkB [ringG k e ring] true = true := by
  have hnode : ∀ x ∈ ringN k ring, nodeB [ringG k e ring] (ringG k e ring) true x = true := by
    intro x hx
    obtain ⟨i, hi, hxi⟩ := List.getElem_of_mem hx
    have hxe : (ringN k ring)[i]? = some x := by rw [List.getElem?_eq_getElem hi, hxi]
    rw [ringN_len] at hi
    by_cases hik : i = k
    · rw [hik, ringN_last] at hxe
      injection hxe with hxe
      subst hxe
      simp [nodeB, nextL, ndR, opB, ringG]
    · rw [ringN_at (by omega)] at hxe
      injection hxe with hxe
      subst hxe
      have hlen : (ringG k e ring).nodes.length = k + 1 := ringN_len
      unfold nodeB
      rw [hlen]
      simp only [nextL, nopD, opB]
      simp
      split <;> omega
  unfold checkB
  simp only [List.getElem?_cons_zero, List.length_singleton, List.all_cons, List.all_nil, Bool.and_true, Bool.and_eq_true, decide_eq_true_eq]
  refine ⟨⟨⟨⟨by omega, rfl⟩, rfl⟩, ?_⟩, List.all_eq_true.2 hnode⟩
  have hlen : (ringG k e ring).nodes.length = k + 1 := ringN_len
  unfold headB head3
  rw [hlen]
  have h1 : head1 (ringG k e ring) true = false := by
    unfold head1; rfl
  have h2 : head2 (ringG k e ring) = false := by
    unfold head2; rfl
  rw [h1, h2]
  simp only [Bool.not_false, Bool.true_and, Bool.and_eq_true, decide_eq_true_eq]
  refine ⟨by rfl, ⟨⟨by omega, by omega⟩, ?_⟩, ?_⟩
  · show (0 : Int) ≤ (e : Int); omega
  · show (e : Int) < ((k + 1 : Nat) : Int); omega
theorem ring_graph (he : e < k) : lineG (ringG k e ring) = ⟨[], List.replicate 16 0, 0, [], false, -1, [if ring = true then nopD 0 else ndR (-1)], 0⟩ := by
  unfold lineG
  simp only [ringG, Int.toNat_natCast]
  rw [ring_line he]
theorem ring_err (hk : 1 ≤ k) (hk2 : k ≤ 200) (he : e < k) : linErr [ringG k e ring] = 0 := by
  have hg := ring_graph (ring := ring) he
  have ho : linOver [ringG k e ring] = false := by
    unfold linOver
    simp only [List.any_cons, List.any_nil, Bool.or_false, hg, List.length_singleton]
    rfl
  unfold linErr
  rw [if_pos (ring_check hk hk2 he), ho]
  rfl
end
def grF : GraphD := ⟨[], List.replicate 16 0, 0, [], false, -1, [nopD 2, ndR (-1), nopD 1], 0⟩
theorem lineF : lineG grF = ⟨[], List.replicate 16 0, 0, [], false, -1, [ndR (-1)], 0⟩ := by rfl
theorem errF : linErr [grF] = 0 := by decide
theorem checkF : checkB [(⟨[], List.replicate 16 0, 0, [], false, -1, [ndR (-1)], 0⟩ : GraphD)] true = true := by decide
end Go.Proofs.Ytncpehhfjkncoaa
