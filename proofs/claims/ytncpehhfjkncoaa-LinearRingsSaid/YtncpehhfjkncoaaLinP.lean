/- Nodes laid in a line, plainly: what is behind jumps, and the line itself. No condition. -/
import Derived.Test.YtncpehhfjkncoaaIrNext
set_option linter.unusedVariables false
set_option linter.unusedSimpArgs false
namespace Go.Proofs.Ytncpehhfjkncoaa

def nodeZ : NodeD := ⟨0, 0, 0, 0, 0, 0, 0, 0, 0, [], 0, 0⟩
def nd (ns : List NodeD) (i : Nat) : NodeD := ns.getD i nodeZ
def hop (ns : List NodeD) (i : Nat) : Nat := if (nd ns i).op = 10 then (nd ns i).next.toNat else i
def hops (ns : List NodeD) : Nat → Nat → Nat
  | 0, i => i
  | k + 1, i => hops ns k (hop ns i)
def minK (ns : List NodeD) (x : Nat) : Nat → Nat
  | 0 => x
  | m + 1 => min (minK ns x m) (hops ns m x)
def thru (ns : List NodeD) (i : Nat) : Nat := if (nd ns (hops ns ns.length i)).op = 10 then minK ns (hops ns ns.length i) ns.length else hops ns ns.length i
def upd (f : Nat → Option Nat) (k v : Nat) : Nat → Option Nat := fun j => if j = k then some v else f j
def cardF (f : Nat → Option Nat) : Nat → Nat
  | 0 => 0
  | n + 1 => cardF f n + if (f n).isSome then 1 else 0
structure LS where
  at_ : Nat → Option Nat
  out : List NodeD
  todo : List Nat
def nopD (i : Nat) : NodeD := ⟨10, 0, 0, 0, 0, 0, 0, 0, 0, [], i, 0⟩
def turned (ns : List NodeD) (x : NodeD) : NodeD := if x.op = 9 then { x with els := (thru ns x.els.toNat : Nat) } else x
def runF (ns : List NodeD) : Nat → LS → Nat → LS
  | 0, s, _ => s
  | fuel + 1, s, i =>
    match s.at_ i with
    | some _ => s
    | none =>
      if (nd ns i).op = 10 then ⟨upd s.at_ i s.out.length, s.out ++ [{ nd ns i with next := i }], s.todo⟩
      else if nextL (nd ns i) = [] then ⟨upd s.at_ i s.out.length, s.out ++ [turned ns (nd ns i)], s.todo⟩
      else
        runF ns fuel ⟨upd s.at_ i s.out.length,
          (s.out ++ [turned ns (nd ns i)]) ++ (if (upd s.at_ i s.out.length (thru ns (nd ns i).next.toNat)).isSome then [nopD (thru ns (nd ns i).next.toNat)] else []),
          if (nd ns i).op = 9 then s.todo ++ [thru ns (nd ns i).els.toNat] else s.todo⟩ (thru ns (nd ns i).next.toNat)
def workF (ns : List NodeD) : Nat → LS → LS
  | 0, s => s
  | f + 1, s => match s.todo with
    | [] => s
    | i :: r => workF ns f (runF ns (ns.length + 1) ⟨s.at_, s.out, r⟩ i)
def fixN (at_ : Nat → Option Nat) (k : Nat) (x : NodeD) : NodeD :=
  let y : NodeD := if x.op = 10 then { x with next := ((at_ x.next.toNat).getD 0 : Nat) } else if nextL x = [] then x else { x with next := k + 1 }
  if x.op = 9 then { y with els := ((at_ x.els.toNat).getD 0 : Nat) } else y
def lineS (ns : List NodeD) (entry : Nat) : LS := workF ns (ns.length + 2) ⟨fun _ => none, [], [thru ns entry]⟩
def lineN (ns : List NodeD) (entry : Nat) : List NodeD := (lineS ns entry).out.mapIdx (fixN (lineS ns entry).at_)
def lineG (g : GraphD) : GraphD := { g with nodes := lineN g.nodes g.entry.toNat, entry := 0 }

/-- jumps lead to nodes -/
def Hop (ns : List NodeD) : Prop := ∀ x ∈ ns, x.op = 10 → 0 ≤ x.next ∧ x.next < ns.length
section
variable {ns : List NodeD}
theorem nd_at {i : Nat} {x : NodeD} (h : ns[i]? = some x) : nd ns i = x := by unfold nd; rw [List.getD_eq_getElem?_getD, h]; rfl
theorem nd_mem {i : Nat} (h : i < ns.length) : nd ns i ∈ ns := by unfold nd; rw [List.getD_eq_getElem?_getD, List.getElem?_eq_getElem h]; exact List.getElem_mem h
theorem nd_get {i : Nat} (h : i < ns.length) : ns[i]? = some (nd ns i) := by unfold nd; rw [List.getD_eq_getElem?_getD, List.getElem?_eq_getElem h]; rfl
theorem nd_out {i : Nat} (h : ns.length ≤ i) : nd ns i = nodeZ := by unfold nd; rw [List.getD_eq_getElem?_getD, List.getElem?_eq_none h]; rfl
theorem hop_lt (hg : Hop ns) {i : Nat} (hi : i < ns.length) : hop ns i < ns.length := by
  unfold hop
  split
  · rename_i h
    have := hg _ (nd_mem hi) h
    omega
  · exact hi
theorem hops_lt (hg : Hop ns) : ∀ (k : Nat) {i : Nat}, i < ns.length → hops ns k i < ns.length
  | 0, _, h => h
  | k + 1, _, h => hops_lt hg k (hop_lt hg h)
theorem hops_add : ∀ (a b i : Nat), hops ns (a + b) i = hops ns b (hops ns a i)
  | 0, b, i => by rw [Nat.zero_add]; rfl
  | a + 1, b, i => by rw [show a + 1 + b = (a + b) + 1 by omega]; exact hops_add a b (hop ns i)
theorem hops_succ (k i : Nat) : hops ns (k + 1) i = hop ns (hops ns k i) := by rw [hops_add k 1 i]; rfl
theorem hop_fix {i : Nat} (h : (nd ns i).op ≠ 10) : hop ns i = i := by unfold hop; rw [if_neg h]
theorem hop_nop {i : Nat} (h : (nd ns i).op = 10) : hop ns i = (nd ns i).next.toNat := by unfold hop; rw [if_pos h]
theorem hops_fix : ∀ (k : Nat) {i : Nat}, (nd ns i).op ≠ 10 → hops ns k i = i
  | 0, _, _ => rfl
  | k + 1, i, h => by
    show hops ns k (hop ns i) = i
    rw [hop_fix h]; exact hops_fix k h
theorem thru_stop {i k : Nat} (hk : k ≤ ns.length) (h : (nd ns (hops ns k i)).op ≠ 10) : thru ns i = hops ns k i := by
  have he : hops ns ns.length i = hops ns k i := by
    rw [show ns.length = k + (ns.length - k) by omega, hops_add]
    exact hops_fix _ h
  unfold thru
  rw [he, if_neg h]
theorem minK_le {x : Nat} : ∀ {m t : Nat}, t < m → minK ns x m ≤ hops ns t x
  | m + 1, t, h => by
    show min _ _ ≤ _
    rcases Nat.lt_or_ge t m with h1 | h1
    · have := minK_le (x := x) h1; omega
    · have : t = m := by omega
      subst this; omega
theorem minK_mem {x : Nat} : ∀ m : Nat, ∃ t, t ≤ m ∧ minK ns x m = hops ns t x
  | 0 => ⟨0, Nat.le_refl _, rfl⟩
  | m + 1 => by
    obtain ⟨t, h1, h2⟩ := minK_mem (x := x) m
    show ∃ t, t ≤ m + 1 ∧ min _ _ = _
    rcases Nat.le_total (minK ns x m) (hops ns m x) with h | h
    · exact ⟨t, by omega, by omega⟩
    · exact ⟨m, by omega, by omega⟩
theorem ring_mod {x p : Nat} (hr : hops ns p x = x) (t : Nat) : hops ns t x = hops ns (t % p) x := by
  have h : ∀ q r, hops ns (p * q + r) x = hops ns r x := by
    intro q
    induction q with
    | zero => intro r; rw [Nat.mul_zero, Nat.zero_add]
    | succ q ih =>
      intro r
      rw [show p * (q + 1) + r = p + (p * q + r) by rw [Nat.mul_succ]; omega, hops_add, hr]
      exact ih r
  have := h (t / p) (t % p)
  rwa [Nat.div_add_mod] at this
theorem minK_ring {x p s n : Nat} (hp : 0 < p) (hr : hops ns p x = x) (hn : p ≤ n) : minK ns (hops ns s x) n = minK ns x p := by
  have hle : ∀ t, minK ns x p ≤ hops ns t x := fun t => by
    rw [ring_mod hr t]; exact minK_le (Nat.mod_lt _ hp)
  have hr' : hops ns p (hops ns s x) = hops ns s x := by
    rw [← hops_add, show s + p = p + s by omega, hops_add, hr]
  have hle' : ∀ t, minK ns (hops ns s x) n ≤ hops ns t (hops ns s x) := fun t => by
    rw [ring_mod hr' t]; exact minK_le (Nat.lt_of_lt_of_le (Nat.mod_lt _ hp) hn)
  obtain ⟨t, _, ht⟩ := minK_mem (ns := ns) (x := hops ns s x) n
  obtain ⟨u, _, hu⟩ := minK_mem (ns := ns) (x := x) p
  have h1 : minK ns x p ≤ minK ns (hops ns s x) n := by rw [ht, ← hops_add]; exact hle _
  have h2 : minK ns (hops ns s x) n ≤ minK ns x p := by
    -- x's u-th is reached out of its s-th
    have hx : ∃ v, hops ns v (hops ns s x) = hops ns u x := by
      refine ⟨(p - s % p) + u, ?_⟩
      rw [ring_mod hr s, ← hops_add, show s % p + ((p - s % p) + u) = p + u by have := Nat.mod_lt s hp; omega, hops_add, hr]
    obtain ⟨v, hv⟩ := hx
    rw [hu, ← hv]; exact hle' v
  omega
theorem thru_ring {i k p : Nat} (hp : 0 < p) (hk : k ≤ ns.length) (hpn : p ≤ ns.length) (hop : (nd ns (hops ns k i)).op = 10) (hr : hops ns p (hops ns k i) = hops ns k i) : thru ns i = minK ns (hops ns k i) p := by
  have hX : hops ns ns.length i = hops ns (ns.length - k) (hops ns k i) := by rw [← hops_add, show k + (ns.length - k) = ns.length by omega]
  have hn : (nd ns (hops ns ns.length i)).op = 10 := by
    by_cases h : (nd ns (hops ns ns.length i)).op = 10
    · exact h
    · exfalso
      rw [hX] at h
      have hf := hops_fix (p - (ns.length - k) % p) h
      rw [← hops_add, ring_mod hr (ns.length - k + (p - (ns.length - k) % p))] at hf
      have hz : (ns.length - k + (p - (ns.length - k) % p)) % p = 0 := by
        have h1 := Nat.div_add_mod (ns.length - k) p
        have h2 := Nat.mod_lt (ns.length - k) hp
        rw [show ns.length - k + (p - (ns.length - k) % p) = p * ((ns.length - k) / p) + p by omega, Nat.mul_add_mod]
        exact Nat.mod_self p
      rw [hz] at hf
      rw [← hf] at h
      exact h hop
  unfold thru
  rw [if_pos hn, hX]
  exact minK_ring hp hr hpn
theorem thru_lt (hg : Hop ns) {i : Nat} (hi : i < ns.length) : thru ns i < ns.length := by
  unfold thru
  split
  · obtain ⟨t, _, h⟩ := minK_mem (ns := ns) (x := hops ns ns.length i) ns.length
    rw [h]; exact hops_lt hg _ (hops_lt hg _ hi)
  · exact hops_lt hg _ hi
end
section
variable {f : Nat → Option Nat}
theorem cardF_le : ∀ n, cardF f n ≤ n
  | 0 => Nat.le_refl _
  | n + 1 => by
    have := cardF_le n
    show cardF f n + _ ≤ n + 1
    split <;> omega
theorem cardF_out {k v : Nat} : ∀ {n : Nat}, n ≤ k → cardF (upd f k v) n = cardF f n
  | 0, _ => rfl
  | n + 1, h => by
    show cardF (upd f k v) n + _ = cardF f n + _
    rw [cardF_out (by omega)]
    have : upd f k v n = f n := by unfold upd; rw [if_neg (by omega)]
    rw [this]
theorem cardF_upd {k v : Nat} (hk : f k = none) : ∀ {n : Nat}, k < n → cardF (upd f k v) n = cardF f n + 1
  | n + 1, h => by
    show cardF (upd f k v) n + _ = cardF f n + _ + 1
    rcases Nat.lt_or_ge k n with h1 | h1
    · rw [cardF_upd hk h1]
      have : upd f k v n = f n := by unfold upd; rw [if_neg (by omega)]
      rw [this]; omega
    · have e : k = n := by omega
      subst e
      rw [cardF_out (Nat.le_refl _)]
      have : upd f k v k = some v := by unfold upd; rw [if_pos rfl]
      rw [this, hk]; rfl
theorem cardF_room {k : Nat} (hk : f k = none) {n : Nat} (hn : k < n) : cardF f n < n := by
  have h1 := cardF_upd (v := 0) hk hn
  have h2 := cardF_le (f := upd f k 0) n
  omega
theorem upd_at {k v : Nat} : upd f k v k = some v := by unfold upd; rw [if_pos rfl]
theorem upd_ne {k v j : Nat} (h : j ≠ k) : upd f k v j = f j := by unfold upd; rw [if_neg h]
theorem cardF_none : ∀ n, cardF (fun _ => none) n = 0
  | 0 => rfl
  | n + 1 => by show cardF (fun _ => none) n + 0 = 0; rw [cardF_none n]
end
end Go.Proofs.Ytncpehhfjkncoaa
