/- Nodes laid in a line, plainly: what is behind jumps, and the line itself. No condition. What the operations of a word make, in plain numbers: the function doV (the word) and doE (the error). No condition. A run of graphs, plainly, as the document has it (bound): frames, panics, deferred calls. No condition. A map of the call's own from numbers to numbers, as a function. No condition. Things of a call's own that lie apart in memory (rows, blocks, maps): a change of one leaves the rest. No condition. -/
import Derived.Test.YtncpehhfjkncoaaPlAB
import Derived.RowKit
import Derived.Laws.BitsAllLaws
import Derived.Laws.Bits64
import Derived.Maps.OwnOps
import Derived.Maps.OwnSet
import Derived.Maps.Views
set_option linter.unusedVariables false
set_option linter.unusedSimpArgs false
set_option maxRecDepth 100000
set_option maxHeartbeats 16000000
namespace Go.Proofs.Ytncpehhfjkncoaa

def nodeZ : NodeD := ⟨0, 0, 0, 0, 0, 0, 0, 0, 0, [], 0, 0⟩
def nd (ns : List NodeD) (i : Nat) : NodeD := ns.getD i nodeZ
def hop (ns : List NodeD) (i : Nat) : Nat := if (nd ns i).op = 10 then (nd ns i).next.toNat else i
def hops (ns : List NodeD) : Nat -> Nat -> Nat
 | 0, i => i
 | k + 1, i => hops ns k (hop ns i)
def minK (ns : List NodeD) (x : Nat) : Nat -> Nat
 | 0 => x
 | m + 1 => min (minK ns x m) (hops ns m x)
def thru (ns : List NodeD) (i : Nat) : Nat := if (nd ns (hops ns ns.length i)).op = 10 then minK ns (hops ns ns.length i) ns.length else hops ns ns.length i
def upd (f : Nat -> Option Nat) (k v : Nat) : Nat -> Option Nat := fun j => if j = k then some v else f j
def cardF (f : Nat -> Option Nat) : Nat -> Nat
 | 0 => 0
 | n + 1 => cardF f n + if (f n).isSome then 1 else 0
structure LS where
 at_ : Nat -> Option Nat
 out : List NodeD
 todo : List Nat
def nopD (i : Nat) : NodeD := ⟨10, 0, 0, 0, 0, 0, 0, 0, 0, [], i, 0⟩
def turned (ns : List NodeD) (x : NodeD) : NodeD := if x.op = 9 then { x with els := (thru ns x.els.toNat : Nat) } else x
def runF (ns : List NodeD) : Nat -> LS -> Nat -> LS
 | 0, s, _ => s
 | fuel + 1, s, i =>
  match s.at_ i with
  | some _ => s
  | none =>
   if (nd ns i).op = 10 then ⟨upd s.at_ i s.out.length, s.out ++ [{ nd ns i with next := i }], s.todo⟩
   else if nextL (nd ns i) = [] then ⟨upd s.at_ i s.out.length, s.out ++ [turned ns (nd ns i)], s.todo⟩
   else
    runF ns fuel ⟨upd s.at_ i s.out.length,
     (s.out ++ [turned ns (nd ns i)]) ++ (if (upd s.at_ i s.out.length (thru ns (nd ns i).next.toNat)).isSome then [nopD (thru ns (nd ns i).next.toNat)] else []),
     if (nd ns i).op = 9 then s.todo ++ [thru ns (nd ns i).els.toNat] else s.todo⟩ (thru ns (nd ns i).next.toNat)
def workF (ns : List NodeD) : Nat -> LS -> LS
 | 0, s => s
 | f + 1, s => match s.todo with
  | [] => s
  | i :: r => workF ns f (runF ns (ns.length + 1) ⟨s.at_, s.out, r⟩ i)
def fixN (at_ : Nat -> Option Nat) (k : Nat) (x : NodeD) : NodeD :=
 let y : NodeD := if x.op = 10 then { x with next := ((at_ x.next.toNat).getD 0 : Nat) } else if nextL x = [] then x else { x with next := k + 1 }
 if x.op = 9 then { y with els := ((at_ x.els.toNat).getD 0 : Nat) } else y
def lineS (ns : List NodeD) (entry : Nat) : LS := workF ns (ns.length + 2) ⟨fun _ => none, [], [thru ns entry]⟩
def lineN (ns : List NodeD) (entry : Nat) : List NodeD := (lineS ns entry).out.mapIdx (fixN (lineS ns entry).at_)
def lineG (g : GraphD) : GraphD := { g with nodes := lineN g.nodes g.entry.toNat, entry := 0 }

/-- jumps lead to nodes -/
def Hop (ns : List NodeD) : Prop := ∀ x ∈ ns, x.op = 10 -> 0 <= x.next /\ x.next < ns.length
section
variable {ns : List NodeD}
theorem nd_mem {i : Nat} (h : i < ns.length) : nd ns i ∈ ns := by unfold nd; rw [List.getD_eq_getElem?_getD, List.getElem?_eq_getElem h]; exact List.getElem_mem h
theorem nd_get {i : Nat} (h : i < ns.length) : ns[i]? = some (nd ns i) := by unfold nd; rw [List.getD_eq_getElem?_getD, List.getElem?_eq_getElem h]; rfl
theorem hop_lt (hg : Hop ns) {i : Nat} (hi : i < ns.length) : hop ns i < ns.length := by
 unfold hop
 split
 ·rename_i h
  have := hg _ (nd_mem hi) h
  omega
 ·exact hi
theorem hops_lt (hg : Hop ns) : ∀ (k : Nat) {i : Nat}, i < ns.length -> hops ns k i < ns.length
 | 0, _, h => h
 | k + 1, _, h => hops_lt hg k (hop_lt hg h)
theorem hops_add : ∀ (a b i : Nat), hops ns (a + b) i = hops ns b (hops ns a i)
 | 0, b, i => by rw [Nat.zero_add]; rfl
 | a + 1, b, i => by rw [show a + 1 + b = (a + b) + 1 by omega]; exact hops_add a b (hop ns i)
theorem hops_succ (k i : Nat) : hops ns (k + 1) i = hop ns (hops ns k i) := by rw [hops_add k 1 i]; rfl
theorem hop_fix {i : Nat} (h : (nd ns i).op ≠ 10) : hop ns i = i := by unfold hop; rw [if_neg h]
theorem hop_nop {i : Nat} (h : (nd ns i).op = 10) : hop ns i = (nd ns i).next.toNat := by unfold hop; rw [if_pos h]
theorem hops_fix : ∀ (k : Nat) {i : Nat}, (nd ns i).op ≠ 10 -> hops ns k i = i
 | 0, _, _ => rfl
 | k + 1, i, h => by
  show hops ns k (hop ns i) = i;rw [hop_fix h]; exact hops_fix k h
theorem thru_stop {i k : Nat} (hk : k <= ns.length) (h : (nd ns (hops ns k i)).op ≠ 10) : thru ns i = hops ns k i := by
 have he : hops ns ns.length i = hops ns k i := by
  rw [show ns.length = k + (ns.length - k) by omega, hops_add];exact hops_fix _ h
 unfold thru;rw [he, if_neg h]
theorem minK_le {x : Nat} : ∀ {m t : Nat}, t < m -> minK ns x m <= hops ns t x
 | m + 1, t, h => by
  show min _ _ <= _
  rcases Nat.lt_or_ge t m with h1 | h1
  ·have := minK_le (x := x) h1; omega
  ·have : t = m := by omega
   subst this; omega
theorem minK_mem {x : Nat} : ∀ m : Nat, ∃ t, t <= m /\ minK ns x m = hops ns t x
 | 0 => ⟨0, Nat.le_refl _, rfl⟩
 | m + 1 => by
  obtain ⟨t, h1, h2⟩ := minK_mem (x := x) m;show ∃ t, t <= m + 1 /\ min _ _ = _
  rcases Nat.le_total (minK ns x m) (hops ns m x) with h | h
  ·exact ⟨t, by omega, by omega⟩
  ·exact ⟨m, by omega, by omega⟩
theorem ring_mod {x p : Nat} (hr : hops ns p x = x) (t : Nat) : hops ns t x = hops ns (t % p) x := by
 have h : ∀ q r, hops ns (p * q + r) x = hops ns r x := by
  intro q
  induction q with
  | zero => intro r; rw [Nat.mul_zero, Nat.zero_add]
  | succ q ih =>
   intro r;rw [show p * (q + 1) + r = p + (p * q + r) by rw [Nat.mul_succ]; omega, hops_add, hr];exact ih r
 have := h (t / p) (t % p)
 rwa [Nat.div_add_mod] at this
theorem minK_ring {x p s n : Nat} (hp : 0 < p) (hr : hops ns p x = x) (hn : p <= n) : minK ns (hops ns s x) n = minK ns x p := by
 have hle : ∀ t, minK ns x p <= hops ns t x := fun t => by
  rw [ring_mod hr t]; exact minK_le (Nat.mod_lt _ hp)
 have hr' : hops ns p (hops ns s x) = hops ns s x := by
  rw [<- hops_add, show s + p = p + s by omega, hops_add, hr]
 have hle' : ∀ t, minK ns (hops ns s x) n <= hops ns t (hops ns s x) := fun t => by
  rw [ring_mod hr' t]; exact minK_le (Nat.lt_of_lt_of_le (Nat.mod_lt _ hp) hn)
 obtain ⟨t, _, ht⟩ := minK_mem (ns := ns) (x := hops ns s x) n;obtain ⟨u, _, hu⟩ := minK_mem (ns := ns) (x := x) p
 have h1 : minK ns x p <= minK ns (hops ns s x) n := by rw [ht, <- hops_add]; exact hle _
 have h2 : minK ns (hops ns s x) n <= minK ns x p := by
  -- x's u-th is reached out of its s-th
  have hx : ∃ v, hops ns v (hops ns s x) = hops ns u x := by
   refine ⟨(p - s % p) + u, ?_⟩;rw [ring_mod hr s, <- hops_add, show s % p + ((p - s % p) + u) = p + u by have := Nat.mod_lt s hp; omega, hops_add, hr]
  obtain ⟨v, hv⟩ := hx;rw [hu, <- hv]; exact hle' v
 omega
theorem thru_ring {i k p : Nat} (hp : 0 < p) (hk : k <= ns.length) (hpn : p <= ns.length) (hop : (nd ns (hops ns k i)).op = 10) (hr : hops ns p (hops ns k i) = hops ns k i) : thru ns i = minK ns (hops ns k i) p := by
 have hX : hops ns ns.length i = hops ns (ns.length - k) (hops ns k i) := by rw [<- hops_add, show k + (ns.length - k) = ns.length by omega]
 have hn : (nd ns (hops ns ns.length i)).op = 10 := by
  by_cases h : (nd ns (hops ns ns.length i)).op = 10
  ·exact h
  ·exfalso
   rw [hX] at h;have hf := hops_fix (p - (ns.length - k) % p) h;rw [<- hops_add, ring_mod hr (ns.length - k + (p - (ns.length - k) % p))] at hf
   have hz : (ns.length - k + (p - (ns.length - k) % p)) % p = 0 := by
    have h1 := Nat.div_add_mod (ns.length - k) p;have h2 := Nat.mod_lt (ns.length - k) hp;rw [show ns.length - k + (p - (ns.length - k) % p) = p * ((ns.length - k) / p) + p by omega, Nat.mul_add_mod];exact Nat.mod_self p
   rw [hz] at hf;rw [<- hf] at h;exact h hop
 unfold thru;rw [if_pos hn, hX];exact minK_ring hp hr hpn
theorem thru_lt (hg : Hop ns) {i : Nat} (hi : i < ns.length) : thru ns i < ns.length := by
 unfold thru
 split
 ·obtain ⟨t, _, h⟩ := minK_mem (ns := ns) (x := hops ns ns.length i) ns.length;rw [h]; exact hops_lt hg _ (hops_lt hg _ hi)
 ·exact hops_lt hg _ hi
end
section
variable {f : Nat -> Option Nat}
theorem cardF_le : ∀ n, cardF f n <= n
 | 0 => Nat.le_refl _
 | n + 1 => by
  have := cardF_le n;show cardF f n + _ <= n + 1
  split <;> omega
theorem cardF_out {k v : Nat} : ∀ {n : Nat}, n <= k -> cardF (upd f k v) n = cardF f n
 | 0, _ => rfl
 | n + 1, h => by
  show cardF (upd f k v) n + _ = cardF f n + _;rw [cardF_out (by omega)]
  have : upd f k v n = f n := by unfold upd; rw [if_neg (by omega)]
  rw [this]
theorem cardF_upd {k v : Nat} (hk : f k = none) : ∀ {n : Nat}, k < n -> cardF (upd f k v) n = cardF f n + 1
 | n + 1, h => by
  show cardF (upd f k v) n + _ = cardF f n + _ + 1
  rcases Nat.lt_or_ge k n with h1 | h1
  ·rw [cardF_upd hk h1]
   have : upd f k v n = f n := by unfold upd; rw [if_neg (by omega)]
   rw [this]; omega
  ·have e : k = n := by omega
   subst e;rw [cardF_out (Nat.le_refl _)]
   have : upd f k v k = some v := by unfold upd; rw [if_pos rfl]
   rw [this, hk]; rfl
theorem cardF_room {k : Nat} (hk : f k = none) {n : Nat} (hn : k < n) : cardF f n < n := by
 have h1 := cardF_upd (v := 0) hk hn;have h2 := cardF_le (f := upd f k 0) n
 omega
theorem upd_at {k v : Nat} : upd f k v k = some v := by unfold upd; rw [if_pos rfl]
theorem upd_ne {k v j : Nat} (h : j ≠ k) : upd f k v j = f j := by unfold upd; rw [if_neg h]
theorem cardF_none : ∀ n, cardF (fun _ => none) n = 0
 | 0 => rfl
 | n + 1 => by show cardF (fun _ => none) n + 0 = 0; rw [cardF_none n]
end
end Go.Proofs.Ytncpehhfjkncoaa
namespace Go.Proofs.Ytncpehhfjkncoaa
open Go.RowKit

/-- a word of 64 bits -/
def U64 (a : Int) : Prop := 0 <= a /\ a < 18446744073709551616

/-- what an operation makes -/
def doV (op a b : Int) : Int :=
 if op = 7 then IntKind.u64.wrap (a + b)
 else if op = 8 then IntKind.u64.wrap (a - b)
 else if op = 9 then IntKind.u64.wrap (a * b)
 else if op = 10 then if b = 0 then 0 else IntKind.u64.wrap (wrap64 ((wrap64 a).tdiv (wrap64 b)))
 else if op = 11 then if b = 0 then 0 else IntKind.u64.wrap ((wrap64 a).tmod (wrap64 b))
 else if op = 12 then ((a.toNat &&& b.toNat : Nat) : Int)
 else if op = 13 then ((a.toNat ||| b.toNat : Nat) : Int)
 else if op = 14 then ((a.toNat ^^^ b.toNat : Nat) : Int)
 else if op = 15 then IntKind.u64.wrap (a * 2 ^ min b.toNat 64)
 else if op = 16 then a / 2 ^ min b.toNat 64
 else if op = 17 then IntKind.u64.wrap (wrap64 a / 2 ^ min b.toNat 63)
 else if op = 18 then if a = b then 1 else 0
 else if op = 19 then if wrap64 a < wrap64 b then 1 else 0
 else if op = 20 then if a < b then 1 else 0
 else 0
/-- the error -/
def doE (op b : Int) : Int :=
 if 7 <= op /\ op <= 20 then if (op = 10 ∨ op = 11) /\ b = 0 then 10 else 0 else 2
/-- bytes as a number, the lowest first -/
def leV : List Int -> Int
 | [] => 0
 | x :: r => x + 256 * leV r
/-- the byte at a place of a number; its first k bytes -/
def byteAt (v : Int) (i : Nat) : Int := v / 256 ^ i % 256
def bytesLE (k : Nat) (v : Int) : List Int := (List.range k).map (byteAt v)
end Go.Proofs.Ytncpehhfjkncoaa
namespace Go.Proofs.Ytncpehhfjkncoaa

/-- a graph at work -/
structure FrD where
 f : Int
 at_ : Int
 why : Int
 places : List Int
 cells : List Int
 waits : List (Int × List Int)
 ends : Bool
 ret : Int
 kept : List Int
/-- a run as it stands; the last frame first -/
structure RunD where
 regs : List Int
 row : List FrD
 list : List (Int × Bool)
 tape : List Int
 events : List (Int × Int)
 endK : Int
 endV : Int
 steps : Int
 depth : Int
 defers : Int
 panics : Int
def frZ : FrD := ⟨0, 0, 0, [], [], [], false, 0, []⟩
def gZ : GraphD := ⟨[], [], 0, [], false, -1, [], 0⟩
def gAt (gs : List GraphD) (f : Int) : GraphD := gs.getD f.toNat gZ
def nodeAt (gs : List GraphD) (x : FrD) : NodeD := (gAt gs x.f).nodes.getD x.at_.toNat nodeZ
def RunD.top (R : RunD) : FrD := R.row.headD frZ
def RunD.setTop (R : RunD) (x : FrD) : RunD := { R with row := x :: R.row.tail }
def RunD.get (R : RunD) (p : Int) : Int := if p < 16 then R.regs.getD p.toNat 0 else R.top.places.getD p.toNat 0
def RunD.set (R : RunD) (p v : Int) : RunD := if p < 0 then R else if p < 16 then { R with regs := R.regs.set p.toNat v } else R.setTop { R.top with places := R.top.places.set p.toNat v }
def RunD.par (R : RunD) (g : GraphD) (args : List Int) : Nat -> RunD
 | 0 => R
 | k + 1 =>
  let R1 := (R.par g args k).set (g.params.getD k 0) (args.getD k 0)
  if 0 <= g.init.getD k 0 then R1.setTop { R1.top with cells := R1.top.cells.set (g.init.getD k 0).toNat (args.getD k 0) } else R1
def frNew (g : GraphD) (f why : Int) : FrD := ⟨f, g.entry, why, List.replicate g.kinds.length 0, List.replicate g.cells.toNat 0, [], false, 0, []⟩
def RunD.push (gs : List GraphD) (R : RunD) (f : Int) (args : List Int) (why : Int) : RunD :=
 ({ R with row := frNew (gAt gs f) f why :: R.row, depth := max R.depth (R.row.length + 1) } : RunD).par (gAt gs f) args (gAt gs f).params.length
def RunD.next (gs : List GraphD) (R : RunD) (why : Int) : Option RunD := match R.top.waits.getLast? with
 | none => none
 | some d => some ((R.setTop { R.top with waits := R.top.waits.dropLast }).push gs d.1 d.2 why)
def backRegs (kept : List Int) : List Int := (List.range 16).map fun i => if 6 <= i /\ i <= 11 then kept.getD i 0 else 6510615555426900570
def RunD.back (gs : List GraphD) (R : RunD) (v : Int) : RunD :=
 { R with row := { R.top with at_ := (nodeAt gs R.top).next } :: R.row.tail, regs := if (gAt gs (nodeAt gs R.top).f).result then (backRegs R.top.kept).set 0 v else backRegs R.top.kept }
def RunD.last (R : RunD) : Int × Bool := R.list.getLastD (0, false)
/-- the last frame is gone -/
def RunD.pop (R : RunD) : RunD := { R with row := R.row.tail }
def RunD.unwind (gs : List GraphD) : Nat -> RunD -> RunD
 | 0, R => R
 | n + 1, R => match R.next gs 2 with
  | some R' => R'
  | none =>
   let R2 := if R.top.why = 2 then { R.pop with list := R.list.dropLast.dropLast ++ [R.last] } else R.pop
   if R2.row.isEmpty then { R2 with endK := 2, endV := R2.last.1 } else RunD.unwind gs n R2
def keepOf (gs : List GraphD) (y : FrD) : Int := if 0 <= (gAt gs y.f).keep then y.cells.getD (gAt gs y.f).keep.toNat 0 else 0
def RunD.settle (gs : List GraphD) : Nat -> RunD -> RunD
 | 0, R => R
 | n + 1, R =>
  if R.endK = 0 /\ R.top.ends = true then
   match R.next gs 1 with
   | some R' => R'
   | none =>
    if R.pop.row.isEmpty then { R.pop with endK := 1, endV := 0 }
    else if R.top.why = 0 then RunD.settle gs n (R.pop.back gs R.top.ret)
    else if R.top.why = 2 then
     if R.last.2 = false then RunD.unwind gs R.pop.row.length R.pop
     else RunD.settle gs n ({ R.pop with list := R.list.dropLast }.setTop { R.pop.top with ends := true, ret := keepOf gs R.pop.top })
    else RunD.settle gs n R.pop
  else R
def RunD.begin (gs : List GraphD) (R : RunD) (v : Int) : RunD :=
 RunD.unwind gs R.row.length { R with list := R.list ++ [(v, false)], panics := max R.panics (R.list.length + 1) }
def RunD.waiting (R : RunD) : Nat := (R.row.map fun x => x.waits.length).sum
/-- the frame (its place in the list) and the cell that a word names -/
def RunD.point (R : RunD) (p : Int) : Option (Nat × Nat) :=
 if p < 4611686018427387904 ∨ 4611967493404098560 <= p then none
 else
  let f := ((p - 4611686018427387904) / 65536).toNat
  let c := (p % 65536).toNat
  if R.row.length <= f then none
  else if (R.row.getD (R.row.length - 1 - f) frZ).cells.length <= c then none
  else some (R.row.length - 1 - f, c)
def RunD.args (R : RunD) (n : NodeD) : List Int := n.args.map R.get
def RunD.goOn (R : RunD) (t : Int) : RunD := R.setTop { R.top with at_ := t }
def RunD.setCell (R : RunD) (i c : Nat) (v : Int) : RunD := { R with row := R.row.modify i fun x => { x with cells := x.cells.set c v } }
/-- one node -/
def RunD.step (gs : List GraphD) (R0 : RunD) : RunD :=
 let R : RunD := { R0 with steps := R0.steps + 1 }
 let n := nodeAt gs R.top
 if n.op = 1 then (R.set n.d n.imm).goOn n.next
 else if n.op = 2 then (R.set n.d (R.get n.a)).goOn n.next
 else if n.op = 3 then
  if doE n.byo (R.get n.b) = 0 then (R.set n.d (doV n.byo (R.get n.a) (R.get n.b))).goOn n.next else R.begin gs 18446744073709551615
 else if n.op = 4 then (R.set n.d (R.top.cells.getD n.cell.toNat 0)).goOn n.next
 else if n.op = 5 then (R.setTop { R.top with cells := R.top.cells.set n.cell.toNat (R.get n.a) }).goOn n.next
 else if n.op = 6 then (R.set n.d (4611686018427387904 + ((R.row.length : Int) - 1) * 65536 + n.cell)).goOn n.next
 else if n.op = 7 then match R.point (R.get n.a) with
  | none => R.begin gs 18446744073709551614
  | some (i, c) => (R.set n.d ((R.row.getD i frZ).cells.getD c 0)).goOn n.next
 else if n.op = 8 then match R.point (R.get n.a) with
  | none => R.begin gs 18446744073709551614
  | some (i, c) => (R.setCell i c (R.get n.b)).goOn n.next
 else if n.op = 9 then R.goOn (if R.get n.a = 0 then n.els else n.next)
 else if n.op = 10 then R.goOn n.next
 else if n.op = 11 then (R.setTop { R.top with kept := R.regs }).push gs n.f (R.args n) 0
 else if n.op = 12 then ((if 0 <= n.a then R.setTop { R.top with ret := R.get n.a, ends := true } else R.setTop { R.top with ends := true })).settle gs R.row.length
 else if n.op = 13 then
  let R1 := R.setTop { R.top with waits := R.top.waits ++ [(n.f, R.args n)] }
  ({ R1 with defers := max R1.defers R1.waiting } : RunD).goOn n.next
 else if n.op = 14 then R.begin gs (R.get n.a)
 else if n.op = 15 then
  if R.top.why = 2 /\ R.last.2 = false then ((({ R with list := R.list.dropLast ++ [(R.last.1, true)] } : RunD).set n.d R.last.1).set n.e 1).goOn n.next
  else ((R.set n.d 0).set n.e 0).goOn n.next
 else if n.op = 16 then (({ R with tape := R.tape.tail, events := R.events ++ [(2, R.tape.headD 0)] } : RunD).set n.d (R.tape.headD 0)).goOn n.next
 else if n.op = 17 then ({ R with events := R.events ++ [(1, R.get n.a)] } : RunD).goOn n.next
 else { R with endK := 1, endV := R.get n.a }
/-- a whole run -/
def RunD.go (gs : List GraphD) : Nat -> RunD -> RunD
 | 0, R => if R.endK = 0 then { R with endK := 3 } else R
 | n + 1, R => if R.endK = 0 then RunD.go gs n (R.step gs) else R
def runZ (tape : List Int) : RunD := ⟨List.replicate 16 0, [], [], tape, [], 0, 0, 0, 0, 0, 0⟩
def allR (gs : List GraphD) (tape : List Int) (fuel : Nat) : RunD := RunD.go gs fuel ((runZ tape).push gs 0 [] 0)
end Go.Proofs.Ytncpehhfjkncoaa
namespace Go.Proofs.Ytncpehhfjkncoaa
open Go.RowKit Go.Maps

theorem keysI : Keyed Try.prog 3 := int_keyed Try.underlying3
theorem zeroI (w : World) : (zeroValue 3).run Try.prog w = .ok (.int .i64 0) w := by kernel_rfl
theorem wfI (k : Nat) (hk : k < 9223372036854775808) : (Lit.int .i64 (k : Int)).wf = true := by
 simp [Lit.wf, IntKind.min, IntKind.max, IntKind.bits, IntKind.signed]; omega
theorem lit_inj {a b : Int} (h : (DataW.lit (.int .i64 a) : DataW Unit) = .lit (.int .i64 b)) : a = b := by
 simpa using h
theorem keyI (k : Nat) (hk : k < 9223372036854775808) : keyOf Try.prog 3 (.int .i64 k) = some (.int .i64 k) := keyOf_int_mk Try.underlying3 (wfI k hk)
/-- block b is a map of at most n entries that answers as f does -/
def IMap (w : World) (b n : Nat) (f : Nat -> Option Nat) : Prop :=
 ∃ D : DataW Unit, w.ownsMap Try.prog 3 (plainElem Try.prog 3) b n D /\
  (∀ k : Nat, (∀ v, f k = some v -> Maps.has D (.int .i64 k) = true /\ ∀ z, D.atKey (.int .i64 k) z = .lit (.int .i64 v)) /\ (f k = none -> Maps.has D (.int .i64 k) = false)) /\ ∀ kl, Maps.has D kl = true -> ∃ k : Nat, kl = .int .i64 k
section
variable {w w' : World} {b n : Nat} {f : Nat -> Option Nat}
theorem IMap.made (w : World) : IMap (w.alloc (.map #[] 0)) w.heap.size 0 (fun _ => none) :=
 ⟨_, World.ownsMap_made w Try.prog _ _, fun k => ⟨nofun, fun _ => rfl⟩, fun kl h => by cases h⟩
theorem IMap.lt (h : IMap w b n f) : b < w.heap.size := by
 obtain ⟨D, h, _⟩ := h;exact h.lt
theorem IMap.kept {row : Option Nat} (h : IMap w b n f) (hg : w.grownBy w' row) (hne : some b ≠ row) : IMap w' b n f := by
 obtain ⟨D, h1, h2⟩ := h;exact ⟨D, h1.kept hg hne, h2⟩
theorem IMap.alloc (h : IMap w b n f) (o : Obj) : IMap (w.alloc o) b n f := h.kept (World.grownBy_alloc w o none) nofun
theorem IMap.drew (h : IMap w b n f) : IMap w.drew b n f := h
theorem IMap.mono (h : IMap w b n f) {n' : Nat} (hn : n <= n') : IMap w b n' f := by
 obtain ⟨D, h1, h2⟩ := h;exact ⟨D, h1.mono hn, h2⟩
theorem IMap.set (h : IMap w b n f) {p : Addr} (hp : b ≠ p.block) (u : Value) : IMap (w.setCell p u) b n f :=
 h.kept (row := some p.block) ⟨rfl, rfl, rfl, by simp [World.setCell], fun k _ hk => Below.heap_setCell w p u k (fun e => hk (by rw [e]))⟩ (fun e => hp (Option.some.inj e))
theorem IMap.below {B : Nat} (h : IMap w b n f) (hb : Below B w w') (hg : b < B) : IMap w' b n f := by
 obtain ⟨D, ⟨es, clock, hh, h1⟩, h2⟩ := h;exact ⟨D, ⟨es, clock, (hb.block b hg).trans hh, h1⟩, h2⟩
theorem IMap.ne_blk {g : Nat} {t : TypeId} {cs : Array Value} (h : IMap w b n f) (hg : Blk w g t cs) : b ≠ g := by
 rintro rfl;obtain ⟨D, ⟨es, clock, hh, _⟩, _⟩ := h;unfold Blk at hg;rw [hh] at hg
 cases hg
theorem IMap.ne_row {base size m : Nat} {e : TypeId} {v : Value} {xs : List Value} (h : IMap w b n f) (hv : w.ownsRow base e size v m xs) : some b ≠ v.ownBlock := by
 rcases hv.2 with ⟨rfl, _⟩ | ⟨g', cap, cur, rfl, _, hh, _⟩
 ·nofun
 ·intro e
  have e' : b = g' := by simpa [Value.ownBlock] using e
  exact h.ne_blk (show Blk w g' _ _ from hh) e'
theorem IMap.look (h : IMap w b n f) (k : Nat) (hk : k < 9223372036854775808) : (Instr.lookup 70 (.map (some b)) (.int .i64 k) false).run Try.prog w = .ok (.int .i64 (((f k).getD 0 : Nat) : Int)) w := by
 obtain ⟨D, h1, h2, h3⟩ := h;obtain ⟨c, hrun, hat, _⟩ := h1.lookup_int keysI Try.underlying70 Try.underlying3 (zeroI w) (keyI k hk);rw [hrun]
 rcases hf : f k with _ | v
 ·rw [atKey_of_not_has ((h2 k).2 hf)] at hat;rw [<- lit_inj hat]; rfl
 ·rw [((h2 k).1 v hf).2] at hat;rw [<- lit_inj hat]; rfl
theorem IMap.look_ok (h : IMap w b n f) (k : Nat) (hk : k < 9223372036854775808) : (Instr.lookup 70 (.map (some b)) (.int .i64 k) true).run Try.prog w = .ok (.tuple #[.int .i64 (((f k).getD 0 : Nat) : Int), .bool (f k).isSome]) w := by
 obtain ⟨D, h1, h2, h3⟩ := h;obtain ⟨v, ps, hrun, hv⟩ := h1.look_ok keysI Try.underlying70 (zeroI w) (plainElem_int Try.underlying3 (by decide)) (keyI k hk);obtain ⟨c, rfl, hc, _⟩ := plainElem_int_inv Try.underlying3 hv;simp only [Prod.mk.injEq] at hc;have hat := hc.1;rw [hrun]
 rcases hf : f k with _ | u
 ·rw [atKey_of_not_has ((h2 k).2 hf)] at hat;rw [<- lit_inj hat, (h2 k).2 hf]; rfl
 ·rw [((h2 k).1 u hf).2] at hat;rw [<- lit_inj hat, ((h2 k).1 u hf).1]; rfl
theorem IMap.put (h : IMap w b n f) (k v : Nat) (hk : k < 9223372036854775808) (hv : v < 9223372036854775808) (hn : n < maxLen) :
  ∃ w', (Instr.mapUpdate 70 (.map (some b)) (.int .i64 k) (.int .i64 v)).run Try.prog w = .ok () w' /\ IMap w' b (n + 1) (upd f k v) /\ w.grownBy w' (some b) := by
 obtain ⟨D, h1, h2, h3⟩ := h;have hD := h1.isMap;obtain ⟨w', hrun, r1, r2⟩ := h1.update keysI Try.underlying70 hn (keyI k hk) (plainElem_int (a := (v : Int)) Try.underlying3 (wfI v hv))
 have hkey : WideAt.IsKeyLit (.int .i64 (k : Int)) := by first | trivial | simp [WideAt.IsKeyLit]
 refine ⟨w', hrun, ⟨_, r1, fun j => ?_, fun kl hkl => ?_⟩, r2⟩
 rotate_left
 ·by_cases hj : kl = .int .i64 (k : Int)
  ·exact ⟨k, hj⟩
  ·rw [has_put_other hj] at hkl;exact h3 kl hkl
 by_cases hj : j = k
 ·subst hj;rw [upd_at];refine ⟨fun u hu => ?_, nofun⟩;injection hu with hu;subst hu;exact ⟨has_put_same hD hkey _, fun z => atKey_put_same hD hkey _ z⟩
 ·have hne : (Lit.int .i64 (j : Int)) ≠ Lit.int .i64 (k : Int) := fun e => by
   injection e with _ e;exact hj (by omega)
  rw [upd_ne hj, has_put_other hne];refine ⟨fun u hu => ⟨((h2 j).1 u hu).1, fun z => ?_⟩, (h2 j).2⟩;rw [atKey_put_other hne];exact ((h2 j).1 u hu).2 z
end
/-- a store into the map, at the operation -/
theorem wpList_put (w : World) {ops : Array Oper} {rest : List Oper} {o : Oper} {a : Act} {Q : Exit -> Act -> World -> Prop}
  (hg : o.guard = none) (m x v : Operand) (hop : o.op = Op.mapUpdate 70 m x v) (b n : Nat) (f : Nat -> Option Nat)
  (hm : a.eval m = .map (some b)) (h : IMap w b n f) (hn : n < maxLen) (k u : Nat) (hk : k < 9223372036854775808) (hu : u < 9223372036854775808) (hx : a.eval x = .int .i64 k) (hv : a.eval v = .int .i64 u)
  (hK : ∀ w', IMap w' b (n + 1) (upd f k u) -> w.grownBy w' (some b) -> wpList Try.prog ops Q rest (a.put o.dst undef) w') : wpList Try.prog ops Q (o :: rest) a w := by
 refine wpList_plain hg fun K' hK' => ?_
 obtain ⟨w', hrun, r1, r2⟩ := h.put k u hk hu hn;unfold Oper.wp;simp [execOp, hop, hm, hx, hv, hrun, Result.andThen];exact hK' _ _ (hK w' r1 r2)
end Go.Proofs.Ytncpehhfjkncoaa
namespace Go.Proofs.Ytncpehhfjkncoaa
open Go.RowKit

theorem own_put_at {w : World} {M size n g j c : Nat} {e : TypeId} {u : Value} {xs : List Value} (h : w.ownsRow M e size (.slice (some ⟨g, 0, none⟩) n c) n xs) (hj : j < n * size) : (w.setCell ⟨g, j, none⟩ u).ownsRow M e size (.slice (some ⟨g, 0, none⟩) n c) n (xs.set j u) := by
 rcases h.2 with ⟨h0, _⟩ | ⟨g', cap, cur, hv, hb, hh, h1, h2, h3, h4⟩
 ·cases h0
 ·injection hv with hv1 _ hv3;injection hv1 with hv1;injection hv1 with hv1;subst hv1 hv3;have hset : (w.setCell ⟨g, j, none⟩ u).heap[g]? = some (.cells (cur.setIfInBounds j u) e (0, 0)) := Blk.set_ (show Blk w g e cur from hh) j u;refine ⟨by rw [List.length_set]; exact h.1, .inr ⟨g, c, _, rfl, hb, hset, h1, h2, by simpa using h3, ?_⟩⟩;rw [Array.toList_setIfInBounds, <- h4, List.take_set]

inductive It where
 | row (v : Value) (e : TypeId) (size n : Nat) (xs : List Value)
 | blk (g : Nat) (t : TypeId) (cs : Array Value)
 | map (b n : Nat) (f : Nat -> Option Nat)
def It.block : It -> Option Nat
 | .row v _ _ _ _ => v.ownBlock
 | .blk g _ _ => some g
 | .map b _ _ => some b
def It.At (w : World) (base : Nat) : It -> Prop
 | .row v e size n xs => w.ownsRow base e size v n xs
 | .blk g t cs => base <= g /\ Blk w g t cs
 | .map b n f => base <= b /\ IMap w b n f
section
variable {w w' : World} {base base' B : Nat} {x y : It} {row : Option Nat}
theorem It.At.lt (h : x.At w base) : ∀ b, x.block = some b -> base <= b /\ b < w.heap.size := by
 cases x with
 | row v e size n xs => exact fun b hb => World.ownsRow.lt h b hb
 | blk g t cs => intro b hb; injection hb with hb; subst hb; exact ⟨h.1, h.2.lt⟩
 | map b n f => intro c hb; injection hb with hb; subst hb; exact ⟨h.1, h.2.lt⟩
theorem It.At.kept (h : x.At w base) (hg : w.grownBy w' row) (hne : ∀ b, x.block = some b -> row ≠ some b) : x.At w' base := by
 cases x with
 | row v e size n xs =>
  refine World.ownsRow.kept h hg ?_
  rcases hv : v.ownBlock with _ | g
  ·exact .inl rfl
  ·exact .inr fun e => hne g hv e.symm
 | blk g t cs => exact ⟨h.1, h.2.grown hg fun e => hne g rfl e.symm⟩
 | map b n f => exact ⟨h.1, h.2.kept hg fun e => hne b rfl e.symm⟩
end
/-- all of them lie so, no two in one block -/
structure Items (w : World) (base : Nat) (l : List It) : Prop where
 each : ∀ x ∈ l, x.At w base
 apart : ∀ (i j : Nat) x y, i ≠ j -> l[i]? = some x -> l[j]? = some y -> ∀ b, x.block = some b -> y.block ≠ some b
section
variable {w w' : World} {base base' B i j : Nat} {x x' y : It} {l l' : List It} {row : Option Nat}
theorem Items.at_ (h : Items w base l) (hi : l[i]? = some x) : x.At w base := h.each x (List.mem_of_getElem? hi)
theorem Items.nil (w : World) (base : Nat) : Items w base [] := ⟨nofun, by intro i j x y _ h; simp at h⟩
theorem Items.kept (h : Items w base l) (hg : w.grownBy w' row) (hne : ∀ x ∈ l, ∀ b, x.block = some b -> row ≠ some b) : Items w' base l :=
 ⟨fun x hx => (h.each x hx).kept hg (hne x hx), h.apart⟩
theorem Items.keep (h : Items w base l) (hg : w.grownBy w' none) : Items w' base l := h.kept hg fun _ _ _ _ => nofun
theorem Items.below (h : Items w base l) (hb : Below w.heap.size w w') : Items w' base l := h.keep (only_of_below hb none)
theorem Items.alloc (h : Items w base l) (o : Obj) : Items (w.alloc o) base l := h.keep (World.grownBy_alloc w o none)
theorem Items.drew (h : Items w base l) : Items w.drew base l := h.keep (only_drew (World.grownBy.refl w none))
/-- one of them changes -/
theorem Items.change (h : Items w base l) (hi : l[i]? = some x) (hg : w.grownBy w' x.block) (hx : x'.At w' base) (hb : x'.block = x.block ∨ ∀ b, x'.block = some b -> w.heap.size <= b) : Items w' base (l.set i x') := by
 have hil := (List.getElem?_eq_some_iff.1 hi).1
 have key : ∀ (j : Nat) y, j ≠ i -> l[j]? = some y -> (∀ b, x'.block = some b -> y.block ≠ some b) := by
  intro j y hj hy b hxb hyb
  rcases hb with e | e
  ·rw [e] at hxb;exact h.apart i j x y (Ne.symm hj) hi hy b hxb hyb
  ·have h1 := e b hxb;have h2 := ((h.at_ hy).lt b hyb).2
   omega
 refine ⟨fun y hy => ?_, fun j k y z hjk hy hz b hyb => ?_⟩
 ·obtain ⟨j, hj, rfl⟩ := List.getElem_of_mem hy;rw [List.length_set] at hj
  by_cases hji : i = j
  ·subst hji
   simpa using hx
  ·rw [List.getElem_set_ne hji];have hy' : l[j]? = some l[j] := List.getElem?_eq_getElem hj
   refine (h.at_ hy').kept hg fun b hb' => ?_
   exact h.apart j i _ x (Ne.symm hji) hy' hi b hb'
 ·by_cases hji : j = i
  ·subst hji;rw [List.getElem?_set_self hil] at hy;injection hy with hy;subst hy;rw [List.getElem?_set_ne hjk] at hz;exact key k z (Ne.symm hjk) hz b hyb
  ·rw [List.getElem?_set_ne (Ne.symm hji)] at hy
   by_cases hki : k = i
   ·subst hki;rw [List.getElem?_set_self hil] at hz;injection hz with hz;subst hz
    exact fun hzb => key j y hji hy b hzb hyb
   ·rw [List.getElem?_set_ne (Ne.symm hki)] at hz;exact h.apart j k y z hjk hy hz b hyb
theorem Items.cons (h : Items w base l) (hx : x.At w base) (hb : ∀ b, x.block = some b -> ∀ y ∈ l, y.block ≠ some b) : Items w base (x :: l) := by
 refine ⟨fun y hy => ?_, fun i j y z hij hy hz b hyb => ?_⟩
 ·rcases List.mem_cons.1 hy with rfl | hy
  ·exact hx
  ·exact h.each y hy
 ·match i, j, hij, hy, hz with
  | 0, 0, hij, _, _ => exact absurd rfl hij
  | 0, j + 1, _, hy, hz =>
   simp at hy hz;subst hy;exact hb b hyb z (List.mem_of_getElem? hz)
  | i + 1, 0, _, hy, hz =>
   simp at hy hz;subst hz
   exact fun hzb => hb b hzb y (List.mem_of_getElem? hy) hyb
  | i + 1, j + 1, hij, hy, hz =>
   simp at hy hz;exact h.apart i j y z (by omega) hy hz b hyb
/-- a new one -/
theorem Items.new (h : Items w base l) (hg : w.grownBy w' none) (hx : x.At w' base) (hb : ∀ b, x.block = some b -> w.heap.size <= b) : Items w' base (x :: l) := by
 refine (h.keep hg).cons hx fun b hxb y hy hyb => ?_
 have h1 := hb b hxb;have h2 := ((h.each y hy).lt b hyb).2
 omega
theorem Items.tail (h : Items w base (x :: l)) : Items w base l :=
 ⟨fun y hy => h.each y (List.mem_cons_of_mem _ hy), fun i j y z hij hy hz => h.apart (i + 1) (j + 1) y z (by omega) (by simpa using hy) (by simpa using hz)⟩
theorem apart_iff {l : List It} : (∀ (i j : Nat) x y, i ≠ j -> l[i]? = some x -> l[j]? = some y -> ∀ b, x.block = some b -> y.block ≠ some b) ↔ l.Pairwise fun x y => ∀ b, x.block = some b -> y.block ≠ some b := by
 rw [List.pairwise_iff_getElem];refine ⟨fun h i j hi hj hij => h i j _ _ (by omega) (List.getElem?_eq_getElem hi) (List.getElem?_eq_getElem hj), fun h i j x y hij hx hy b hb => ?_⟩;obtain ⟨hi, rfl⟩ := List.getElem?_eq_some_iff.1 hx;obtain ⟨hj, rfl⟩ := List.getElem?_eq_some_iff.1 hy
 rcases Nat.lt_or_ge i j with h1 | h1
 ·exact h i j hi hj h1 b hb
 ·exact fun hb' => h j i hj hi (by omega) b hb' hb
theorem Items.perm (h : Items w base l) (hp : l.Perm l') : Items w base l' :=
 ⟨fun x hx => h.each x (hp.mem_iff.2 hx), apart_iff.2 ((hp.pairwise_iff fun {x y} hxy b hb hb' => hxy b hb' hb).1 (apart_iff.1 h.apart))⟩
theorem Items.sub (h : Items w base l) (hs : l'.Sublist l) : Items w base l' :=
 ⟨fun x hx => h.each x (hs.subset hx), apart_iff.2 ((apart_iff.1 h.apart).sublist hs)⟩
theorem Items.append (h : Items w base l) (h' : Items w base l') (hd : ∀ x ∈ l, ∀ y ∈ l', ∀ b, x.block = some b -> y.block ≠ some b) : Items w base (l ++ l') :=
 ⟨fun x hx => (List.mem_append.1 hx).elim (h.each x) (h'.each x), apart_iff.2 (List.pairwise_append.2 ⟨apart_iff.1 h.apart, apart_iff.1 h'.apart, hd⟩)⟩
/-- a block that is one of them -/
theorem Items.blk {g : Nat} {t : TypeId} {cs : Array Value} (h : Items w base l) (hi : l[i]? = some (.blk g t cs)) : Blk w g t cs := (h.at_ hi).2
theorem Items.own {v : Value} {e : TypeId} {size n : Nat} {xs : List Value} (h : Items w base l) (hi : l[i]? = some (.row v e size n xs)) : w.ownsRow base e size v n xs := h.at_ hi
/-- a store into one of the blocks -/
theorem Items.set_ {g : Nat} {t : TypeId} {cs : Array Value} (h : Items w base l) (hi : l[i]? = some (.blk g t cs)) (j : Nat) (u : Value) : Items (w.setCell ⟨g, j, none⟩ u) base (l.set i (.blk g t (cs.setIfInBounds j u))) :=
 h.change hi (grown_setCell w ⟨g, j, none⟩ u) ⟨(h.at_ hi).1, (h.blk hi).set_ j u⟩ (.inl rfl)
/-- a store into one of the rows -/
theorem Items.setRow {g n c size j : Nat} {e : TypeId} {xs : List Value} (h : Items w base l) (hi : l[i]? = some (.row (.slice (some ⟨g, 0, none⟩) n c) e size n xs)) (hj : j < n * size) (u : Value) : Items (w.setCell ⟨g, j, none⟩ u) base (l.set i (.row (.slice (some ⟨g, 0, none⟩) n c) e size n (xs.set j u))) :=
 h.change hi (grown_setCell w ⟨g, j, none⟩ u) (own_put_at (h.own hi) hj) (.inl rfl)
/-- one of the rows is appended to -/
theorem Items.push {v v' : Value} {e : TypeId} {size n n' : Nat} {xs xs' : List Value} (h : Items w base l) (hi : l[i]? = some (.row v e size n xs)) (ho : w'.ownsRow base e size v' n' xs') (hg : w.grownBy w' v.ownBlock) (hat : v'.ownBlock = v.ownBlock ∨ ∀ b, v'.ownBlock = some b -> w.heap.size <= b) : Items w' base (l.set i (.row v' e size n' xs')) :=
 h.change hi hg ho hat
/-- one of the maps gets an entry -/
theorem Items.put {b n n' : Nat} {f f' : Nat -> Option Nat} (h : Items w base l) (hi : l[i]? = some (.map b n f)) (hm : IMap w' b n' f') (hg : w.grownBy w' (some b)) : Items w' base (l.set i (.map b n' f')) :=
 h.change hi hg ⟨(h.at_ hi).1, hm⟩ (.inl rfl)
/-- a new block -/
theorem Items.newBlk (h : Items w base l) (hb : base <= w.heap.size) (t : TypeId) (cs : Array Value) : Items (w.alloc (.cells cs t)) base (.blk w.heap.size t cs :: l) :=
 h.new (World.grownBy_alloc w _ none) ⟨hb, Blk.new w t cs⟩ fun b e => by injection e with e; omega
/-- two of them do not lie in one block -/
theorem Items.ne {g g' : Nat} {t t' : TypeId} {cs cs' : Array Value} (h : Items w base l) (hi : l[i]? = some (.blk g t cs)) (hj : l[j]? = some (.blk g' t' cs')) (hij : i ≠ j) : g ≠ g' := fun e => by
 subst e;exact h.apart i j _ _ hij hi hj g rfl rfl
theorem Items.ne_row {g n size : Nat} {t e : TypeId} {cs : Array Value} {v : Value} {xs : List Value} (h : Items w base l) (hi : l[i]? = some (.blk g t cs)) (hj : l[j]? = some (.row v e size n xs)) (hij : i ≠ j) : some g ≠ v.ownBlock := fun e =>
 h.apart i j _ _ hij hi hj g rfl e.symm
end
end Go.Proofs.Ytncpehhfjkncoaa
