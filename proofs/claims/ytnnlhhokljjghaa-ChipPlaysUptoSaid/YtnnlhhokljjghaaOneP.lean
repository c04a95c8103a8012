/- One kind of call of both machines (printed by gen_one.py). Conditions: the machines lie in memory. -/
import Derived.Test.YtnnlhhokljjghaaSameM
set_option linter.unusedVariables false
set_option linter.unusedSimpArgs false
namespace Go.Proofs.Ytnnlhhokljjghaa
open Go.RowKit

/-- both machines in one state, whatever it is -/
def Pair (w : World) (loC loR p : Nat) (A : Option Addr) (c q rg : Nat) (A2 : Option Addr) (c2 : Nat) (l : List MInstD) : Prop :=
  ∃ sv wg regs pc base ws, Duo w loC loR p A c sv q rg wg A2 c2 l regs pc base ws regs pc base ws
/-- a row of bytes of one's own, whatever they are -/
def XRow (w : World) (A : Option Addr) (n B : Nat) : Prop := 0 < n → ∃ (g : Nat) (cur : Array Value), A = some ⟨g, 0, none⟩ ∧ B ≤ g ∧ Blk w g 5 cur ∧ ∀ t, t < n → ∃ y, cur[t]? = some (.int .u8 y)
theorem XRow.of_own {w : World} {B : Nat} {A : Option Addr} {n c : Nat} {xs : List Int} (h : w.ownsRow B 5 1 (.slice A n c) n (byteVals xs)) : XRow w A n B := fun hn => by
  obtain ⟨g, cap, hv, hb, _, _, _⟩ := own_form h hn
  injection hv with hA _ _
  subst hA
  rcases h.2 with ⟨_, h0⟩ | ⟨g', cap', cur, hv', _, hg, h1, h2, h3⟩
  · omega
  · injection hv' with hA _ _
    injection hA with hA
    injection hA with hA
    subst hA
    refine ⟨g, cur, rfl, hb, hg, fun t ht => ?_⟩
    have hr := (Reads.of_own h).2 hn
    obtain ⟨ad, e1, _, hc⟩ := hr
    injection e1 with e1
    subst e1
    have hl : (byteVals xs).length = n := by have := (Reads.of_own h).1; omega
    have hx : t < xs.length := by simpa [byteVals] using (by omega : t < (byteVals xs).length)
    have := hc t (.int .u8 xs[t]) (by rw [byteVals, List.getElem?_map, List.getElem?_eq_getElem hx]; rfl)
    rw [addr_at, Nat.zero_add] at this
    rw [show w.cell? ⟨g, t, none⟩ = cur[t]? from (show Blk w g 5 cur from hg).cell t] at this
    exact ⟨_, this⟩
theorem XRow.set {w : World} {B g n t : Nat} {cur : Array Value} (hb : B ≤ g) (hB : Blk w g 5 cur) (hc : ∀ t, t < n → ∃ y, cur[t]? = some (.int .u8 y)) (y : Int) : XRow (w.setCell ⟨g, t, none⟩ (.int .u8 y)) (some ⟨g, 0, none⟩) n B := fun _ => by
  refine ⟨g, cur.setIfInBounds t (.int .u8 y), rfl, hb, hB.set_ t _, fun s hs => ?_⟩
  obtain ⟨z, hz⟩ := hc s hs
  by_cases e : t = s
  · subst e
    have : t < cur.size := (Array.getElem?_eq_some_iff.1 hz).1
    exact ⟨y, by simp [Array.getElem?_setIfInBounds, this]⟩
  · exact ⟨z, by simp [Array.getElem?_setIfInBounds, e, hz]⟩
/-- the blocks of a row -/
def BlkOf (A : Option Addr) : Nat → Prop := fun i => ∃ ad, A = some ad ∧ i = ad.block
section
variable {w w' : World} {loC loR p : Nat} {A : Option Addr} {c : Nat} {sv : Value} {q rg wg : Nat} {A2 : Option Addr} {c2 : Nat} {l : List MInstD} {regs : List Int} {pc base : Int} {ws regs2 : List Int} {pc2 base2 : Int} {ws2 : List Int}
/-- another row is overwritten -/
theorem Duo.keepG (h : Duo w loC loR p A c sv q rg wg A2 c2 l regs pc base ws regs2 pc2 base2 ws2) {Ax : Option Addr} (hk : Keeps (BlkOf Ax) w w') (hg : ∀ g, BlkOf Ax g → loR ≤ g ∧ (∃ cur, Blk w g 5 cur) ∧ sv.ownBlock ≠ some g) :
    Duo w' loC loR p A c sv q rg wg A2 c2 l regs pc base ws regs2 pc2 base2 ws2 ∧ Below loC w w' := by
  have hlo := h.lo
  have hpl := h.pl
  have hS : ∀ i, BlkOf Ax i → loR ≤ i := fun i hi => (hg i hi).1
  refine ⟨⟨h.chip.keep hk (fun e => by have := hS _ e; omega) (fun k h1 h2 => (hg k h2).2.2 h1), h.code.keep hk (by omega) (fun i hi => by have := hS i hi; omega), h.ref.keep hk ?_ ?_ ?_, h.rcode.keep hk (by omega) hS, hk.own h.row (fun k h1 h2 => ?_), hpl⟩, hk.toBelow (by omega) (fun i hi => by have := hS i hi; omega)⟩
  · intro e
    obtain ⟨_, ⟨cur, hB⟩, _⟩ := hg _ e
    exact hB.ne_ h.ref.blk (by decide) rfl
  · intro e
    obtain ⟨_, ⟨cur, hB⟩, _⟩ := hg _ e
    exact hB.ne_ h.ref.rblk (by decide) rfl
  · intro e
    obtain ⟨_, ⟨cur, hB⟩, _⟩ := hg _ e
    exact hB.ne_ h.ref.wblk (by decide) rfl
  · obtain ⟨_, ⟨cur, hB⟩, _⟩ := hg _ h2
    exact own_blk_ne h.row hB (by decide) h1
theorem RefAt.setBase {cv : Value} {lo : Nat} (h : RefAt w lo q rg wg cv regs pc base ws) {b' : Int} (hb : 8 ≤ b' ∧ b' ≤ 281474976710656 ∧ b' % 8 = 0) : RefAt (w.setCell ⟨q, 3, none⟩ (.int .u64 b')) lo q rg wg cv regs pc b' ws := by
  obtain ⟨n1, n2, n3⟩ := h.ne
  refine ⟨?_, h.rblk.far (p := ⟨q, 3, none⟩) (Ne.symm n1) _, h.wblk.far (p := ⟨q, 3, none⟩) (Ne.symm n2) _, h.low, h.ne, h.len, h.u64, h.pcI, h.wok, ⟨hb.1, hb.2.1, hb.2.2, h.fit.2.2.2⟩⟩
  have := h.blk.set_ 3 (.int .u64 b')
  simpa using this
theorem RefAt.setWords {cv : Value} {lo g : Nat} {ws' : List Int} (h : RefAt w lo q rg wg cv regs pc base ws) (hB : Blk w g 39 (ws'.map (Value.int .u64)).toArray) (hg : lo ≤ g) (hne : rg ≠ g) (hw : ∀ x ∈ ws', U64 x) (h8 : 8 * ws'.length ≤ 65536) : RefAt (w.setCell ⟨q, 4, none⟩ (.slice (some ⟨g, 0, none⟩) ws'.length ws'.length)) lo q rg g cv regs pc base ws' := by
  obtain ⟨n1, n2, n3⟩ := h.ne
  have hqg : q ≠ g := h.blk.ne_ hB (by decide)
  refine ⟨?_, h.rblk.far (p := ⟨q, 4, none⟩) (Ne.symm n1) _, hB.far (p := ⟨q, 4, none⟩) (Ne.symm hqg) _, ⟨h.low.1, h.low.2.1, hg⟩, ⟨n1, hqg, hne⟩, h.len, h.u64, h.pcI, hw, ⟨h.fit.1, h.fit.2.1, h.fit.2.2.1, h8⟩⟩
  have := h.blk.set_ 4 (.slice (some ⟨g, 0, none⟩) ws'.length ws'.length)
  simpa using this
end
end Go.Proofs.Ytnnlhhokljjghaa
