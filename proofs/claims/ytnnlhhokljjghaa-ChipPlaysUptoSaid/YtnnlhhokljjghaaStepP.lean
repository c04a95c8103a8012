/- The machine's code in memory; what a step leaves. Conditions: machine and code lie in memory. -/
import Derived.Test.YtnnlhhokljjghaaDecM
import Derived.Test.YtnnlhhokljjghaaChip4
set_option linter.unusedVariables false
set_option linter.unusedSimpArgs false
namespace Go.Proofs.Ytnnlhhokljjghaa
open Go.RowKit

/-- the machine's code -/
structure CodeM (w : World) (B : Nat) (A : Option Addr) (c : Nat) (l : List MInstD) : Prop where
  cap : l.length ≤ c
  fit : l.length ≤ 10000000000
  rd : Reads w B 5 A l.length (l.flatMap mcells)
  wf : ∀ i ∈ l, i.Wf
  good : ∀ i ∈ l, goodP i = true
theorem CodeM.keep {S : Nat → Prop} {w w' : World} {B c : Nat} {A : Option Addr} {l : List MInstD} (h : CodeM w B A c l) (hk : Keeps S w w') (hB : B ≤ w.heap.size) (hs : ∀ i, S i → B ≤ i) : CodeM w' B A c l :=
  ⟨h.cap, h.fit, h.rd.keep fun p hp => hk.cell (by omega) (fun hs' => by have := hs _ hs'; omega), h.wf, h.good⟩
/-- what a step of the machine answers and changes -/
def StepTo (w : World) (lo p : Nat) (cv sv : Value) (base : Int) (kind d a b imm : Int) (regs : List Int) (pc : Int) (ws : List Int) (e : Ending) (w' : World) : Prop :=
  e = .returned (.agg #[.int .i64 kind, .int .i64 d, .int .i64 a, .int .i64 b, .int .i64 imm]) ∧ ChipAt w' lo p cv sv regs pc base ws ∧ Keeps (fun i => i = p ∨ sv.ownBlock = some i) w w'
theorem five_set {w : World} {g : Nat} {t : TypeId} {a b c d e : Value} (h : Blk w g t #[a, b, c, d, e]) (v0 v1 v2 v3 v4 : Value) :
    Blk (((((w.setCell ⟨g, 0, none⟩ v0).setCell ⟨g, 1, none⟩ v1).setCell ⟨g, 2, none⟩ v2).setCell ⟨g, 3, none⟩ v3).setCell ⟨g, 4, none⟩ v4) g t #[v0, v1, v2, v3, v4] := by
  have := ((((h.set_ 0 v0).set_ 1 v1).set_ 2 v2).set_ 3 v3).set_ 4 v4
  simpa using this
theorem keeps_five {S : Nat → Prop} {w w' : World} {g : Nat} (h : Keeps S w w') (hg : S g ∨ w.heap.size ≤ g) (v0 v1 v2 v3 v4 : Value) :
    Keeps S w (((((w'.setCell ⟨g, 0, none⟩ v0).setCell ⟨g, 1, none⟩ v1).setCell ⟨g, 2, none⟩ v2).setCell ⟨g, 3, none⟩ v3).setCell ⟨g, 4, none⟩ v4) :=
  ((((h.setCell (p := ⟨g, 0, none⟩) hg v0).setCell (p := ⟨g, 1, none⟩) hg v1).setCell (p := ⟨g, 2, none⟩) hg v2).setCell (p := ⟨g, 3, none⟩) hg v3).setCell (p := ⟨g, 4, none⟩) hg v4
/-- the answer is laid: the machine stays -/
theorem end_laid {w V : World} {lo p R : Nat} {cv sv : Value} {regs : List Int} {pc base : Int} {ws : List Int} {a b c d e : Value} (hC : ChipAt V lo p cv sv regs pc base ws) (hR : Blk V R 47 #[a, b, c, d, e]) (hp : p < R)
    (hK : Keeps (fun i => i = p ∨ sv.ownBlock = some i) w V) (hw : w.heap.size ≤ R) (v0 v1 v2 v3 v4 : Value) :
    Blk (((((V.setCell ⟨R, 0, none⟩ v0).setCell ⟨R, 1, none⟩ v1).setCell ⟨R, 2, none⟩ v2).setCell ⟨R, 3, none⟩ v3).setCell ⟨R, 4, none⟩ v4) R 47 #[v0, v1, v2, v3, v4] ∧
    ChipAt (((((V.setCell ⟨R, 0, none⟩ v0).setCell ⟨R, 1, none⟩ v1).setCell ⟨R, 2, none⟩ v2).setCell ⟨R, 3, none⟩ v3).setCell ⟨R, 4, none⟩ v4) lo p cv sv regs pc base ws ∧
    Keeps (fun i => i = p ∨ sv.ownBlock = some i) w (((((V.setCell ⟨R, 0, none⟩ v0).setCell ⟨R, 1, none⟩ v1).setCell ⟨R, 2, none⟩ v2).setCell ⟨R, 3, none⟩ v3).setCell ⟨R, 4, none⟩ v4) := by
  have hsR : sv.ownBlock ≠ some R := own_blk_ne hC.row hR (by decide)
  refine ⟨five_set hR .., hC.keep (S := fun i => i = R) (keeps_five (S := fun i => i = R) (Keeps.refl (fun i => i = R) V) (Or.inl (Eq.refl R)) ..) (fun e => by omega) (fun k h1 h2 => hsR (by rw [h1, h2])), keeps_five hK (.inr hw) ..⟩
theorem end_pc {w V : World} {lo p R : Nat} {cv sv : Value} {regs : List Int} {pc pc' base : Int} {ws : List Int} {cs : Array Value} (hC : ChipAt V lo p cv sv regs pc base ws) (hR : Blk V R 47 cs) (hp : p < R)
    (hK : Keeps (fun i => i = p ∨ sv.ownBlock = some i) w V) (hpc : -9223372036854775808 ≤ pc' ∧ pc' ≤ 9223372036854775807) :
    Blk (V.setCell ⟨p, 17, none⟩ (.int .i64 pc')) R 47 cs ∧ ChipAt (V.setCell ⟨p, 17, none⟩ (.int .i64 pc')) lo p cv sv regs pc' base ws ∧ Keeps (fun i => i = p ∨ sv.ownBlock = some i) w (V.setCell ⟨p, 17, none⟩ (.int .i64 pc')) := by
  have hK' : Keeps (fun i => i = p) V (V.setCell ⟨p, 17, none⟩ (.int .i64 pc')) := (Keeps.refl (fun i => i = p) V).setCell (p := ⟨p, 17, none⟩) (Or.inl (Eq.refl p)) _
  exact ⟨hK'.blk hR (by omega), hC.setPc hpc, hK.setCell (p := ⟨p, 17, none⟩) (.inl (.inl rfl)) _⟩
end Go.Proofs.Ytnnlhhokljjghaa
