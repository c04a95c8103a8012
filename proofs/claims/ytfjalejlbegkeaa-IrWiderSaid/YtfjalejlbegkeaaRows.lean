/-
  No cell of these rows narrows 'for every input' (looked for: loops, veiled, ifaces, maps, wideKeys, modest, calm, conditions, laid).
  DERIVED. THE GIVEN ROWS OF THIS SEAT. 4 by the template 'for every input the law returns true; each argument reads behind the call as it read before'; 0 by the template 'total and deterministic' (their statements: YtfjalejlbegkeaaTotals.lean).
  GIVEN WITH THE SEED: the statements are not yours to turn. If you find one false, say at which input.
  Laid BY PROGRAM, IN A SANDBOX (cutbox-rows.mjs): the forced cells as the released guide's own fill.sh prints them over the translation bed481df87267f17… (all of the seat's roots in one cut). By AI agents, Wed Nov 11 2026. No macro, syntax, notation, axiom, sorry.
-/
import Derived.Test.YtfjalejlbegkeaaChecked
import GoSem.Claim
import GoSem.ClaimJoined
import GoSem.ClaimMapViews
import Derived.JoinedTies
import Derived.KernelRfl
namespace Go.Proofs.Ytfjalejlbegkeaa
/- THE CELL 'sum', in the pinned program and in every row, IS THE sha256 OF THE DUMP (.gsa) THAT YtfjalejlbegkeaaProg.lean LOADS. Nothing in Lean hashes anything: it is a label: what it is worth is what the hold of that sum in a sandbox is worth. -/
noncomputable def Try.pinned : Pinned := { name := "ytfjalejlbegkeaa", sum := "bed481df87267f1709a2801d31024e6748ce5695e22d5a8e1b5c87491ab3a2c6", checked := Try.checked }
namespace Rows
def none {H : Type} : Left H := { results := [], args := [] }

/-- 'windlasslaw07.IrChecks': WHATEVER THE INPUT: true; the input reads as it did. -/
def irChecksSpec : ChangeSpec := { name := "irChecks", fn := fun _ => fun
  | [d] => { results := [.lit (.bool true)], args := [d] }
  | _ => none }
def irChecksRow : OpenClaim := { program := "ytfjalejlbegkeaa", sum := "bed481df87267f1709a2801d31024e6748ce5695e22d5a8e1b5c87491ab3a2c6", func := "windlass/windlasslaw07.IrChecks", spec := "irChecks", unfollowed := true, recurses := true, apart := false }
def IrChecksSaid : Prop := irChecksRow.holds Try.pinned (OpenSpec.ofChange irChecksSpec)

/-- ITS FALSE NEIGHBOUR: 'it returns false'. Refute it at one input. -/
def irChecksWrong : ChangeSpec := { name := "irChecks", fn := fun _ => fun
  | [d] => { results := [.lit (.bool false)], args := [d] }
  | _ => none }
def IrChecksWrongFalsely : Prop := irChecksRow.holds Try.pinned (OpenSpec.ofChange irChecksWrong)

/-- 'windlasslaw07.IrNodes': WHATEVER THE INPUT: true; the input reads as it did. -/
def irNodesSpec : ChangeSpec := { name := "irNodes", fn := fun _ => fun
  | [d] => { results := [.lit (.bool true)], args := [d] }
  | _ => none }
def irNodesRow : OpenClaim := { program := "ytfjalejlbegkeaa", sum := "bed481df87267f1709a2801d31024e6748ce5695e22d5a8e1b5c87491ab3a2c6", func := "windlass/windlasslaw07.IrNodes", spec := "irNodes", unfollowed := true, recurses := true, apart := false }
def IrNodesSaid : Prop := irNodesRow.holds Try.pinned (OpenSpec.ofChange irNodesSpec)

/-- ITS FALSE NEIGHBOUR: 'it returns false'. Refute it at one input. -/
def irNodesWrong : ChangeSpec := { name := "irNodes", fn := fun _ => fun
  | [d] => { results := [.lit (.bool false)], args := [d] }
  | _ => none }
def IrNodesWrongFalsely : Prop := irNodesRow.holds Try.pinned (OpenSpec.ofChange irNodesWrong)

/-- 'windlasslaw07.IrCopies': WHATEVER THE INPUT: true; the input reads as it did. -/
def irCopiesSpec : ChangeSpec := { name := "irCopies", fn := fun _ => fun
  | [d1, d2] => { results := [.lit (.bool true)], args := [d1, d2] }
  | _ => none }
def irCopiesRow : OpenClaim := { program := "ytfjalejlbegkeaa", sum := "bed481df87267f1709a2801d31024e6748ce5695e22d5a8e1b5c87491ab3a2c6", func := "windlass/windlasslaw07.IrCopies", spec := "irCopies", unfollowed := true, recurses := true, apart := false }
def IrCopiesSaid : Prop := irCopiesRow.holds Try.pinned (OpenSpec.ofChange irCopiesSpec)

/-- ITS FALSE NEIGHBOUR: 'it returns false'. Refute it at one input. -/
def irCopiesWrong : ChangeSpec := { name := "irCopies", fn := fun _ => fun
  | [d1, d2] => { results := [.lit (.bool false)], args := [d1, d2] }
  | _ => none }
def IrCopiesWrongFalsely : Prop := irCopiesRow.holds Try.pinned (OpenSpec.ofChange irCopiesWrong)

/-- 'windlasslaw07.IrWider': WHATEVER THE INPUT: true; the input reads as it did. -/
def irWiderSpec : ChangeSpec := { name := "irWider", fn := fun _ => fun
  | [d1, d2] => { results := [.lit (.bool true)], args := [d1, d2] }
  | _ => none }
def irWiderRow : OpenClaim := { program := "ytfjalejlbegkeaa", sum := "bed481df87267f1709a2801d31024e6748ce5695e22d5a8e1b5c87491ab3a2c6", func := "windlass/windlasslaw07.IrWider", spec := "irWider", unfollowed := true, recurses := true, apart := false }
def IrWiderSaid : Prop := irWiderRow.holds Try.pinned (OpenSpec.ofChange irWiderSpec)

/-- ITS FALSE NEIGHBOUR: 'it returns false'. Refute it at one input. -/
def irWiderWrong : ChangeSpec := { name := "irWider", fn := fun _ => fun
  | [d1, d2] => { results := [.lit (.bool false)], args := [d1, d2] }
  | _ => none }
def IrWiderWrongFalsely : Prop := irWiderRow.holds Try.pinned (OpenSpec.ofChange irWiderWrong)

/- THE SECOND FORM. 'bulk': how many values and letters a reading holds, each counted each time it is reached (what is shared counts as often as it is met; a slice's spare places count too). A statement '..UptoSaid' is the law's where the arguments, and the package variables that the reading takes, are together of bulk at most 1048576: NARROWER than '..Said'. Prove '..Said' where nothing that the law and all that it calls make is longer than what came in: it says more and counts as full. Else prove '..UptoSaid'. A law counts once. -/
mutual
def uptoBulk {H : Type} : DataW H → Nat
  | .lit (.string bytes) => bytes.length + 1
  | .lit _ => 1
  | .nil => 1
  | .ptr d => uptoBulk d + 1
  | .slice elems spare => uptoBulkAll elems + uptoBulkAll spare + 1
  | .agg parts => uptoBulkAll parts + 1
  | .iface _ d => uptoBulk d + 1
  | .map entries => uptoBulkEntries entries + 1
  | .held _ => 1
def uptoBulkAll {H : Type} : List (DataW H) → Nat
  | [] => 0
  | d :: r => uptoBulk d + uptoBulkAll r
def uptoBulkEntries {H : Type} : List (Lit × DataW H) → Nat
  | [] => 0
  | x :: r => uptoBulkEntry x + uptoBulkEntries r
def uptoBulkEntry {H : Type} : Lit × DataW H → Nat
  | (.string bytes, d) => bytes.length + uptoBulk d + 1
  | (_, d) => uptoBulk d + 1
 end
def uptoSmall : (H : Type) → List (DataW H) → Bool := fun _ ds => decide (uptoBulkAll ds ≤ 1048576)
def OpenSpec.upto (s : _root_.Go.ChangeSpec) : _root_.Go.OpenSpec := { _root_.Go.OpenSpec.ofChange s with cond := some uptoSmall }

/-- 'windlasslaw07.IrChecks', WHERE WHAT IT READS IS OF BULK AT MOST 1048576: true; the input reads as it did. -/
def irChecksUptoRow : OpenClaim := { program := "ytfjalejlbegkeaa", sum := "bed481df87267f1709a2801d31024e6748ce5695e22d5a8e1b5c87491ab3a2c6", func := "windlass/windlasslaw07.IrChecks", spec := "irChecks", unfollowed := true, recurses := true, apart := false, narrowed := true }
def IrChecksUptoSaid : Prop := irChecksUptoRow.holds Try.pinned (OpenSpec.upto irChecksSpec)

/-- 'windlasslaw07.IrNodes', WHERE WHAT IT READS IS OF BULK AT MOST 1048576: true; the input reads as it did. -/
def irNodesUptoRow : OpenClaim := { program := "ytfjalejlbegkeaa", sum := "bed481df87267f1709a2801d31024e6748ce5695e22d5a8e1b5c87491ab3a2c6", func := "windlass/windlasslaw07.IrNodes", spec := "irNodes", unfollowed := true, recurses := true, apart := false, narrowed := true }
def IrNodesUptoSaid : Prop := irNodesUptoRow.holds Try.pinned (OpenSpec.upto irNodesSpec)

/-- 'windlasslaw07.IrCopies', WHERE WHAT IT READS IS OF BULK AT MOST 1048576: true; the input reads as it did. -/
def irCopiesUptoRow : OpenClaim := { program := "ytfjalejlbegkeaa", sum := "bed481df87267f1709a2801d31024e6748ce5695e22d5a8e1b5c87491ab3a2c6", func := "windlass/windlasslaw07.IrCopies", spec := "irCopies", unfollowed := true, recurses := true, apart := false, narrowed := true }
def IrCopiesUptoSaid : Prop := irCopiesUptoRow.holds Try.pinned (OpenSpec.upto irCopiesSpec)

/-- 'windlasslaw07.IrWider', WHERE WHAT IT READS IS OF BULK AT MOST 1048576: true; the input reads as it did. -/
def irWiderUptoRow : OpenClaim := { program := "ytfjalejlbegkeaa", sum := "bed481df87267f1709a2801d31024e6748ce5695e22d5a8e1b5c87491ab3a2c6", func := "windlass/windlasslaw07.IrWider", spec := "irWider", unfollowed := true, recurses := true, apart := false, narrowed := true }
def IrWiderUptoSaid : Prop := irWiderUptoRow.holds Try.pinned (OpenSpec.upto irWiderSpec)

end Rows
end Go.Proofs.Ytfjalejlbegkeaa
