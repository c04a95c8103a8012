/-
  No cell of these rows narrows 'for every input' (looked for: loops, veiled, ifaces, maps, wideKeys, modest, calm, conditions, laid).
  DERIVED. THE GIVEN ROWS OF THIS SEAT. 4 by the template 'for every input the law returns true; each argument reads behind the call as it read before'; 0 by the template 'total and deterministic' (their statements: YtndmhnmclogpcaaTotals.lean).
  GIVEN WITH THE SEED: the statements are not yours to turn. If you find one false, say at which input.
  Laid BY PROGRAM, IN A SANDBOX (cutbox-rows.mjs): the forced cells as the released guide's own fill.sh prints them over the translation 1790106d1b405c3b… (all of the seat's roots in one cut). By AI agents, Wed Nov 11 2026. No macro, syntax, notation, axiom, sorry.
-/
import Derived.Test.YtndmhnmclogpcaaChecked
import GoSem.Claim
import GoSem.ClaimJoined
import GoSem.ClaimMapViews
import Derived.JoinedTies
import Derived.KernelRfl
namespace Go.Proofs.Ytndmhnmclogpcaa
/- THE CELL 'sum', in the pinned program and in every row, IS THE sha256 OF THE DUMP (.gsa) THAT YtndmhnmclogpcaaProg.lean LOADS. Nothing in Lean hashes anything: it is a label: what it is worth is what the hold of that sum in a sandbox is worth. -/
noncomputable def Try.pinned : Pinned := { name := "ytndmhnmclogpcaa", sum := "1790106d1b405c3bf5c811f1428d5bc63d313a1dd97db65317ba680209cb881c", checked := Try.checked }
namespace Rows
def none {H : Type} : Left H := { results := [], args := [] }

/-- 'windlasslaw22.StackChains': WHATEVER THE INPUT: true; the input reads as it did. -/
def stackChainsSpec : ChangeSpec := { name := "stackChains", fn := fun _ => fun
  | [d1, d2] => { results := [.lit (.bool true)], args := [d1, d2] }
  | _ => none }
def stackChainsRow : OpenClaim := { program := "ytndmhnmclogpcaa", sum := "1790106d1b405c3bf5c811f1428d5bc63d313a1dd97db65317ba680209cb881c", func := "windlass/windlasslaw22.StackChains", spec := "stackChains", inPlace := ["internal/bytealg.IndexByte"], apart := false }
def StackChainsSaid : Prop := stackChainsRow.holds Try.pinned (OpenSpec.ofChange stackChainsSpec)

/-- ITS FALSE NEIGHBOUR: 'it returns false'. Refute it at one input. -/
def stackChainsWrong : ChangeSpec := { name := "stackChains", fn := fun _ => fun
  | [d1, d2] => { results := [.lit (.bool false)], args := [d1, d2] }
  | _ => none }
def StackChainsWrongFalsely : Prop := stackChainsRow.holds Try.pinned (OpenSpec.ofChange stackChainsWrong)

/-- 'windlasslaw22.StackBack': WHATEVER THE INPUT: true; the input reads as it did. -/
def stackBackSpec : ChangeSpec := { name := "stackBack", fn := fun _ => fun
  | [d1, d2, d3] => { results := [.lit (.bool true)], args := [d1, d2, d3] }
  | _ => none }
def stackBackRow : OpenClaim := { program := "ytndmhnmclogpcaa", sum := "1790106d1b405c3bf5c811f1428d5bc63d313a1dd97db65317ba680209cb881c", func := "windlass/windlasslaw22.StackBack", spec := "stackBack", inPlace := ["internal/bytealg.IndexByte"], apart := false }
def StackBackSaid : Prop := stackBackRow.holds Try.pinned (OpenSpec.ofChange stackBackSpec)

/-- ITS FALSE NEIGHBOUR: 'it returns false'. Refute it at one input. -/
def stackBackWrong : ChangeSpec := { name := "stackBack", fn := fun _ => fun
  | [d1, d2, d3] => { results := [.lit (.bool false)], args := [d1, d2, d3] }
  | _ => none }
def StackBackWrongFalsely : Prop := stackBackRow.holds Try.pinned (OpenSpec.ofChange stackBackWrong)

/-- 'windlasslaw22.StackUsed': WHATEVER THE INPUT: true; the input reads as it did. -/
def stackUsedSpec : ChangeSpec := { name := "stackUsed", fn := fun _ => fun
  | [d1, d2, d3] => { results := [.lit (.bool true)], args := [d1, d2, d3] }
  | _ => none }
def stackUsedRow : OpenClaim := { program := "ytndmhnmclogpcaa", sum := "1790106d1b405c3bf5c811f1428d5bc63d313a1dd97db65317ba680209cb881c", func := "windlass/windlasslaw22.StackUsed", spec := "stackUsed", inPlace := ["internal/bytealg.IndexByte"], apart := false }
def StackUsedSaid : Prop := stackUsedRow.holds Try.pinned (OpenSpec.ofChange stackUsedSpec)

/-- ITS FALSE NEIGHBOUR: 'it returns false'. Refute it at one input. -/
def stackUsedWrong : ChangeSpec := { name := "stackUsed", fn := fun _ => fun
  | [d1, d2, d3] => { results := [.lit (.bool false)], args := [d1, d2, d3] }
  | _ => none }
def StackUsedWrongFalsely : Prop := stackUsedRow.holds Try.pinned (OpenSpec.ofChange stackUsedWrong)

/-- 'windlasslaw22.StackMoves': WHATEVER THE INPUT: true; the input reads as it did. -/
def stackMovesSpec : ChangeSpec := { name := "stackMoves", fn := fun _ => fun
  | [d1, d2] => { results := [.lit (.bool true)], args := [d1, d2] }
  | _ => none }
def stackMovesRow : OpenClaim := { program := "ytndmhnmclogpcaa", sum := "1790106d1b405c3bf5c811f1428d5bc63d313a1dd97db65317ba680209cb881c", func := "windlass/windlasslaw22.StackMoves", spec := "stackMoves", inPlace := ["internal/bytealg.IndexByte"], apart := false }
def StackMovesSaid : Prop := stackMovesRow.holds Try.pinned (OpenSpec.ofChange stackMovesSpec)

/-- ITS FALSE NEIGHBOUR: 'it returns false'. Refute it at one input. -/
def stackMovesWrong : ChangeSpec := { name := "stackMoves", fn := fun _ => fun
  | [d1, d2] => { results := [.lit (.bool false)], args := [d1, d2] }
  | _ => none }
def StackMovesWrongFalsely : Prop := stackMovesRow.holds Try.pinned (OpenSpec.ofChange stackMovesWrong)

/- THE SECOND FORM. 'bulk': how many values and letters a reading holds, each counted each time it is reached (what is shared counts as often as it is met; a slice's spare places count too). A statement '..UptoSaid' is the law's where the arguments, and the package variables that the reading takes, are together of bulk at most 1048576: NARROWER than '..Said'. Prove '..Said' where nothing that the law and all that it calls make is longer than what came in: it says more and counts as full. Else prove '..UptoSaid'. A law counts once. -/
mutual
def uptoBulk {H : Type} : DataW H → Nat
  | .lit (.string bytes) => bytes.length + 1
  | .lit _ => 1
  | .nil => 1
  | .ptr d => uptoBulk d + 1
  | .slice elems spare => uptoBulkAll elems + uptoBulkAll spare + 1
  | .agg parts => uptoBulkAll parts + 1
  | .iface _ d => uptoBulk d + 1
  | .map entries => uptoBulkEntries entries + 1
  | .held _ => 1
def uptoBulkAll {H : Type} : List (DataW H) → Nat
  | [] => 0
  | d :: r => uptoBulk d + uptoBulkAll r
def uptoBulkEntries {H : Type} : List (Lit × DataW H) → Nat
  | [] => 0
  | x :: r => uptoBulkEntry x + uptoBulkEntries r
def uptoBulkEntry {H : Type} : Lit × DataW H → Nat
  | (.string bytes, d) => bytes.length + uptoBulk d + 1
  | (_, d) => uptoBulk d + 1
 end
def uptoSmall : (H : Type) → List (DataW H) → Bool := fun _ ds => decide (uptoBulkAll ds ≤ 1048576)
def OpenSpec.upto (s : _root_.Go.ChangeSpec) : _root_.Go.OpenSpec := { _root_.Go.OpenSpec.ofChange s with cond := some uptoSmall }

/-- 'windlasslaw22.StackChains', WHERE WHAT IT READS IS OF BULK AT MOST 1048576: true; the input reads as it did. -/
def stackChainsUptoRow : OpenClaim := { program := "ytndmhnmclogpcaa", sum := "1790106d1b405c3bf5c811f1428d5bc63d313a1dd97db65317ba680209cb881c", func := "windlass/windlasslaw22.StackChains", spec := "stackChains", inPlace := ["internal/bytealg.IndexByte"], apart := false, narrowed := true }
def StackChainsUptoSaid : Prop := stackChainsUptoRow.holds Try.pinned (OpenSpec.upto stackChainsSpec)

/-- 'windlasslaw22.StackBack', WHERE WHAT IT READS IS OF BULK AT MOST 1048576: true; the input reads as it did. -/
def stackBackUptoRow : OpenClaim := { program := "ytndmhnmclogpcaa", sum := "1790106d1b405c3bf5c811f1428d5bc63d313a1dd97db65317ba680209cb881c", func := "windlass/windlasslaw22.StackBack", spec := "stackBack", inPlace := ["internal/bytealg.IndexByte"], apart := false, narrowed := true }
def StackBackUptoSaid : Prop := stackBackUptoRow.holds Try.pinned (OpenSpec.upto stackBackSpec)

/-- 'windlasslaw22.StackUsed', WHERE WHAT IT READS IS OF BULK AT MOST 1048576: true; the input reads as it did. -/
def stackUsedUptoRow : OpenClaim := { program := "ytndmhnmclogpcaa", sum := "1790106d1b405c3bf5c811f1428d5bc63d313a1dd97db65317ba680209cb881c", func := "windlass/windlasslaw22.StackUsed", spec := "stackUsed", inPlace := ["internal/bytealg.IndexByte"], apart := false, narrowed := true }
def StackUsedUptoSaid : Prop := stackUsedUptoRow.holds Try.pinned (OpenSpec.upto stackUsedSpec)

/-- 'windlasslaw22.StackMoves', WHERE WHAT IT READS IS OF BULK AT MOST 1048576: true; the input reads as it did. -/
def stackMovesUptoRow : OpenClaim := { program := "ytndmhnmclogpcaa", sum := "1790106d1b405c3bf5c811f1428d5bc63d313a1dd97db65317ba680209cb881c", func := "windlass/windlasslaw22.StackMoves", spec := "stackMoves", inPlace := ["internal/bytealg.IndexByte"], apart := false, narrowed := true }
def StackMovesUptoSaid : Prop := stackMovesUptoRow.holds Try.pinned (OpenSpec.upto stackMovesSpec)

end Rows
end Go.Proofs.Ytndmhnmclogpcaa
