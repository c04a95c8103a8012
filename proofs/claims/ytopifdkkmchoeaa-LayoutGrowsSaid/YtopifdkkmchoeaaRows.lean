/-
  No cell of these rows narrows 'for every input' (looked for: loops, veiled, ifaces, maps, wideKeys, modest, calm, conditions, laid).
  DERIVED. THE GIVEN ROWS OF THIS SEAT. 3 by the template 'for every input the law returns true; each argument reads behind the call as it read before'; 0 by the template 'total and deterministic' (their statements: YtopifdkkmchoeaaTotals.lean).
  GIVEN WITH THE SEED: the statements are not yours to turn. If you find one false, say at which input.
  Laid BY PROGRAM, IN A SANDBOX (cutbox-rows.mjs): the forced cells as the released guide's own fill.sh prints them over the translation 74f08e84ac88dd82… (all of the seat's roots in one cut). By AI agents, Wed Nov 11 2026. No macro, syntax, notation, axiom, sorry.
-/
import Derived.Test.YtopifdkkmchoeaaChecked
import GoSem.Claim
import GoSem.ClaimJoined
import GoSem.ClaimMapViews
import Derived.JoinedTies
import Derived.KernelRfl
namespace Go.Proofs.Ytopifdkkmchoeaa
/- THE CELL 'sum', in the pinned program and in every row, IS THE sha256 OF THE DUMP (.gsa) THAT YtopifdkkmchoeaaProg.lean LOADS. Nothing in Lean hashes anything: it is a label: what it is worth is what the hold of that sum in a sandbox is worth. -/
noncomputable def Try.pinned : Pinned := { name := "ytopifdkkmchoeaa", sum := "74f08e84ac88dd828fb4e25aeea078dc707185846a56aac84470c08593315e67", checked := Try.checked }
namespace Rows
def none {H : Type} : Left H := { results := [], args := [] }

/-- 'windlasslaw14.MovesShuffle': WHATEVER THE INPUT: true; the input reads as it did. -/
def movesShuffleSpec : ChangeSpec := { name := "movesShuffle", fn := fun _ => fun
  | [d] => { results := [.lit (.bool true)], args := [d] }
  | _ => none }
def movesShuffleRow : OpenClaim := { program := "ytopifdkkmchoeaa", sum := "74f08e84ac88dd828fb4e25aeea078dc707185846a56aac84470c08593315e67", func := "windlass/windlasslaw14.MovesShuffle", spec := "movesShuffle", unfollowed := true, recurses := true, apart := false }
def MovesShuffleSaid : Prop := movesShuffleRow.holds Try.pinned (OpenSpec.ofChange movesShuffleSpec)

/-- ITS FALSE NEIGHBOUR: 'it returns false'. Refute it at one input. -/
def movesShuffleWrong : ChangeSpec := { name := "movesShuffle", fn := fun _ => fun
  | [d] => { results := [.lit (.bool false)], args := [d] }
  | _ => none }
def MovesShuffleWrongFalsely : Prop := movesShuffleRow.holds Try.pinned (OpenSpec.ofChange movesShuffleWrong)

/-- 'windlasslaw18.LayoutWords': WHATEVER THE INPUT: true; the input reads as it did. -/
def layoutWordsSpec : ChangeSpec := { name := "layoutWords", fn := fun _ => fun
  | [d1, d2] => { results := [.lit (.bool true)], args := [d1, d2] }
  | _ => none }
def layoutWordsRow : OpenClaim := { program := "ytopifdkkmchoeaa", sum := "74f08e84ac88dd828fb4e25aeea078dc707185846a56aac84470c08593315e67", func := "windlass/windlasslaw18.LayoutWords", spec := "layoutWords", unfollowed := true, recurses := true, apart := false }
def LayoutWordsSaid : Prop := layoutWordsRow.holds Try.pinned (OpenSpec.ofChange layoutWordsSpec)

/-- ITS FALSE NEIGHBOUR: 'it returns false'. Refute it at one input. -/
def layoutWordsWrong : ChangeSpec := { name := "layoutWords", fn := fun _ => fun
  | [d1, d2] => { results := [.lit (.bool false)], args := [d1, d2] }
  | _ => none }
def LayoutWordsWrongFalsely : Prop := layoutWordsRow.holds Try.pinned (OpenSpec.ofChange layoutWordsWrong)

/-- 'windlasslaw18.LayoutGrows': WHATEVER THE INPUT: true; the input reads as it did. -/
def layoutGrowsSpec : ChangeSpec := { name := "layoutGrows", fn := fun _ => fun
  | [d1, d2, d3] => { results := [.lit (.bool true)], args := [d1, d2, d3] }
  | _ => none }
def layoutGrowsRow : OpenClaim := { program := "ytopifdkkmchoeaa", sum := "74f08e84ac88dd828fb4e25aeea078dc707185846a56aac84470c08593315e67", func := "windlass/windlasslaw18.LayoutGrows", spec := "layoutGrows", unfollowed := true, recurses := true, apart := false }
def LayoutGrowsSaid : Prop := layoutGrowsRow.holds Try.pinned (OpenSpec.ofChange layoutGrowsSpec)

/-- ITS FALSE NEIGHBOUR: 'it returns false'. Refute it at one input. -/
def layoutGrowsWrong : ChangeSpec := { name := "layoutGrows", fn := fun _ => fun
  | [d1, d2, d3] => { results := [.lit (.bool false)], args := [d1, d2, d3] }
  | _ => none }
def LayoutGrowsWrongFalsely : Prop := layoutGrowsRow.holds Try.pinned (OpenSpec.ofChange layoutGrowsWrong)

/- THE SECOND FORM. 'bulk': how many values and letters a reading holds, each counted each time it is reached (what is shared counts as often as it is met; a slice's spare places count too). A statement '..UptoSaid' is the law's where the arguments, and the package variables that the reading takes, are together of bulk at most 1048576: NARROWER than '..Said'. Prove '..Said' where nothing that the law and all that it calls make is longer than what came in: it says more and counts as full. Else prove '..UptoSaid'. A law counts once. -/
mutual
def uptoBulk {H : Type} : DataW H → Nat
  | .lit (.string bytes) => bytes.length + 1
  | .lit _ => 1
  | .nil => 1
  | .ptr d => uptoBulk d + 1
  | .slice elems spare => uptoBulkAll elems + uptoBulkAll spare + 1
  | .agg parts => uptoBulkAll parts + 1
  | .iface _ d => uptoBulk d + 1
  | .map entries => uptoBulkEntries entries + 1
  | .held _ => 1
def uptoBulkAll {H : Type} : List (DataW H) → Nat
  | [] => 0
  | d :: r => uptoBulk d + uptoBulkAll r
def uptoBulkEntries {H : Type} : List (Lit × DataW H) → Nat
  | [] => 0
  | x :: r => uptoBulkEntry x + uptoBulkEntries r
def uptoBulkEntry {H : Type} : Lit × DataW H → Nat
  | (.string bytes, d) => bytes.length + uptoBulk d + 1
  | (_, d) => uptoBulk d + 1
 end
def uptoSmall : (H : Type) → List (DataW H) → Bool := fun _ ds => decide (uptoBulkAll ds ≤ 1048576)
def OpenSpec.upto (s : _root_.Go.ChangeSpec) : _root_.Go.OpenSpec := { _root_.Go.OpenSpec.ofChange s with cond := some uptoSmall }

/-- 'windlasslaw14.MovesShuffle', WHERE WHAT IT READS IS OF BULK AT MOST 1048576: true; the input reads as it did. -/
def movesShuffleUptoRow : OpenClaim := { program := "ytopifdkkmchoeaa", sum := "74f08e84ac88dd828fb4e25aeea078dc707185846a56aac84470c08593315e67", func := "windlass/windlasslaw14.MovesShuffle", spec := "movesShuffle", unfollowed := true, recurses := true, apart := false, narrowed := true }
def MovesShuffleUptoSaid : Prop := movesShuffleUptoRow.holds Try.pinned (OpenSpec.upto movesShuffleSpec)

/-- 'windlasslaw18.LayoutWords', WHERE WHAT IT READS IS OF BULK AT MOST 1048576: true; the input reads as it did. -/
def layoutWordsUptoRow : OpenClaim := { program := "ytopifdkkmchoeaa", sum := "74f08e84ac88dd828fb4e25aeea078dc707185846a56aac84470c08593315e67", func := "windlass/windlasslaw18.LayoutWords", spec := "layoutWords", unfollowed := true, recurses := true, apart := false, narrowed := true }
def LayoutWordsUptoSaid : Prop := layoutWordsUptoRow.holds Try.pinned (OpenSpec.upto layoutWordsSpec)

/-- 'windlasslaw18.LayoutGrows', WHERE WHAT IT READS IS OF BULK AT MOST 1048576: true; the input reads as it did. -/
def layoutGrowsUptoRow : OpenClaim := { program := "ytopifdkkmchoeaa", sum := "74f08e84ac88dd828fb4e25aeea078dc707185846a56aac84470c08593315e67", func := "windlass/windlasslaw18.LayoutGrows", spec := "layoutGrows", unfollowed := true, recurses := true, apart := false, narrowed := true }
def LayoutGrowsUptoSaid : Prop := layoutGrowsUptoRow.holds Try.pinned (OpenSpec.upto layoutGrowsSpec)

end Rows
end Go.Proofs.Ytopifdkkmchoeaa
