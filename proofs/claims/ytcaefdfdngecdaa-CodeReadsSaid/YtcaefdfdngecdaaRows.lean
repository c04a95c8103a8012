/-
  No cell of these rows narrows 'for every input' (looked for: loops, veiled, ifaces, maps, wideKeys, modest, calm, conditions, laid).
  DERIVED. THE GIVEN ROWS OF THIS SEAT. 6 by the template 'for every input the law returns true; each argument reads behind the call as it read before'; 0 by the template 'total and deterministic' (their statements: YtcaefdfdngecdaaTotals.lean).
  GIVEN WITH THE SEED: the statements are not yours to turn. If you find one false, say at which input.
  Laid BY PROGRAM, IN A SANDBOX (cutbox-rows.mjs): the forced cells as the released guide's own fill.sh prints them over the translation ba3ddd9ae43866c0… (all of the seat's roots in one cut). By AI agents, Wed Nov 11 2026. No macro, syntax, notation, axiom, sorry.
-/
import Derived.Test.YtcaefdfdngecdaaChecked
import GoSem.Claim
import GoSem.ClaimJoined
import GoSem.ClaimMapViews
import Derived.JoinedTies
import Derived.KernelRfl
namespace Go.Proofs.Ytcaefdfdngecdaa
/- THE CELL 'sum', in the pinned program and in every row, IS THE sha256 OF THE DUMP (.gsa) THAT YtcaefdfdngecdaaProg.lean LOADS. Nothing in Lean hashes anything: it is a label: what it is worth is what the hold of that sum in a sandbox is worth. -/
noncomputable def Try.pinned : Pinned := { name := "ytcaefdfdngecdaa", sum := "ba3ddd9ae43866c0d607304eec8e66fa2a207b29d19825b3fcb4ed3ab9ba9cbb", checked := Try.checked }
namespace Rows
def none {H : Type} : Left H := { results := [], args := [] }

/-- 'windlasslaw03.CodeReads': WHATEVER THE INPUT: true; the input reads as it did. -/
def codeReadsSpec : ChangeSpec := { name := "codeReads", fn := fun _ => fun
  | [d] => { results := [.lit (.bool true)], args := [d] }
  | _ => none }
def codeReadsRow : OpenClaim := { program := "ytcaefdfdngecdaa", sum := "ba3ddd9ae43866c0d607304eec8e66fa2a207b29d19825b3fcb4ed3ab9ba9cbb", func := "windlass/windlasslaw03.CodeReads", spec := "codeReads", apart := false }
def CodeReadsSaid : Prop := codeReadsRow.holds Try.pinned (OpenSpec.ofChange codeReadsSpec)

/-- ITS FALSE NEIGHBOUR: 'it returns false'. Refute it at one input. -/
def codeReadsWrong : ChangeSpec := { name := "codeReads", fn := fun _ => fun
  | [d] => { results := [.lit (.bool false)], args := [d] }
  | _ => none }
def CodeReadsWrongFalsely : Prop := codeReadsRow.holds Try.pinned (OpenSpec.ofChange codeReadsWrong)

/-- 'windlasslaw03.CodeWrites': WHATEVER THE INPUT: true; the input reads as it did. -/
def codeWritesSpec : ChangeSpec := { name := "codeWrites", fn := fun _ => fun
  | [d] => { results := [.lit (.bool true)], args := [d] }
  | _ => none }
def codeWritesRow : OpenClaim := { program := "ytcaefdfdngecdaa", sum := "ba3ddd9ae43866c0d607304eec8e66fa2a207b29d19825b3fcb4ed3ab9ba9cbb", func := "windlass/windlasslaw03.CodeWrites", spec := "codeWrites", apart := false }
def CodeWritesSaid : Prop := codeWritesRow.holds Try.pinned (OpenSpec.ofChange codeWritesSpec)

/-- ITS FALSE NEIGHBOUR: 'it returns false'. Refute it at one input. -/
def codeWritesWrong : ChangeSpec := { name := "codeWrites", fn := fun _ => fun
  | [d] => { results := [.lit (.bool false)], args := [d] }
  | _ => none }
def CodeWritesWrongFalsely : Prop := codeWritesRow.holds Try.pinned (OpenSpec.ofChange codeWritesWrong)

/-- 'windlasslaw03.CodeCuts': WHATEVER THE INPUT: true; the input reads as it did. -/
def codeCutsSpec : ChangeSpec := { name := "codeCuts", fn := fun _ => fun
  | [d1, d2, d3] => { results := [.lit (.bool true)], args := [d1, d2, d3] }
  | _ => none }
def codeCutsRow : OpenClaim := { program := "ytcaefdfdngecdaa", sum := "ba3ddd9ae43866c0d607304eec8e66fa2a207b29d19825b3fcb4ed3ab9ba9cbb", func := "windlass/windlasslaw03.CodeCuts", spec := "codeCuts", apart := false }
def CodeCutsSaid : Prop := codeCutsRow.holds Try.pinned (OpenSpec.ofChange codeCutsSpec)

/-- ITS FALSE NEIGHBOUR: 'it returns false'. Refute it at one input. -/
def codeCutsWrong : ChangeSpec := { name := "codeCuts", fn := fun _ => fun
  | [d1, d2, d3] => { results := [.lit (.bool false)], args := [d1, d2, d3] }
  | _ => none }
def CodeCutsWrongFalsely : Prop := codeCutsRow.holds Try.pinned (OpenSpec.ofChange codeCutsWrong)

/-- 'windlasslaw03.CodeSizes': WHATEVER THE INPUT: true; the input reads as it did. -/
def codeSizesSpec : ChangeSpec := { name := "codeSizes", fn := fun _ => fun
  | [d] => { results := [.lit (.bool true)], args := [d] }
  | _ => none }
def codeSizesRow : OpenClaim := { program := "ytcaefdfdngecdaa", sum := "ba3ddd9ae43866c0d607304eec8e66fa2a207b29d19825b3fcb4ed3ab9ba9cbb", func := "windlass/windlasslaw03.CodeSizes", spec := "codeSizes", apart := false }
def CodeSizesSaid : Prop := codeSizesRow.holds Try.pinned (OpenSpec.ofChange codeSizesSpec)

/-- ITS FALSE NEIGHBOUR: 'it returns false'. Refute it at one input. -/
def codeSizesWrong : ChangeSpec := { name := "codeSizes", fn := fun _ => fun
  | [d] => { results := [.lit (.bool false)], args := [d] }
  | _ => none }
def CodeSizesWrongFalsely : Prop := codeSizesRow.holds Try.pinned (OpenSpec.ofChange codeSizesWrong)

/-- 'windlasslaw03.CodeBounds': WHATEVER THE INPUT: true; the input reads as it did. -/
def codeBoundsSpec : ChangeSpec := { name := "codeBounds", fn := fun _ => fun
  | [d1, d2] => { results := [.lit (.bool true)], args := [d1, d2] }
  | _ => none }
def codeBoundsRow : OpenClaim := { program := "ytcaefdfdngecdaa", sum := "ba3ddd9ae43866c0d607304eec8e66fa2a207b29d19825b3fcb4ed3ab9ba9cbb", func := "windlass/windlasslaw03.CodeBounds", spec := "codeBounds", unfollowed := true, recurses := true, apart := false }
def CodeBoundsSaid : Prop := codeBoundsRow.holds Try.pinned (OpenSpec.ofChange codeBoundsSpec)

/-- ITS FALSE NEIGHBOUR: 'it returns false'. Refute it at one input. -/
def codeBoundsWrong : ChangeSpec := { name := "codeBounds", fn := fun _ => fun
  | [d1, d2] => { results := [.lit (.bool false)], args := [d1, d2] }
  | _ => none }
def CodeBoundsWrongFalsely : Prop := codeBoundsRow.holds Try.pinned (OpenSpec.ofChange codeBoundsWrong)

/-- 'windlasslaw03.CodeCopies': WHATEVER THE INPUT: true; the input reads as it did. -/
def codeCopiesSpec : ChangeSpec := { name := "codeCopies", fn := fun _ => fun
  | [d1, d2] => { results := [.lit (.bool true)], args := [d1, d2] }
  | _ => none }
def codeCopiesRow : OpenClaim := { program := "ytcaefdfdngecdaa", sum := "ba3ddd9ae43866c0d607304eec8e66fa2a207b29d19825b3fcb4ed3ab9ba9cbb", func := "windlass/windlasslaw03.CodeCopies", spec := "codeCopies", unfollowed := true, recurses := true, apart := false }
def CodeCopiesSaid : Prop := codeCopiesRow.holds Try.pinned (OpenSpec.ofChange codeCopiesSpec)

/-- ITS FALSE NEIGHBOUR: 'it returns false'. Refute it at one input. -/
def codeCopiesWrong : ChangeSpec := { name := "codeCopies", fn := fun _ => fun
  | [d1, d2] => { results := [.lit (.bool false)], args := [d1, d2] }
  | _ => none }
def CodeCopiesWrongFalsely : Prop := codeCopiesRow.holds Try.pinned (OpenSpec.ofChange codeCopiesWrong)

/- THE SECOND FORM. 'bulk': how many values and letters a reading holds, each counted each time it is reached (what is shared counts as often as it is met; a slice's spare places count too). A statement '..UptoSaid' is the law's where the arguments, and the package variables that the reading takes, are together of bulk at most 1048576: NARROWER than '..Said'. Prove '..Said' where nothing that the law and all that it calls make is longer than what came in: it says more and counts as full. Else prove '..UptoSaid'. A law counts once. -/
mutual
def uptoBulk {H : Type} : DataW H → Nat
  | .lit (.string bytes) => bytes.length + 1
  | .lit _ => 1
  | .nil => 1
  | .ptr d => uptoBulk d + 1
  | .slice elems spare => uptoBulkAll elems + uptoBulkAll spare + 1
  | .agg parts => uptoBulkAll parts + 1
  | .iface _ d => uptoBulk d + 1
  | .map entries => uptoBulkEntries entries + 1
  | .held _ => 1
def uptoBulkAll {H : Type} : List (DataW H) → Nat
  | [] => 0
  | d :: r => uptoBulk d + uptoBulkAll r
def uptoBulkEntries {H : Type} : List (Lit × DataW H) → Nat
  | [] => 0
  | x :: r => uptoBulkEntry x + uptoBulkEntries r
def uptoBulkEntry {H : Type} : Lit × DataW H → Nat
  | (.string bytes, d) => bytes.length + uptoBulk d + 1
  | (_, d) => uptoBulk d + 1
 end
def uptoSmall : (H : Type) → List (DataW H) → Bool := fun _ ds => decide (uptoBulkAll ds ≤ 1048576)
def OpenSpec.upto (s : _root_.Go.ChangeSpec) : _root_.Go.OpenSpec := { _root_.Go.OpenSpec.ofChange s with cond := some uptoSmall }

/-- 'windlasslaw03.CodeReads', WHERE WHAT IT READS IS OF BULK AT MOST 1048576: true; the input reads as it did. -/
def codeReadsUptoRow : OpenClaim := { program := "ytcaefdfdngecdaa", sum := "ba3ddd9ae43866c0d607304eec8e66fa2a207b29d19825b3fcb4ed3ab9ba9cbb", func := "windlass/windlasslaw03.CodeReads", spec := "codeReads", apart := false, narrowed := true }
def CodeReadsUptoSaid : Prop := codeReadsUptoRow.holds Try.pinned (OpenSpec.upto codeReadsSpec)

/-- 'windlasslaw03.CodeWrites', WHERE WHAT IT READS IS OF BULK AT MOST 1048576: true; the input reads as it did. -/
def codeWritesUptoRow : OpenClaim := { program := "ytcaefdfdngecdaa", sum := "ba3ddd9ae43866c0d607304eec8e66fa2a207b29d19825b3fcb4ed3ab9ba9cbb", func := "windlass/windlasslaw03.CodeWrites", spec := "codeWrites", apart := false, narrowed := true }
def CodeWritesUptoSaid : Prop := codeWritesUptoRow.holds Try.pinned (OpenSpec.upto codeWritesSpec)

/-- 'windlasslaw03.CodeCuts', WHERE WHAT IT READS IS OF BULK AT MOST 1048576: true; the input reads as it did. -/
def codeCutsUptoRow : OpenClaim := { program := "ytcaefdfdngecdaa", sum := "ba3ddd9ae43866c0d607304eec8e66fa2a207b29d19825b3fcb4ed3ab9ba9cbb", func := "windlass/windlasslaw03.CodeCuts", spec := "codeCuts", apart := false, narrowed := true }
def CodeCutsUptoSaid : Prop := codeCutsUptoRow.holds Try.pinned (OpenSpec.upto codeCutsSpec)

/-- 'windlasslaw03.CodeSizes', WHERE WHAT IT READS IS OF BULK AT MOST 1048576: true; the input reads as it did. -/
def codeSizesUptoRow : OpenClaim := { program := "ytcaefdfdngecdaa", sum := "ba3ddd9ae43866c0d607304eec8e66fa2a207b29d19825b3fcb4ed3ab9ba9cbb", func := "windlass/windlasslaw03.CodeSizes", spec := "codeSizes", apart := false, narrowed := true }
def CodeSizesUptoSaid : Prop := codeSizesUptoRow.holds Try.pinned (OpenSpec.upto codeSizesSpec)

/-- 'windlasslaw03.CodeBounds', WHERE WHAT IT READS IS OF BULK AT MOST 1048576: true; the input reads as it did. -/
def codeBoundsUptoRow : OpenClaim := { program := "ytcaefdfdngecdaa", sum := "ba3ddd9ae43866c0d607304eec8e66fa2a207b29d19825b3fcb4ed3ab9ba9cbb", func := "windlass/windlasslaw03.CodeBounds", spec := "codeBounds", unfollowed := true, recurses := true, apart := false, narrowed := true }
def CodeBoundsUptoSaid : Prop := codeBoundsUptoRow.holds Try.pinned (OpenSpec.upto codeBoundsSpec)

/-- 'windlasslaw03.CodeCopies', WHERE WHAT IT READS IS OF BULK AT MOST 1048576: true; the input reads as it did. -/
def codeCopiesUptoRow : OpenClaim := { program := "ytcaefdfdngecdaa", sum := "ba3ddd9ae43866c0d607304eec8e66fa2a207b29d19825b3fcb4ed3ab9ba9cbb", func := "windlass/windlasslaw03.CodeCopies", spec := "codeCopies", unfollowed := true, recurses := true, apart := false, narrowed := true }
def CodeCopiesUptoSaid : Prop := codeCopiesUptoRow.holds Try.pinned (OpenSpec.upto codeCopiesSpec)

end Rows
end Go.Proofs.Ytcaefdfdngecdaa
