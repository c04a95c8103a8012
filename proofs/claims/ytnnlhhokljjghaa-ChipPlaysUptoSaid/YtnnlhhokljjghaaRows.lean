/-
  No cell of these rows narrows 'for every input' (looked for: loops, veiled, ifaces, maps, wideKeys, modest, calm, conditions, laid).
  DERIVED. THE GIVEN ROWS OF THIS SEAT. 6 by the template 'for every input the law returns true; each argument reads behind the call as it read before'; 0 by the template 'total and deterministic' (their statements: YtnnlhhokljjghaaTotals.lean).
  GIVEN WITH THE SEED: the statements are not yours to turn. If you find one false, say at which input.
  Laid BY PROGRAM, IN A SANDBOX (cutbox-rows.mjs): the forced cells as the released guide's own fill.sh prints them over the translation 1510ddef96f8bda7… (all of the seat's roots in one cut). By AI agents, Wed Nov 11 2026. No macro, syntax, notation, axiom, sorry.
-/
import Derived.Test.YtnnlhhokljjghaaChecked
import GoSem.Claim
import GoSem.ClaimJoined
import GoSem.ClaimMapViews
import Derived.JoinedTies
import Derived.KernelRfl
namespace Go.Proofs.Ytnnlhhokljjghaa
/- THE CELL 'sum', in the pinned program and in every row, IS THE sha256 OF THE DUMP (.gsa) THAT YtnnlhhokljjghaaProg.lean LOADS. Nothing in Lean hashes anything: it is a label: what it is worth is what the hold of that sum in a sandbox is worth. -/
noncomputable def Try.pinned : Pinned := { name := "ytnnlhhokljjghaa", sum := "1510ddef96f8bda770daeef5b12431cee729be1e4fec736f7ac27e01f67db3c9", checked := Try.checked }
namespace Rows
def none {H : Type} : Left H := { results := [], args := [] }

/-- 'windlasslaw20.ChipCodes': WHATEVER THE INPUT: true; the input reads as it did. -/
def chipCodesSpec : ChangeSpec := { name := "chipCodes", fn := fun _ => fun
  | [d1, d2] => { results := [.lit (.bool true)], args := [d1, d2] }
  | _ => none }
def chipCodesRow : OpenClaim := { program := "ytnnlhhokljjghaa", sum := "1510ddef96f8bda770daeef5b12431cee729be1e4fec736f7ac27e01f67db3c9", func := "windlass/windlasslaw20.ChipCodes", spec := "chipCodes", inPlace := ["internal/bytealg.IndexByte"], apart := false }
def ChipCodesSaid : Prop := chipCodesRow.holds Try.pinned (OpenSpec.ofChange chipCodesSpec)

/-- ITS FALSE NEIGHBOUR: 'it returns false'. Refute it at one input. -/
def chipCodesWrong : ChangeSpec := { name := "chipCodes", fn := fun _ => fun
  | [d1, d2] => { results := [.lit (.bool false)], args := [d1, d2] }
  | _ => none }
def ChipCodesWrongFalsely : Prop := chipCodesRow.holds Try.pinned (OpenSpec.ofChange chipCodesWrong)

/-- 'windlasslaw20.ChipLoops': WHATEVER THE INPUT: true; the input reads as it did. -/
def chipLoopsSpec : ChangeSpec := { name := "chipLoops", fn := fun _ => fun
  | [d1, d2] => { results := [.lit (.bool true)], args := [d1, d2] }
  | _ => none }
def chipLoopsRow : OpenClaim := { program := "ytnnlhhokljjghaa", sum := "1510ddef96f8bda770daeef5b12431cee729be1e4fec736f7ac27e01f67db3c9", func := "windlass/windlasslaw20.ChipLoops", spec := "chipLoops", inPlace := ["internal/bytealg.IndexByte"], apart := false }
def ChipLoopsSaid : Prop := chipLoopsRow.holds Try.pinned (OpenSpec.ofChange chipLoopsSpec)

/-- ITS FALSE NEIGHBOUR: 'it returns false'. Refute it at one input. -/
def chipLoopsWrong : ChangeSpec := { name := "chipLoops", fn := fun _ => fun
  | [d1, d2] => { results := [.lit (.bool false)], args := [d1, d2] }
  | _ => none }
def ChipLoopsWrongFalsely : Prop := chipLoopsRow.holds Try.pinned (OpenSpec.ofChange chipLoopsWrong)

/-- 'windlasslaw20.ChipWords': WHATEVER THE INPUT: true; the input reads as it did. -/
def chipWordsSpec : ChangeSpec := { name := "chipWords", fn := fun _ => fun
  | [d1, d2, d3] => { results := [.lit (.bool true)], args := [d1, d2, d3] }
  | _ => none }
def chipWordsRow : OpenClaim := { program := "ytnnlhhokljjghaa", sum := "1510ddef96f8bda770daeef5b12431cee729be1e4fec736f7ac27e01f67db3c9", func := "windlass/windlasslaw20.ChipWords", spec := "chipWords", inPlace := ["internal/bytealg.IndexByte"], apart := false }
def ChipWordsSaid : Prop := chipWordsRow.holds Try.pinned (OpenSpec.ofChange chipWordsSpec)

/-- ITS FALSE NEIGHBOUR: 'it returns false'. Refute it at one input. -/
def chipWordsWrong : ChangeSpec := { name := "chipWords", fn := fun _ => fun
  | [d1, d2, d3] => { results := [.lit (.bool false)], args := [d1, d2, d3] }
  | _ => none }
def ChipWordsWrongFalsely : Prop := chipWordsRow.holds Try.pinned (OpenSpec.ofChange chipWordsWrong)

/-- 'windlasslaw20.ChipCalls': WHATEVER THE INPUT: true; the input reads as it did. -/
def chipCallsSpec : ChangeSpec := { name := "chipCalls", fn := fun _ => fun
  | [d1, d2] => { results := [.lit (.bool true)], args := [d1, d2] }
  | _ => none }
def chipCallsRow : OpenClaim := { program := "ytnnlhhokljjghaa", sum := "1510ddef96f8bda770daeef5b12431cee729be1e4fec736f7ac27e01f67db3c9", func := "windlass/windlasslaw20.ChipCalls", spec := "chipCalls", inPlace := ["internal/bytealg.IndexByte"], apart := false }
def ChipCallsSaid : Prop := chipCallsRow.holds Try.pinned (OpenSpec.ofChange chipCallsSpec)

/-- ITS FALSE NEIGHBOUR: 'it returns false'. Refute it at one input. -/
def chipCallsWrong : ChangeSpec := { name := "chipCalls", fn := fun _ => fun
  | [d1, d2] => { results := [.lit (.bool false)], args := [d1, d2] }
  | _ => none }
def ChipCallsWrongFalsely : Prop := chipCallsRow.holds Try.pinned (OpenSpec.ofChange chipCallsWrong)

/-- 'windlasslaw20.ChipPlays': WHATEVER THE INPUT: true; the input reads as it did. -/
def chipPlaysSpec : ChangeSpec := { name := "chipPlays", fn := fun _ => fun
  | [d1, d2, d3] => { results := [.lit (.bool true)], args := [d1, d2, d3] }
  | _ => none }
def chipPlaysRow : OpenClaim := { program := "ytnnlhhokljjghaa", sum := "1510ddef96f8bda770daeef5b12431cee729be1e4fec736f7ac27e01f67db3c9", func := "windlass/windlasslaw20.ChipPlays", spec := "chipPlays", inPlace := ["internal/bytealg.IndexByte"], apart := false }
def ChipPlaysSaid : Prop := chipPlaysRow.holds Try.pinned (OpenSpec.ofChange chipPlaysSpec)

/-- ITS FALSE NEIGHBOUR: 'it returns false'. Refute it at one input. -/
def chipPlaysWrong : ChangeSpec := { name := "chipPlays", fn := fun _ => fun
  | [d1, d2, d3] => { results := [.lit (.bool false)], args := [d1, d2, d3] }
  | _ => none }
def ChipPlaysWrongFalsely : Prop := chipPlaysRow.holds Try.pinned (OpenSpec.ofChange chipPlaysWrong)

/-- 'windlasslaw20.ChipNil': WHATEVER THE INPUT: true; the input reads as it did. -/
def chipNilSpec : ChangeSpec := { name := "chipNil", fn := fun _ => fun
  | [d1, d2, d3] => { results := [.lit (.bool true)], args := [d1, d2, d3] }
  | _ => none }
def chipNilRow : OpenClaim := { program := "ytnnlhhokljjghaa", sum := "1510ddef96f8bda770daeef5b12431cee729be1e4fec736f7ac27e01f67db3c9", func := "windlass/windlasslaw20.ChipNil", spec := "chipNil", inPlace := ["internal/bytealg.IndexByte"], apart := false }
def ChipNilSaid : Prop := chipNilRow.holds Try.pinned (OpenSpec.ofChange chipNilSpec)

/-- ITS FALSE NEIGHBOUR: 'it returns false'. Refute it at one input. -/
def chipNilWrong : ChangeSpec := { name := "chipNil", fn := fun _ => fun
  | [d1, d2, d3] => { results := [.lit (.bool false)], args := [d1, d2, d3] }
  | _ => none }
def ChipNilWrongFalsely : Prop := chipNilRow.holds Try.pinned (OpenSpec.ofChange chipNilWrong)

/- THE SECOND FORM. 'bulk': how many values and letters a reading holds, each counted each time it is reached (what is shared counts as often as it is met; a slice's spare places count too). A statement '..UptoSaid' is the law's where the arguments, and the package variables that the reading takes, are together of bulk at most 1048576: NARROWER than '..Said'. Prove '..Said' where nothing that the law and all that it calls make is longer than what came in: it says more and counts as full. Else prove '..UptoSaid'. A law counts once. -/
mutual
def uptoBulk {H : Type} : DataW H → Nat
  | .lit (.string bytes) => bytes.length + 1
  | .lit _ => 1
  | .nil => 1
  | .ptr d => uptoBulk d + 1
  | .slice elems spare => uptoBulkAll elems + uptoBulkAll spare + 1
  | .agg parts => uptoBulkAll parts + 1
  | .iface _ d => uptoBulk d + 1
  | .map entries => uptoBulkEntries entries + 1
  | .held _ => 1
def uptoBulkAll {H : Type} : List (DataW H) → Nat
  | [] => 0
  | d :: r => uptoBulk d + uptoBulkAll r
def uptoBulkEntries {H : Type} : List (Lit × DataW H) → Nat
  | [] => 0
  | x :: r => uptoBulkEntry x + uptoBulkEntries r
def uptoBulkEntry {H : Type} : Lit × DataW H → Nat
  | (.string bytes, d) => bytes.length + uptoBulk d + 1
  | (_, d) => uptoBulk d + 1
 end
def uptoSmall : (H : Type) → List (DataW H) → Bool := fun _ ds => decide (uptoBulkAll ds ≤ 1048576)
def OpenSpec.upto (s : _root_.Go.ChangeSpec) : _root_.Go.OpenSpec := { _root_.Go.OpenSpec.ofChange s with cond := some uptoSmall }

/-- 'windlasslaw20.ChipCodes', WHERE WHAT IT READS IS OF BULK AT MOST 1048576: true; the input reads as it did. -/
def chipCodesUptoRow : OpenClaim := { program := "ytnnlhhokljjghaa", sum := "1510ddef96f8bda770daeef5b12431cee729be1e4fec736f7ac27e01f67db3c9", func := "windlass/windlasslaw20.ChipCodes", spec := "chipCodes", inPlace := ["internal/bytealg.IndexByte"], apart := false, narrowed := true }
def ChipCodesUptoSaid : Prop := chipCodesUptoRow.holds Try.pinned (OpenSpec.upto chipCodesSpec)

/-- 'windlasslaw20.ChipLoops', WHERE WHAT IT READS IS OF BULK AT MOST 1048576: true; the input reads as it did. -/
def chipLoopsUptoRow : OpenClaim := { program := "ytnnlhhokljjghaa", sum := "1510ddef96f8bda770daeef5b12431cee729be1e4fec736f7ac27e01f67db3c9", func := "windlass/windlasslaw20.ChipLoops", spec := "chipLoops", inPlace := ["internal/bytealg.IndexByte"], apart := false, narrowed := true }
def ChipLoopsUptoSaid : Prop := chipLoopsUptoRow.holds Try.pinned (OpenSpec.upto chipLoopsSpec)

/-- 'windlasslaw20.ChipWords', WHERE WHAT IT READS IS OF BULK AT MOST 1048576: true; the input reads as it did. -/
def chipWordsUptoRow : OpenClaim := { program := "ytnnlhhokljjghaa", sum := "1510ddef96f8bda770daeef5b12431cee729be1e4fec736f7ac27e01f67db3c9", func := "windlass/windlasslaw20.ChipWords", spec := "chipWords", inPlace := ["internal/bytealg.IndexByte"], apart := false, narrowed := true }
def ChipWordsUptoSaid : Prop := chipWordsUptoRow.holds Try.pinned (OpenSpec.upto chipWordsSpec)

/-- 'windlasslaw20.ChipCalls', WHERE WHAT IT READS IS OF BULK AT MOST 1048576: true; the input reads as it did. -/
def chipCallsUptoRow : OpenClaim := { program := "ytnnlhhokljjghaa", sum := "1510ddef96f8bda770daeef5b12431cee729be1e4fec736f7ac27e01f67db3c9", func := "windlass/windlasslaw20.ChipCalls", spec := "chipCalls", inPlace := ["internal/bytealg.IndexByte"], apart := false, narrowed := true }
def ChipCallsUptoSaid : Prop := chipCallsUptoRow.holds Try.pinned (OpenSpec.upto chipCallsSpec)

/-- 'windlasslaw20.ChipPlays', WHERE WHAT IT READS IS OF BULK AT MOST 1048576: true; the input reads as it did. -/
def chipPlaysUptoRow : OpenClaim := { program := "ytnnlhhokljjghaa", sum := "1510ddef96f8bda770daeef5b12431cee729be1e4fec736f7ac27e01f67db3c9", func := "windlass/windlasslaw20.ChipPlays", spec := "chipPlays", inPlace := ["internal/bytealg.IndexByte"], apart := false, narrowed := true }
def ChipPlaysUptoSaid : Prop := chipPlaysUptoRow.holds Try.pinned (OpenSpec.upto chipPlaysSpec)

/-- 'windlasslaw20.ChipNil', WHERE WHAT IT READS IS OF BULK AT MOST 1048576: true; the input reads as it did. -/
def chipNilUptoRow : OpenClaim := { program := "ytnnlhhokljjghaa", sum := "1510ddef96f8bda770daeef5b12431cee729be1e4fec736f7ac27e01f67db3c9", func := "windlass/windlasslaw20.ChipNil", spec := "chipNil", inPlace := ["internal/bytealg.IndexByte"], apart := false, narrowed := true }
def ChipNilUptoSaid : Prop := chipNilUptoRow.holds Try.pinned (OpenSpec.upto chipNilSpec)

end Rows
end Go.Proofs.Ytnnlhhokljjghaa
