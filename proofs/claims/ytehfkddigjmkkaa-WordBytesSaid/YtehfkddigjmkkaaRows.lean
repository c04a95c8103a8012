/-
  No cell of these rows narrows 'for every input' (looked for: loops, veiled, ifaces, maps, wideKeys, modest, calm, conditions, laid).
  DERIVED. THE GIVEN ROWS OF THIS SEAT. 7 by the template 'for every input the law returns true; each argument reads behind the call as it read before'; 0 by the template 'total and deterministic' (their statements: YtehfkddigjmkkaaTotals.lean).
  GIVEN WITH THE SEED: the statements are not yours to turn. If you find one false, say at which input.
  Laid BY PROGRAM, IN A SANDBOX (cutbox-rows.mjs): the forced cells as the released guide's own fill.sh prints them over the translation a4fb0f30cd0b2734… (all of the seat's roots in one cut). By AI agents, Wed Nov 11 2026. No macro, syntax, notation, axiom, sorry.
-/
import Derived.Test.YtehfkddigjmkkaaChecked
import GoSem.Claim
import GoSem.ClaimJoined
import GoSem.ClaimMapViews
import Derived.JoinedTies
import Derived.KernelRfl
namespace Go.Proofs.Ytehfkddigjmkkaa
/- THE CELL 'sum', in the pinned program and in every row, IS THE sha256 OF THE DUMP (.gsa) THAT YtehfkddigjmkkaaProg.lean LOADS. Nothing in Lean hashes anything: it is a label: what it is worth is what the hold of that sum in a sandbox is worth. -/
noncomputable def Try.pinned : Pinned := { name := "ytehfkddigjmkkaa", sum := "a4fb0f30cd0b27342323dab80ececa098eee594f3f917f25ed9d1f34447e9091", checked := Try.checked }
namespace Rows
def none {H : Type} : Left H := { results := [], args := [] }

/-- 'windlasslaw01.WordDo': WHATEVER THE INPUT: true; the input reads as it did. -/
def wordDoSpec : ChangeSpec := { name := "wordDo", fn := fun _ => fun
  | [d1, d2, d3] => { results := [.lit (.bool true)], args := [d1, d2, d3] }
  | _ => none }
def wordDoRow : OpenClaim := { program := "ytehfkddigjmkkaa", sum := "a4fb0f30cd0b27342323dab80ececa098eee594f3f917f25ed9d1f34447e9091", func := "windlass/windlasslaw01.WordDo", spec := "wordDo", apart := false }
def WordDoSaid : Prop := wordDoRow.holds Try.pinned (OpenSpec.ofChange wordDoSpec)

/-- ITS FALSE NEIGHBOUR: 'it returns false'. Refute it at one input. -/
def wordDoWrong : ChangeSpec := { name := "wordDo", fn := fun _ => fun
  | [d1, d2, d3] => { results := [.lit (.bool false)], args := [d1, d2, d3] }
  | _ => none }
def WordDoWrongFalsely : Prop := wordDoRow.holds Try.pinned (OpenSpec.ofChange wordDoWrong)

/-- 'windlasslaw01.WordLaws': WHATEVER THE INPUT: true; the input reads as it did. -/
def wordLawsSpec : ChangeSpec := { name := "wordLaws", fn := fun _ => fun
  | [d1, d2] => { results := [.lit (.bool true)], args := [d1, d2] }
  | _ => none }
def wordLawsRow : OpenClaim := { program := "ytehfkddigjmkkaa", sum := "a4fb0f30cd0b27342323dab80ececa098eee594f3f917f25ed9d1f34447e9091", func := "windlass/windlasslaw01.WordLaws", spec := "wordLaws", apart := false }
def WordLawsSaid : Prop := wordLawsRow.holds Try.pinned (OpenSpec.ofChange wordLawsSpec)

/-- ITS FALSE NEIGHBOUR: 'it returns false'. Refute it at one input. -/
def wordLawsWrong : ChangeSpec := { name := "wordLaws", fn := fun _ => fun
  | [d1, d2] => { results := [.lit (.bool false)], args := [d1, d2] }
  | _ => none }
def WordLawsWrongFalsely : Prop := wordLawsRow.holds Try.pinned (OpenSpec.ofChange wordLawsWrong)

/-- 'windlasslaw01.WordBytes': WHATEVER THE INPUT: true; the input reads as it did. -/
def wordBytesSpec : ChangeSpec := { name := "wordBytes", fn := fun _ => fun
  | [d1, d2, d3] => { results := [.lit (.bool true)], args := [d1, d2, d3] }
  | _ => none }
def wordBytesRow : OpenClaim := { program := "ytehfkddigjmkkaa", sum := "a4fb0f30cd0b27342323dab80ececa098eee594f3f917f25ed9d1f34447e9091", func := "windlass/windlasslaw01.WordBytes", spec := "wordBytes", apart := false }
def WordBytesSaid : Prop := wordBytesRow.holds Try.pinned (OpenSpec.ofChange wordBytesSpec)

/-- ITS FALSE NEIGHBOUR: 'it returns false'. Refute it at one input. -/
def wordBytesWrong : ChangeSpec := { name := "wordBytes", fn := fun _ => fun
  | [d1, d2, d3] => { results := [.lit (.bool false)], args := [d1, d2, d3] }
  | _ => none }
def WordBytesWrongFalsely : Prop := wordBytesRow.holds Try.pinned (OpenSpec.ofChange wordBytesWrong)

/-- 'windlasslaw01.WordShifts': WHATEVER THE INPUT: true; the input reads as it did. -/
def wordShiftsSpec : ChangeSpec := { name := "wordShifts", fn := fun _ => fun
  | [d1, d2, d3] => { results := [.lit (.bool true)], args := [d1, d2, d3] }
  | _ => none }
def wordShiftsRow : OpenClaim := { program := "ytehfkddigjmkkaa", sum := "a4fb0f30cd0b27342323dab80ececa098eee594f3f917f25ed9d1f34447e9091", func := "windlass/windlasslaw01.WordShifts", spec := "wordShifts", apart := false }
def WordShiftsSaid : Prop := wordShiftsRow.holds Try.pinned (OpenSpec.ofChange wordShiftsSpec)

/-- ITS FALSE NEIGHBOUR: 'it returns false'. Refute it at one input. -/
def wordShiftsWrong : ChangeSpec := { name := "wordShifts", fn := fun _ => fun
  | [d1, d2, d3] => { results := [.lit (.bool false)], args := [d1, d2, d3] }
  | _ => none }
def WordShiftsWrongFalsely : Prop := wordShiftsRow.holds Try.pinned (OpenSpec.ofChange wordShiftsWrong)

/-- 'windlasslaw01.WordOrders': WHATEVER THE INPUT: true; the input reads as it did. -/
def wordOrdersSpec : ChangeSpec := { name := "wordOrders", fn := fun _ => fun
  | [d1, d2, d3] => { results := [.lit (.bool true)], args := [d1, d2, d3] }
  | _ => none }
def wordOrdersRow : OpenClaim := { program := "ytehfkddigjmkkaa", sum := "a4fb0f30cd0b27342323dab80ececa098eee594f3f917f25ed9d1f34447e9091", func := "windlass/windlasslaw01.WordOrders", spec := "wordOrders", apart := false }
def WordOrdersSaid : Prop := wordOrdersRow.holds Try.pinned (OpenSpec.ofChange wordOrdersSpec)

/-- ITS FALSE NEIGHBOUR: 'it returns false'. Refute it at one input. -/
def wordOrdersWrong : ChangeSpec := { name := "wordOrders", fn := fun _ => fun
  | [d1, d2, d3] => { results := [.lit (.bool false)], args := [d1, d2, d3] }
  | _ => none }
def WordOrdersWrongFalsely : Prop := wordOrdersRow.holds Try.pinned (OpenSpec.ofChange wordOrdersWrong)

/-- 'windlasslaw01.WordBits': WHATEVER THE INPUT: true; the input reads as it did. -/
def wordBitsSpec : ChangeSpec := { name := "wordBits", fn := fun _ => fun
  | [d1, d2] => { results := [.lit (.bool true)], args := [d1, d2] }
  | _ => none }
def wordBitsRow : OpenClaim := { program := "ytehfkddigjmkkaa", sum := "a4fb0f30cd0b27342323dab80ececa098eee594f3f917f25ed9d1f34447e9091", func := "windlass/windlasslaw01.WordBits", spec := "wordBits", apart := false }
def WordBitsSaid : Prop := wordBitsRow.holds Try.pinned (OpenSpec.ofChange wordBitsSpec)

/-- ITS FALSE NEIGHBOUR: 'it returns false'. Refute it at one input. -/
def wordBitsWrong : ChangeSpec := { name := "wordBits", fn := fun _ => fun
  | [d1, d2] => { results := [.lit (.bool false)], args := [d1, d2] }
  | _ => none }
def WordBitsWrongFalsely : Prop := wordBitsRow.holds Try.pinned (OpenSpec.ofChange wordBitsWrong)

/-- 'windlasslaw01.WordTakes': WHATEVER THE INPUT: true; the input reads as it did. -/
def wordTakesSpec : ChangeSpec := { name := "wordTakes", fn := fun _ => fun
  | [d1, d2] => { results := [.lit (.bool true)], args := [d1, d2] }
  | _ => none }
def wordTakesRow : OpenClaim := { program := "ytehfkddigjmkkaa", sum := "a4fb0f30cd0b27342323dab80ececa098eee594f3f917f25ed9d1f34447e9091", func := "windlass/windlasslaw01.WordTakes", spec := "wordTakes", apart := false }
def WordTakesSaid : Prop := wordTakesRow.holds Try.pinned (OpenSpec.ofChange wordTakesSpec)

/-- ITS FALSE NEIGHBOUR: 'it returns false'. Refute it at one input. -/
def wordTakesWrong : ChangeSpec := { name := "wordTakes", fn := fun _ => fun
  | [d1, d2] => { results := [.lit (.bool false)], args := [d1, d2] }
  | _ => none }
def WordTakesWrongFalsely : Prop := wordTakesRow.holds Try.pinned (OpenSpec.ofChange wordTakesWrong)

/- THE SECOND FORM. 'bulk': how many values and letters a reading holds, each counted each time it is reached (what is shared counts as often as it is met; a slice's spare places count too). A statement '..UptoSaid' is the law's where the arguments, and the package variables that the reading takes, are together of bulk at most 1048576: NARROWER than '..Said'. Prove '..Said' where nothing that the law and all that it calls make is longer than what came in: it says more and counts as full. Else prove '..UptoSaid'. A law counts once. -/
mutual
def uptoBulk {H : Type} : DataW H → Nat
  | .lit (.string bytes) => bytes.length + 1
  | .lit _ => 1
  | .nil => 1
  | .ptr d => uptoBulk d + 1
  | .slice elems spare => uptoBulkAll elems + uptoBulkAll spare + 1
  | .agg parts => uptoBulkAll parts + 1
  | .iface _ d => uptoBulk d + 1
  | .map entries => uptoBulkEntries entries + 1
  | .held _ => 1
def uptoBulkAll {H : Type} : List (DataW H) → Nat
  | [] => 0
  | d :: r => uptoBulk d + uptoBulkAll r
def uptoBulkEntries {H : Type} : List (Lit × DataW H) → Nat
  | [] => 0
  | x :: r => uptoBulkEntry x + uptoBulkEntries r
def uptoBulkEntry {H : Type} : Lit × DataW H → Nat
  | (.string bytes, d) => bytes.length + uptoBulk d + 1
  | (_, d) => uptoBulk d + 1
 end
def uptoSmall : (H : Type) → List (DataW H) → Bool := fun _ ds => decide (uptoBulkAll ds ≤ 1048576)
def OpenSpec.upto (s : _root_.Go.ChangeSpec) : _root_.Go.OpenSpec := { _root_.Go.OpenSpec.ofChange s with cond := some uptoSmall }

/-- 'windlasslaw01.WordDo', WHERE WHAT IT READS IS OF BULK AT MOST 1048576: true; the input reads as it did. -/
def wordDoUptoRow : OpenClaim := { program := "ytehfkddigjmkkaa", sum := "a4fb0f30cd0b27342323dab80ececa098eee594f3f917f25ed9d1f34447e9091", func := "windlass/windlasslaw01.WordDo", spec := "wordDo", apart := false, narrowed := true }
def WordDoUptoSaid : Prop := wordDoUptoRow.holds Try.pinned (OpenSpec.upto wordDoSpec)

/-- 'windlasslaw01.WordLaws', WHERE WHAT IT READS IS OF BULK AT MOST 1048576: true; the input reads as it did. -/
def wordLawsUptoRow : OpenClaim := { program := "ytehfkddigjmkkaa", sum := "a4fb0f30cd0b27342323dab80ececa098eee594f3f917f25ed9d1f34447e9091", func := "windlass/windlasslaw01.WordLaws", spec := "wordLaws", apart := false, narrowed := true }
def WordLawsUptoSaid : Prop := wordLawsUptoRow.holds Try.pinned (OpenSpec.upto wordLawsSpec)

/-- 'windlasslaw01.WordBytes', WHERE WHAT IT READS IS OF BULK AT MOST 1048576: true; the input reads as it did. -/
def wordBytesUptoRow : OpenClaim := { program := "ytehfkddigjmkkaa", sum := "a4fb0f30cd0b27342323dab80ececa098eee594f3f917f25ed9d1f34447e9091", func := "windlass/windlasslaw01.WordBytes", spec := "wordBytes", apart := false, narrowed := true }
def WordBytesUptoSaid : Prop := wordBytesUptoRow.holds Try.pinned (OpenSpec.upto wordBytesSpec)

/-- 'windlasslaw01.WordShifts', WHERE WHAT IT READS IS OF BULK AT MOST 1048576: true; the input reads as it did. -/
def wordShiftsUptoRow : OpenClaim := { program := "ytehfkddigjmkkaa", sum := "a4fb0f30cd0b27342323dab80ececa098eee594f3f917f25ed9d1f34447e9091", func := "windlass/windlasslaw01.WordShifts", spec := "wordShifts", apart := false, narrowed := true }
def WordShiftsUptoSaid : Prop := wordShiftsUptoRow.holds Try.pinned (OpenSpec.upto wordShiftsSpec)

/-- 'windlasslaw01.WordOrders', WHERE WHAT IT READS IS OF BULK AT MOST 1048576: true; the input reads as it did. -/
def wordOrdersUptoRow : OpenClaim := { program := "ytehfkddigjmkkaa", sum := "a4fb0f30cd0b27342323dab80ececa098eee594f3f917f25ed9d1f34447e9091", func := "windlass/windlasslaw01.WordOrders", spec := "wordOrders", apart := false, narrowed := true }
def WordOrdersUptoSaid : Prop := wordOrdersUptoRow.holds Try.pinned (OpenSpec.upto wordOrdersSpec)

/-- 'windlasslaw01.WordBits', WHERE WHAT IT READS IS OF BULK AT MOST 1048576: true; the input reads as it did. -/
def wordBitsUptoRow : OpenClaim := { program := "ytehfkddigjmkkaa", sum := "a4fb0f30cd0b27342323dab80ececa098eee594f3f917f25ed9d1f34447e9091", func := "windlass/windlasslaw01.WordBits", spec := "wordBits", apart := false, narrowed := true }
def WordBitsUptoSaid : Prop := wordBitsUptoRow.holds Try.pinned (OpenSpec.upto wordBitsSpec)

/-- 'windlasslaw01.WordTakes', WHERE WHAT IT READS IS OF BULK AT MOST 1048576: true; the input reads as it did. -/
def wordTakesUptoRow : OpenClaim := { program := "ytehfkddigjmkkaa", sum := "a4fb0f30cd0b27342323dab80ececa098eee594f3f917f25ed9d1f34447e9091", func := "windlass/windlasslaw01.WordTakes", spec := "wordTakes", apart := false, narrowed := true }
def WordTakesUptoSaid : Prop := wordTakesUptoRow.holds Try.pinned (OpenSpec.upto wordTakesSpec)

end Rows
end Go.Proofs.Ytehfkddigjmkkaa
