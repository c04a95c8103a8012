/-
  DERIVED. GIVEN WITH THE SEED: THE CARDS: each row of YtopifdkkmchoeaaDoorRows.lean that lists a variable, with what it lists TIED to the program's text (the seventh form; the later family's looks); each row that meets fmt, with fmt's text TOLD by the authors' own Lean function (tested against real Go, not proved from fmt's source: count such statements apart). THE CARD IS WHAT COUNTS. Prove the row's statement (the work); the ties are given (YtopifdkkmchoeaaDoorTie.lean); close each card by the builder's one call (the guide's Derived/Test/ToyasCard.lean, 'card_holds'). Laid BY PROGRAM, IN A SANDBOX (cutbox-door.mjs). By AI agents, Wed Nov 11 2026. No macro, syntax, notation, axiom, sorry.
-/
import Derived.Test.YtopifdkkmchoeaaDoorRows
import GoSem.ClaimSeven
namespace Go.Proofs.YtopifdkkmchoeaaDoor
namespace Rows

/-- THE TIED CARD OF 'windlasslaw10.BitsNil'. -/
def bitsNilCard : Claim7 := { stood := { row := bitsNilRow, standIns := [], harness := (true, "74abbadc986d029f6d5ebf4832a323baee63a6530c505ee60cc2bc6ed2d7059b"), looks := false }, kinds := [], alts := [], laidByText := true, laidKinds := [.data], laidTests := true, laidLooks := .later }
def BitsNilCardSaid : Prop := Claim7.holds Tryd.pinned (.plain (OpenSpec.ofChange bitsNilSpec)) bitsNilCard

/-- THE SECOND FORM's CARD OF 'windlasslaw10.BitsNil'. -/
def bitsNilUptoCard : Claim7 := { stood := { row := bitsNilUptoRow, standIns := [], harness := (true, "74abbadc986d029f6d5ebf4832a323baee63a6530c505ee60cc2bc6ed2d7059b"), looks := false }, kinds := [], alts := [], laidByText := true, laidKinds := [.data], laidTests := true, laidLooks := .later }
def BitsNilUptoCardSaid : Prop := Claim7.holds Tryd.pinned (.plain (OpenSpec.upto bitsNilSpec)) bitsNilUptoCard
end Rows
end Go.Proofs.YtopifdkkmchoeaaDoor
