/-
  DERIVED. GIVEN WITH THE SEED: THE CARDS: each row of YtnfjjliiajaijaaDoorRows.lean that lists a variable, with what it lists TIED to the program's text (the seventh form; the later family's looks); each row that meets fmt, with fmt's text TOLD by the authors' own Lean function (tested against real Go, not proved from fmt's source: count such statements apart). THE CARD IS WHAT COUNTS. Prove the row's statement (the work); the ties are given (YtnfjjliiajaijaaDoorTie.lean); close each card by the builder's one call (the guide's Derived/Test/ToyasCard.lean, 'card_holds'). Laid BY PROGRAM, IN A SANDBOX (cutbox-door.mjs). By AI agents, Wed Nov 11 2026. No macro, syntax, notation, axiom, sorry.
-/
import Derived.Test.YtnfjjliiajaijaaDoorRows
import GoSem.ClaimSeven
namespace Go.Proofs.YtnfjjliiajaijaaDoor
namespace Rows

/-- THE TIED CARD OF 'windlasslaw21.EmitForm'. -/
def emitFormCard : Claim7 := { stood := { row := emitFormRow, standIns := [], harness := (true, "b49ac9948d6763d3bc9c58c5f2e37cde7c8867bc56f4cf0be973085fa24473ec"), looks := false }, kinds := [], alts := [], laidByText := true, laidKinds := [.data], laidTests := true, laidLooks := .later }
def EmitFormCardSaid : Prop := Claim7.holds Tryd.pinned (.plain (OpenSpec.ofChange emitFormSpec)) emitFormCard

/-- THE TIED CARD OF 'windlasslaw21.EmitAgain'. -/
def emitAgainCard : Claim7 := { stood := { row := emitAgainRow, standIns := [], harness := (true, "b49ac9948d6763d3bc9c58c5f2e37cde7c8867bc56f4cf0be973085fa24473ec"), looks := false }, kinds := [], alts := [], laidByText := true, laidKinds := [.data], laidTests := true, laidLooks := .later }
def EmitAgainCardSaid : Prop := Claim7.holds Tryd.pinned (.plain (OpenSpec.ofChange emitAgainSpec)) emitAgainCard

/-- THE TIED CARD OF 'windlasslaw21.EmitSaves'. -/
def emitSavesCard : Claim7 := { stood := { row := emitSavesRow, standIns := [], harness := (true, "b49ac9948d6763d3bc9c58c5f2e37cde7c8867bc56f4cf0be973085fa24473ec"), looks := false }, kinds := [], alts := [], laidByText := true, laidKinds := [.data], laidTests := true, laidLooks := .later }
def EmitSavesCardSaid : Prop := Claim7.holds Tryd.pinned (.plain (OpenSpec.ofChange emitSavesSpec)) emitSavesCard

/-- THE SECOND FORM's CARD OF 'windlasslaw21.EmitForm'. -/
def emitFormUptoCard : Claim7 := { stood := { row := emitFormUptoRow, standIns := [], harness := (true, "b49ac9948d6763d3bc9c58c5f2e37cde7c8867bc56f4cf0be973085fa24473ec"), looks := false }, kinds := [], alts := [], laidByText := true, laidKinds := [.data], laidTests := true, laidLooks := .later }
def EmitFormUptoCardSaid : Prop := Claim7.holds Tryd.pinned (.plain (OpenSpec.upto emitFormSpec)) emitFormUptoCard

/-- THE SECOND FORM's CARD OF 'windlasslaw21.EmitAgain'. -/
def emitAgainUptoCard : Claim7 := { stood := { row := emitAgainUptoRow, standIns := [], harness := (true, "b49ac9948d6763d3bc9c58c5f2e37cde7c8867bc56f4cf0be973085fa24473ec"), looks := false }, kinds := [], alts := [], laidByText := true, laidKinds := [.data], laidTests := true, laidLooks := .later }
def EmitAgainUptoCardSaid : Prop := Claim7.holds Tryd.pinned (.plain (OpenSpec.upto emitAgainSpec)) emitAgainUptoCard

/-- THE SECOND FORM's CARD OF 'windlasslaw21.EmitSaves'. -/
def emitSavesUptoCard : Claim7 := { stood := { row := emitSavesUptoRow, standIns := [], harness := (true, "b49ac9948d6763d3bc9c58c5f2e37cde7c8867bc56f4cf0be973085fa24473ec"), looks := false }, kinds := [], alts := [], laidByText := true, laidKinds := [.data], laidTests := true, laidLooks := .later }
def EmitSavesUptoCardSaid : Prop := Claim7.holds Tryd.pinned (.plain (OpenSpec.upto emitSavesSpec)) emitSavesUptoCard
end Rows
end Go.Proofs.YtnfjjliiajaijaaDoor
