/-
  DERIVED. GIVEN WITH THE SEED: THE CARDS: each row of YtljadeeoaoiilaaGreatDoorRows.lean that lists a variable, with what it lists TIED to the program's text (the seventh form; the later family's looks); each row that meets fmt, with fmt's text TOLD by the authors' own Lean function (tested against real Go, not proved from fmt's source: count such statements apart). THE CARD IS WHAT COUNTS. Prove the row's statement (the work); the ties are given (YtljadeeoaoiilaaGreatDoorTie.lean); close each card by the builder's one call (the guide's Derived/Test/ToyasCard.lean, 'card_holds'). Laid BY PROGRAM, IN A SANDBOX (cutbox-door.mjs). By AI agents, Wed Nov 11 2026. No macro, syntax, notation, axiom, sorry.
-/
import Derived.Test.YtljadeeoaoiilaaGreatDoorRows
import GoSem.ClaimSeven
namespace Go.Proofs.YtljadeeoaoiilaaGreatDoor
namespace Rows

/-- THE TIED CARD OF 'isoglosslaw06.TagRight'. -/
def tagRightCard : Claim7 := { stood := { row := tagRightRow, standIns := [], harness := (true, "f7c538afd50cd7ca5e7f4933e044878bca781ac74ed81f55236a633b32b8123d"), looks := false }, kinds := [], alts := [], laidByText := true, laidKinds := [.data], laidTests := true, laidLooks := .later }
def TagRightCardSaid : Prop := Claim7.holds Tryz.pinned (.plain (OpenSpec.ofChange tagRightSpec)) tagRightCard

/-- THE TIED CARD OF 'isoglosslaw06.TagParts'. -/
def tagPartsCard : Claim7 := { stood := { row := tagPartsRow, standIns := [], harness := (true, "f7c538afd50cd7ca5e7f4933e044878bca781ac74ed81f55236a633b32b8123d"), looks := false }, kinds := [], alts := [], laidByText := true, laidKinds := [.data], laidTests := true, laidLooks := .later }
def TagPartsCardSaid : Prop := Claim7.holds Tryz.pinned (.plain (OpenSpec.ofChange tagPartsSpec)) tagPartsCard

/-- THE SECOND FORM's CARD OF 'isoglosslaw06.TagRight'. -/
def tagRightUptoCard : Claim7 := { stood := { row := tagRightUptoRow, standIns := [], harness := (true, "f7c538afd50cd7ca5e7f4933e044878bca781ac74ed81f55236a633b32b8123d"), looks := false }, kinds := [], alts := [], laidByText := true, laidKinds := [.data], laidTests := true, laidLooks := .later }
def TagRightUptoCardSaid : Prop := Claim7.holds Tryz.pinned (.plain (OpenSpec.upto tagRightSpec)) tagRightUptoCard

/-- THE SECOND FORM's CARD OF 'isoglosslaw06.TagParts'. -/
def tagPartsUptoCard : Claim7 := { stood := { row := tagPartsUptoRow, standIns := [], harness := (true, "f7c538afd50cd7ca5e7f4933e044878bca781ac74ed81f55236a633b32b8123d"), looks := false }, kinds := [], alts := [], laidByText := true, laidKinds := [.data], laidTests := true, laidLooks := .later }
def TagPartsUptoCardSaid : Prop := Claim7.holds Tryz.pinned (.plain (OpenSpec.upto tagPartsSpec)) tagPartsUptoCard
end Rows
end Go.Proofs.YtljadeeoaoiilaaGreatDoor
