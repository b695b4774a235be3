/-
  DERIVED. GIVEN WITH THE SEED: THE CARDS: each row of YtmkjifljciajbaaDoorRows.lean that lists a variable, with what it lists TIED to the program's text (the seventh form; the later family's looks); each row that meets fmt, with fmt's text TOLD by the authors' own Lean function (tested against real Go, not proved from fmt's source: count such statements apart). THE CARD IS WHAT COUNTS. Prove the row's statement (the work); the ties are given (YtmkjifljciajbaaDoorTie.lean); close each card by the builder's one call (the guide's Derived/Test/ToyasCard.lean, 'card_holds'). Laid BY PROGRAM, IN A SANDBOX (cutbox-door.mjs). By AI agents, Wed Nov 11 2026. No macro, syntax, notation, axiom, sorry.
-/
import Derived.Test.YtmkjifljciajbaaDoorRows
import GoSem.ClaimSeven
namespace Go.Proofs.YtmkjifljciajbaaDoor
namespace Rows

/-- THE TIED CARD OF 'isoglosslaw04.SplitTrims'. -/
def splitTrimsCard : Claim7 := { stood := { row := splitTrimsRow, standIns := [], harness := (true, "ab73d1e70cab45ae27bf233c07f57c25fba5a66e544c7ae9e34120b3fb80b149"), looks := true }, kinds := [], alts := [], laidByText := true, laidKinds := [.handle], laidTests := true, laidLooks := .later }
def SplitTrimsCardSaid : Prop := Claim7.holds Tryd.pinned (.plain (OpenSpec.ofChange splitTrimsSpec)) splitTrimsCard

/-- THE TIED CARD OF 'isoglosslaw04.SplitStops'. -/
def splitStopsCard : Claim7 := { stood := { row := splitStopsRow, standIns := [], harness := (true, "ab73d1e70cab45ae27bf233c07f57c25fba5a66e544c7ae9e34120b3fb80b149"), looks := true }, kinds := [], alts := [], laidByText := true, laidKinds := [.handle], laidTests := true, laidLooks := .later }
def SplitStopsCardSaid : Prop := Claim7.holds Tryd.pinned (.plain (OpenSpec.ofChange splitStopsSpec)) splitStopsCard

/-- THE TIED CARD OF 'isoglosslaw04.SplitParts'. -/
def splitPartsCard : Claim7 := { stood := { row := splitPartsRow, standIns := [], harness := (true, "ab73d1e70cab45ae27bf233c07f57c25fba5a66e544c7ae9e34120b3fb80b149"), looks := true }, kinds := [], alts := [], laidByText := true, laidKinds := [.handle], laidTests := true, laidLooks := .later }
def SplitPartsCardSaid : Prop := Claim7.holds Tryd.pinned (.plain (OpenSpec.ofChange splitPartsSpec)) splitPartsCard

/-- THE TIED CARD OF 'isoglosslaw04.SplitTells'. -/
def splitTellsCard : Claim7 := { stood := { row := splitTellsRow, standIns := [], harness := (true, "ab73d1e70cab45ae27bf233c07f57c25fba5a66e544c7ae9e34120b3fb80b149"), looks := true }, kinds := [], alts := [], laidByText := true, laidKinds := [.handle], laidTests := true, laidLooks := .later }
def SplitTellsCardSaid : Prop := Claim7.holds Tryd.pinned (.plain (OpenSpec.ofChange splitTellsSpec)) splitTellsCard

/-- THE TIED CARD OF 'isoglosslaw04.SplitJoins'. -/
def splitJoinsCard : Claim7 := { stood := { row := splitJoinsRow, standIns := [], harness := (true, "ab73d1e70cab45ae27bf233c07f57c25fba5a66e544c7ae9e34120b3fb80b149"), looks := true }, kinds := [], alts := [], laidByText := true, laidKinds := [.handle], laidTests := true, laidLooks := .later }
def SplitJoinsCardSaid : Prop := Claim7.holds Tryd.pinned (.plain (OpenSpec.ofChange splitJoinsSpec)) splitJoinsCard

/-- THE TIED CARD OF 'isoglosslaw04.SplitChecks'. -/
def splitChecksCard : Claim7 := { stood := { row := splitChecksRow, standIns := [], harness := (true, "ab73d1e70cab45ae27bf233c07f57c25fba5a66e544c7ae9e34120b3fb80b149"), looks := true }, kinds := [], alts := [], laidByText := true, laidKinds := [.handle], laidTests := true, laidLooks := .later }
def SplitChecksCardSaid : Prop := Claim7.holds Tryd.pinned (.plain (OpenSpec.ofChange splitChecksSpec)) splitChecksCard

/-- THE SECOND FORM's CARD OF 'isoglosslaw04.SplitTrims'. -/
def splitTrimsUptoCard : Claim7 := { stood := { row := splitTrimsUptoRow, standIns := [], harness := (true, "ab73d1e70cab45ae27bf233c07f57c25fba5a66e544c7ae9e34120b3fb80b149"), looks := true }, kinds := [], alts := [], laidByText := true, laidKinds := [.handle], laidTests := true, laidLooks := .later }
def SplitTrimsUptoCardSaid : Prop := Claim7.holds Tryd.pinned (.plain (OpenSpec.upto splitTrimsSpec)) splitTrimsUptoCard

/-- THE SECOND FORM's CARD OF 'isoglosslaw04.SplitStops'. -/
def splitStopsUptoCard : Claim7 := { stood := { row := splitStopsUptoRow, standIns := [], harness := (true, "ab73d1e70cab45ae27bf233c07f57c25fba5a66e544c7ae9e34120b3fb80b149"), looks := true }, kinds := [], alts := [], laidByText := true, laidKinds := [.handle], laidTests := true, laidLooks := .later }
def SplitStopsUptoCardSaid : Prop := Claim7.holds Tryd.pinned (.plain (OpenSpec.upto splitStopsSpec)) splitStopsUptoCard

/-- THE SECOND FORM's CARD OF 'isoglosslaw04.SplitParts'. -/
def splitPartsUptoCard : Claim7 := { stood := { row := splitPartsUptoRow, standIns := [], harness := (true, "ab73d1e70cab45ae27bf233c07f57c25fba5a66e544c7ae9e34120b3fb80b149"), looks := true }, kinds := [], alts := [], laidByText := true, laidKinds := [.handle], laidTests := true, laidLooks := .later }
def SplitPartsUptoCardSaid : Prop := Claim7.holds Tryd.pinned (.plain (OpenSpec.upto splitPartsSpec)) splitPartsUptoCard

/-- THE SECOND FORM's CARD OF 'isoglosslaw04.SplitTells'. -/
def splitTellsUptoCard : Claim7 := { stood := { row := splitTellsUptoRow, standIns := [], harness := (true, "ab73d1e70cab45ae27bf233c07f57c25fba5a66e544c7ae9e34120b3fb80b149"), looks := true }, kinds := [], alts := [], laidByText := true, laidKinds := [.handle], laidTests := true, laidLooks := .later }
def SplitTellsUptoCardSaid : Prop := Claim7.holds Tryd.pinned (.plain (OpenSpec.upto splitTellsSpec)) splitTellsUptoCard

/-- THE SECOND FORM's CARD OF 'isoglosslaw04.SplitJoins'. -/
def splitJoinsUptoCard : Claim7 := { stood := { row := splitJoinsUptoRow, standIns := [], harness := (true, "ab73d1e70cab45ae27bf233c07f57c25fba5a66e544c7ae9e34120b3fb80b149"), looks := true }, kinds := [], alts := [], laidByText := true, laidKinds := [.handle], laidTests := true, laidLooks := .later }
def SplitJoinsUptoCardSaid : Prop := Claim7.holds Tryd.pinned (.plain (OpenSpec.upto splitJoinsSpec)) splitJoinsUptoCard

/-- THE SECOND FORM's CARD OF 'isoglosslaw04.SplitChecks'. -/
def splitChecksUptoCard : Claim7 := { stood := { row := splitChecksUptoRow, standIns := [], harness := (true, "ab73d1e70cab45ae27bf233c07f57c25fba5a66e544c7ae9e34120b3fb80b149"), looks := true }, kinds := [], alts := [], laidByText := true, laidKinds := [.handle], laidTests := true, laidLooks := .later }
def SplitChecksUptoCardSaid : Prop := Claim7.holds Tryd.pinned (.plain (OpenSpec.upto splitChecksSpec)) splitChecksUptoCard
end Rows
end Go.Proofs.YtmkjifljciajbaaDoor
