/-
  DERIVED. GIVEN WITH THE SEED: THE CARDS: each row of YtlngefnimnjkkaaDoorRows.lean that lists a variable, with what it lists TIED to the program's text (the seventh form; the later family's looks); each row that meets fmt, with fmt's text TOLD by the authors' own Lean function (tested against real Go, not proved from fmt's source: count such statements apart). THE CARD IS WHAT COUNTS. Prove the row's statement (the work); the ties are given (YtlngefnimnjkkaaDoorTie.lean); close each card by the builder's one call (the guide's Derived/Test/ToyasCard.lean, 'card_holds'). Laid BY PROGRAM, IN A SANDBOX (cutbox-door.mjs). By AI agents, Wed Nov 11 2026. No macro, syntax, notation, axiom, sorry.
-/
import Derived.Test.YtlngefnimnjkkaaDoorRows
import GoSem.ClaimSeven
namespace Go.Proofs.YtlngefnimnjkkaaDoor
namespace Rows

/-- THE TIED CARD OF 'isoglosslaw01.FaultDeep'. -/
def faultDeepCard : Claim7 := { stood := { row := faultDeepRow, standIns := [], harness := (true, "0276cc39deb1f56eee9012848182c4990318a03eacba7860efcb0c68d14218b9"), looks := true }, kinds := [], alts := [], laidByText := true, laidKinds := [.handle], laidTests := true, laidLooks := .later }
def FaultDeepCardSaid : Prop := Claim7.holds Tryd.pinned (.plain (OpenSpec.ofChange faultDeepSpec)) faultDeepCard

/-- THE TIED CARD OF 'isoglosslaw01.FaultHas'. -/
def faultHasCard : Claim7 := { stood := { row := faultHasRow, standIns := [], harness := (true, "0276cc39deb1f56eee9012848182c4990318a03eacba7860efcb0c68d14218b9"), looks := true }, kinds := [], alts := [], laidByText := true, laidKinds := [.handle], laidTests := true, laidLooks := .later }
def FaultHasCardSaid : Prop := Claim7.holds Tryd.pinned (.plain (OpenSpec.ofChange faultHasSpec)) faultHasCard

/-- THE TIED CARD OF 'isoglosslaw01.FaultTells'. -/
def faultTellsCard : Claim7 := { stood := { row := faultTellsRow, standIns := [], harness := (true, "0276cc39deb1f56eee9012848182c4990318a03eacba7860efcb0c68d14218b9"), looks := true }, kinds := [], alts := [], laidByText := true, laidKinds := [.handle], laidTests := true, laidLooks := .later }
def FaultTellsCardSaid : Prop := Claim7.holds Tryd.pinned (.plain (OpenSpec.ofChange faultTellsSpec)) faultTellsCard

/-- THE TIED CARD OF 'isoglosslaw01.FaultNil'. -/
def faultNilCard : Claim7 := { stood := { row := faultNilRow, standIns := [], harness := (true, "0276cc39deb1f56eee9012848182c4990318a03eacba7860efcb0c68d14218b9"), looks := true }, kinds := [], alts := [], laidByText := true, laidKinds := [.data, .data, .data, .handle], laidTests := true, laidLooks := .later }
def FaultNilCardSaid : Prop := Claim7.holds Tryd.pinned (.plain (OpenSpec.ofChange faultNilSpec)) faultNilCard

/-- THE TIED CARD OF 'isoglosslaw01.FaultWraps'. -/
def faultWrapsCard : Claim7 := { stood := { row := faultWrapsRow, standIns := [], harness := (true, "0276cc39deb1f56eee9012848182c4990318a03eacba7860efcb0c68d14218b9"), looks := true }, kinds := [], alts := [], laidByText := true, laidKinds := [.handle], laidTests := true, laidLooks := .later }
def FaultWrapsCardSaid : Prop := Claim7.holds Tryd.pinned (.plain (OpenSpec.ofChange faultWrapsSpec)) faultWrapsCard

/-- THE TIED CARD OF 'isoglosslaw01.FaultStrange'. -/
def faultStrangeCard : Claim7 := { stood := { row := faultStrangeRow, standIns := [], harness := (true, "0276cc39deb1f56eee9012848182c4990318a03eacba7860efcb0c68d14218b9"), looks := true }, kinds := [], alts := [], laidByText := true, laidKinds := [.handle], laidTests := true, laidLooks := .later }
def FaultStrangeCardSaid : Prop := Claim7.holds Tryd.pinned (.plain (OpenSpec.ofChange faultStrangeSpec)) faultStrangeCard

/-- THE SECOND FORM's CARD OF 'isoglosslaw01.FaultDeep'. -/
def faultDeepUptoCard : Claim7 := { stood := { row := faultDeepUptoRow, standIns := [], harness := (true, "0276cc39deb1f56eee9012848182c4990318a03eacba7860efcb0c68d14218b9"), looks := true }, kinds := [], alts := [], laidByText := true, laidKinds := [.handle], laidTests := true, laidLooks := .later }
def FaultDeepUptoCardSaid : Prop := Claim7.holds Tryd.pinned (.plain (OpenSpec.upto faultDeepSpec)) faultDeepUptoCard

/-- THE SECOND FORM's CARD OF 'isoglosslaw01.FaultHas'. -/
def faultHasUptoCard : Claim7 := { stood := { row := faultHasUptoRow, standIns := [], harness := (true, "0276cc39deb1f56eee9012848182c4990318a03eacba7860efcb0c68d14218b9"), looks := true }, kinds := [], alts := [], laidByText := true, laidKinds := [.handle], laidTests := true, laidLooks := .later }
def FaultHasUptoCardSaid : Prop := Claim7.holds Tryd.pinned (.plain (OpenSpec.upto faultHasSpec)) faultHasUptoCard

/-- THE SECOND FORM's CARD OF 'isoglosslaw01.FaultTells'. -/
def faultTellsUptoCard : Claim7 := { stood := { row := faultTellsUptoRow, standIns := [], harness := (true, "0276cc39deb1f56eee9012848182c4990318a03eacba7860efcb0c68d14218b9"), looks := true }, kinds := [], alts := [], laidByText := true, laidKinds := [.handle], laidTests := true, laidLooks := .later }
def FaultTellsUptoCardSaid : Prop := Claim7.holds Tryd.pinned (.plain (OpenSpec.upto faultTellsSpec)) faultTellsUptoCard

/-- THE SECOND FORM's CARD OF 'isoglosslaw01.FaultNil'. -/
def faultNilUptoCard : Claim7 := { stood := { row := faultNilUptoRow, standIns := [], harness := (true, "0276cc39deb1f56eee9012848182c4990318a03eacba7860efcb0c68d14218b9"), looks := true }, kinds := [], alts := [], laidByText := true, laidKinds := [.data, .data, .data, .handle], laidTests := true, laidLooks := .later }
def FaultNilUptoCardSaid : Prop := Claim7.holds Tryd.pinned (.plain (OpenSpec.upto faultNilSpec)) faultNilUptoCard

/-- THE SECOND FORM's CARD OF 'isoglosslaw01.FaultWraps'. -/
def faultWrapsUptoCard : Claim7 := { stood := { row := faultWrapsUptoRow, standIns := [], harness := (true, "0276cc39deb1f56eee9012848182c4990318a03eacba7860efcb0c68d14218b9"), looks := true }, kinds := [], alts := [], laidByText := true, laidKinds := [.handle], laidTests := true, laidLooks := .later }
def FaultWrapsUptoCardSaid : Prop := Claim7.holds Tryd.pinned (.plain (OpenSpec.upto faultWrapsSpec)) faultWrapsUptoCard

/-- THE SECOND FORM's CARD OF 'isoglosslaw01.FaultStrange'. -/
def faultStrangeUptoCard : Claim7 := { stood := { row := faultStrangeUptoRow, standIns := [], harness := (true, "0276cc39deb1f56eee9012848182c4990318a03eacba7860efcb0c68d14218b9"), looks := true }, kinds := [], alts := [], laidByText := true, laidKinds := [.handle], laidTests := true, laidLooks := .later }
def FaultStrangeUptoCardSaid : Prop := Claim7.holds Tryd.pinned (.plain (OpenSpec.upto faultStrangeSpec)) faultStrangeUptoCard
end Rows
end Go.Proofs.YtlngefnimnjkkaaDoor
