/-
  DERIVED. GIVEN WITH THE SEED: THE CARDS: each row of YtejnfbfikadpdaaGreatDoorRows.lean that lists a variable, with what it lists TIED to the program's text (the seventh form; the later family's looks); each row that meets fmt, with fmt's text TOLD by the authors' own Lean function (tested against real Go, not proved from fmt's source: count such statements apart). THE CARD IS WHAT COUNTS. Prove the row's statement (the work); the ties are given (YtejnfbfikadpdaaGreatDoorTie.lean); close each card by the builder's one call (the guide's Derived/Test/ToyasCard.lean, 'card_holds'). Laid BY PROGRAM, IN A SANDBOX (cutbox-door.mjs). By AI agents, Wed Nov 11 2026. No macro, syntax, notation, axiom, sorry.
-/
import Derived.Test.YtejnfbfikadpdaaGreatDoorRows
import GoSem.ClaimSeven
namespace Go.Proofs.YtejnfbfikadpdaaGreatDoor
namespace Rows

/-- THE TIED CARD OF 'isoglosslaw07.ParseBack'. -/
def parseBackCard : Claim7 := { stood := { row := parseBackRow, standIns := [], harness := (true, "d645e8aaa43e1075398d76794bba2b32ef3669f25c3a8a0a11b535e6af393dee"), looks := true }, kinds := [], alts := [], laidByText := true, laidKinds := [.handle, .data], laidTests := true, laidLooks := .later }
def ParseBackCardSaid : Prop := Claim7.holds Tryz.pinned (.plain (OpenSpec.ofChange parseBackSpec)) parseBackCard

/-- THE TIED CARD OF 'isoglosslaw07.ParseCases'. -/
def parseCasesCard : Claim7 := { stood := { row := parseCasesRow, standIns := [], harness := (true, "d645e8aaa43e1075398d76794bba2b32ef3669f25c3a8a0a11b535e6af393dee"), looks := true }, kinds := [], alts := [], laidByText := true, laidKinds := [.handle, .data], laidTests := true, laidLooks := .later }
def ParseCasesCardSaid : Prop := Claim7.holds Tryz.pinned (.plain (OpenSpec.ofChange parseCasesSpec)) parseCasesCard

/-- THE TIED CARD OF 'isoglosslaw07.ParseGrows'. -/
def parseGrowsCard : Claim7 := { stood := { row := parseGrowsRow, standIns := [], harness := (true, "d645e8aaa43e1075398d76794bba2b32ef3669f25c3a8a0a11b535e6af393dee"), looks := true }, kinds := [], alts := [], laidByText := true, laidKinds := [.handle, .data], laidTests := true, laidLooks := .later }
def ParseGrowsCardSaid : Prop := Claim7.holds Tryz.pinned (.plain (OpenSpec.ofChange parseGrowsSpec)) parseGrowsCard

/-- THE TIED CARD OF 'isoglosslaw07.ParsePrivate'. -/
def parsePrivateCard : Claim7 := { stood := { row := parsePrivateRow, standIns := [], harness := (true, "d645e8aaa43e1075398d76794bba2b32ef3669f25c3a8a0a11b535e6af393dee"), looks := true }, kinds := [], alts := [], laidByText := true, laidKinds := [.handle, .data], laidTests := true, laidLooks := .later }
def ParsePrivateCardSaid : Prop := Claim7.holds Tryz.pinned (.plain (OpenSpec.ofChange parsePrivateSpec)) parsePrivateCard

/-- THE TIED CARD OF 'isoglosslaw07.ParseTells'. -/
def parseTellsCard : Claim7 := { stood := { row := parseTellsRow, standIns := [], harness := (true, "d645e8aaa43e1075398d76794bba2b32ef3669f25c3a8a0a11b535e6af393dee"), looks := true }, kinds := [], alts := [], laidByText := true, laidKinds := [.handle, .data], laidTests := true, laidLooks := .later }
def ParseTellsCardSaid : Prop := Claim7.holds Tryz.pinned (.plain (OpenSpec.ofChange parseTellsSpec)) parseTellsCard

/-- THE TIED CARD OF 'isoglosslaw07.ParseFirst'. -/
def parseFirstCard : Claim7 := { stood := { row := parseFirstRow, standIns := [], harness := (true, "d645e8aaa43e1075398d76794bba2b32ef3669f25c3a8a0a11b535e6af393dee"), looks := true }, kinds := [], alts := [], laidByText := true, laidKinds := [.handle, .data], laidTests := true, laidLooks := .later }
def ParseFirstCardSaid : Prop := Claim7.holds Tryz.pinned (.plain (OpenSpec.ofChange parseFirstSpec)) parseFirstCard

/-- THE TIED CARD OF 'isoglosslaw07.ParseRight'. -/
def parseRightCard : Claim7 := { stood := { row := parseRightRow, standIns := [], harness := (true, "d645e8aaa43e1075398d76794bba2b32ef3669f25c3a8a0a11b535e6af393dee"), looks := true }, kinds := [], alts := [], laidByText := true, laidKinds := [.handle, .data], laidTests := true, laidLooks := .later }
def ParseRightCardSaid : Prop := Claim7.holds Tryz.pinned (.plain (OpenSpec.ofChange parseRightSpec)) parseRightCard

/-- THE SECOND FORM's CARD OF 'isoglosslaw07.ParseBack'. -/
def parseBackUptoCard : Claim7 := { stood := { row := parseBackUptoRow, standIns := [], harness := (true, "d645e8aaa43e1075398d76794bba2b32ef3669f25c3a8a0a11b535e6af393dee"), looks := true }, kinds := [], alts := [], laidByText := true, laidKinds := [.handle, .data], laidTests := true, laidLooks := .later }
def ParseBackUptoCardSaid : Prop := Claim7.holds Tryz.pinned (.plain (OpenSpec.upto parseBackSpec)) parseBackUptoCard

/-- THE SECOND FORM's CARD OF 'isoglosslaw07.ParseCases'. -/
def parseCasesUptoCard : Claim7 := { stood := { row := parseCasesUptoRow, standIns := [], harness := (true, "d645e8aaa43e1075398d76794bba2b32ef3669f25c3a8a0a11b535e6af393dee"), looks := true }, kinds := [], alts := [], laidByText := true, laidKinds := [.handle, .data], laidTests := true, laidLooks := .later }
def ParseCasesUptoCardSaid : Prop := Claim7.holds Tryz.pinned (.plain (OpenSpec.upto parseCasesSpec)) parseCasesUptoCard

/-- THE SECOND FORM's CARD OF 'isoglosslaw07.ParseGrows'. -/
def parseGrowsUptoCard : Claim7 := { stood := { row := parseGrowsUptoRow, standIns := [], harness := (true, "d645e8aaa43e1075398d76794bba2b32ef3669f25c3a8a0a11b535e6af393dee"), looks := true }, kinds := [], alts := [], laidByText := true, laidKinds := [.handle, .data], laidTests := true, laidLooks := .later }
def ParseGrowsUptoCardSaid : Prop := Claim7.holds Tryz.pinned (.plain (OpenSpec.upto parseGrowsSpec)) parseGrowsUptoCard

/-- THE SECOND FORM's CARD OF 'isoglosslaw07.ParsePrivate'. -/
def parsePrivateUptoCard : Claim7 := { stood := { row := parsePrivateUptoRow, standIns := [], harness := (true, "d645e8aaa43e1075398d76794bba2b32ef3669f25c3a8a0a11b535e6af393dee"), looks := true }, kinds := [], alts := [], laidByText := true, laidKinds := [.handle, .data], laidTests := true, laidLooks := .later }
def ParsePrivateUptoCardSaid : Prop := Claim7.holds Tryz.pinned (.plain (OpenSpec.upto parsePrivateSpec)) parsePrivateUptoCard

/-- THE SECOND FORM's CARD OF 'isoglosslaw07.ParseTells'. -/
def parseTellsUptoCard : Claim7 := { stood := { row := parseTellsUptoRow, standIns := [], harness := (true, "d645e8aaa43e1075398d76794bba2b32ef3669f25c3a8a0a11b535e6af393dee"), looks := true }, kinds := [], alts := [], laidByText := true, laidKinds := [.handle, .data], laidTests := true, laidLooks := .later }
def ParseTellsUptoCardSaid : Prop := Claim7.holds Tryz.pinned (.plain (OpenSpec.upto parseTellsSpec)) parseTellsUptoCard

/-- THE SECOND FORM's CARD OF 'isoglosslaw07.ParseFirst'. -/
def parseFirstUptoCard : Claim7 := { stood := { row := parseFirstUptoRow, standIns := [], harness := (true, "d645e8aaa43e1075398d76794bba2b32ef3669f25c3a8a0a11b535e6af393dee"), looks := true }, kinds := [], alts := [], laidByText := true, laidKinds := [.handle, .data], laidTests := true, laidLooks := .later }
def ParseFirstUptoCardSaid : Prop := Claim7.holds Tryz.pinned (.plain (OpenSpec.upto parseFirstSpec)) parseFirstUptoCard

/-- THE SECOND FORM's CARD OF 'isoglosslaw07.ParseRight'. -/
def parseRightUptoCard : Claim7 := { stood := { row := parseRightUptoRow, standIns := [], harness := (true, "d645e8aaa43e1075398d76794bba2b32ef3669f25c3a8a0a11b535e6af393dee"), looks := true }, kinds := [], alts := [], laidByText := true, laidKinds := [.handle, .data], laidTests := true, laidLooks := .later }
def ParseRightUptoCardSaid : Prop := Claim7.holds Tryz.pinned (.plain (OpenSpec.upto parseRightSpec)) parseRightUptoCard
end Rows
end Go.Proofs.YtejnfbfikadpdaaGreatDoor
