/-
  NARROWER THAN 'FOR EVERY INPUT', by the rows' own cells (each row's printed sentence says how): TagRight: laid · TagParts: laid.
  DERIVED. THE GIVEN ROWS OF THIS SEAT. 2 by the template 'for every input the law returns true; each argument reads behind the call as it read before'; 0 by the template 'total and deterministic' (their statements: YtljadeeoaoiilaaGreatDoorTotals.lean).
  GIVEN WITH THE SEED: the statements are not yours to turn. If you find one false, say at which input.
  Laid BY PROGRAM, IN A SANDBOX (cutbox-rows.mjs): the forced cells as the released guide's own fill.sh prints them over the translation ab957ae60b3e50fc… (all of the seat's roots in one cut). By AI agents, Wed Nov 11 2026. No macro, syntax, notation, axiom, sorry.
-/
import Derived.Test.YtljadeeoaoiilaaGreatDoorChecked
import GoSem.Claim
import GoSem.ClaimJoined
import GoSem.ClaimMapViews
import Derived.JoinedTies
import Derived.KernelRfl
namespace Go.Proofs.YtljadeeoaoiilaaGreatDoor
/- THE CELL 'sum', in the pinned program and in every row, IS THE sha256 OF THE DUMP (.gsa) THAT YtljadeeoaoiilaaGreatDoorProg.lean LOADS. Nothing in Lean hashes anything: it is a label: what it is worth is what the hold of that sum in a sandbox is worth. -/
noncomputable def Tryz.pinned : Pinned := { name := "ytljadeeoaoiilaagreatdoor", sum := "ab957ae60b3e50fc756671df184397109aa4971aeb36693d1fbfaa6bd52c998e", checked := Tryz.checked }
namespace Rows
def none {H : Type} : Left H := { results := [], args := [] }

/- WHAT THE LISTED PACKAGE-LEVEL VARIABLES READ AS WHEN THE CALL BEGINS. Each datum BY PROGRAM (the guide's laid-datum.mjs) off the statement by which the dump's own 'gosem.cut.vars' lays the variable. In a bare row this is a premise. The card (YtljadeeoaoiilaaGreatDoorCards.lean) ties it to the program's text. -/
def laid_isogloss_grand_names {H : Type} : DataW H := .agg [.lit (.string [97, 114, 116, 45, 108, 111, 106, 98, 97, 110]), .lit (.string [99, 101, 108, 45, 103, 97, 117, 108, 105, 115, 104]), .lit (.string [101, 110, 45, 103, 98, 45, 111, 101, 100]), .lit (.string [105, 45, 97, 109, 105]), .lit (.string [105, 45, 98, 110, 110]), .lit (.string [105, 45, 100, 101, 102, 97, 117, 108, 116]), .lit (.string [105, 45, 101, 110, 111, 99, 104, 105, 97, 110]), .lit (.string [105, 45, 104, 97, 107]), .lit (.string [105, 45, 107, 108, 105, 110, 103, 111, 110]), .lit (.string [105, 45, 108, 117, 120]), .lit (.string [105, 45, 109, 105, 110, 103, 111]), .lit (.string [105, 45, 110, 97, 118, 97, 106, 111]), .lit (.string [105, 45, 112, 119, 110]), .lit (.string [105, 45, 116, 97, 111]), .lit (.string [105, 45, 116, 97, 121]), .lit (.string [105, 45, 116, 115, 117]), .lit (.string [110, 111, 45, 98, 111, 107]), .lit (.string [110, 111, 45, 110, 121, 110]), .lit (.string [115, 103, 110, 45, 98, 101, 45, 102, 114]), .lit (.string [115, 103, 110, 45, 98, 101, 45, 110, 108]), .lit (.string [115, 103, 110, 45, 99, 104, 45, 100, 101]), .lit (.string [122, 104, 45, 103, 117, 111, 121, 117]), .lit (.string [122, 104, 45, 104, 97, 107, 107, 97]), .lit (.string [122, 104, 45, 109, 105, 110]), .lit (.string [122, 104, 45, 109, 105, 110, 45, 110, 97, 110]), .lit (.string [122, 104, 45, 120, 105, 97, 110, 103])]

/-- 'isoglosslaw06.TagRight': WHATEVER THE INPUT: true; the input reads as it did. -/
def tagRightSpec : ChangeSpec := { name := "tagRight", fn := fun _ => fun
  | [d1, d2] => { results := [.lit (.bool true)], args := [d1, d2] }
  | _ => none }
def tagRightRow : OpenClaim := { program := "ytljadeeoaoiilaagreatdoor", sum := "ab957ae60b3e50fc756671df184397109aa4971aeb36693d1fbfaa6bd52c998e", func := "isogloss/isoglosslaw06.TagRight", spec := "tagRight", inPlace := ["internal/bytealg.IndexByteString", "internal/bytealg.IndexString", "internal/abi.NoEscape", "internal/bytealg.MakeNoZero"], unfollowed := true, recurses := true, named := ["isogloss/grand.names", "internal/bytealg.MaxLen"], apart := false, laid := [("isogloss/grand.names", laid_isogloss_grand_names)] }
def TagRightSaid : Prop := tagRightRow.holds Tryz.pinned (OpenSpec.ofChange tagRightSpec)

/-- ITS FALSE NEIGHBOUR: 'it returns false'. Refute it at one input. -/
def tagRightWrong : ChangeSpec := { name := "tagRight", fn := fun _ => fun
  | [d1, d2] => { results := [.lit (.bool false)], args := [d1, d2] }
  | _ => none }
def TagRightWrongFalsely : Prop := tagRightRow.holds Tryz.pinned (OpenSpec.ofChange tagRightWrong)

/-- 'isoglosslaw06.TagParts': WHATEVER THE INPUT: true; the input reads as it did. -/
def tagPartsSpec : ChangeSpec := { name := "tagParts", fn := fun _ => fun
  | [d1, d2] => { results := [.lit (.bool true)], args := [d1, d2] }
  | _ => none }
def tagPartsRow : OpenClaim := { program := "ytljadeeoaoiilaagreatdoor", sum := "ab957ae60b3e50fc756671df184397109aa4971aeb36693d1fbfaa6bd52c998e", func := "isogloss/isoglosslaw06.TagParts", spec := "tagParts", inPlace := ["internal/bytealg.IndexByteString", "internal/bytealg.IndexString", "internal/abi.NoEscape", "internal/bytealg.MakeNoZero"], unfollowed := true, recurses := true, named := ["isogloss/grand.names", "internal/bytealg.MaxLen"], apart := false, laid := [("isogloss/grand.names", laid_isogloss_grand_names)] }
def TagPartsSaid : Prop := tagPartsRow.holds Tryz.pinned (OpenSpec.ofChange tagPartsSpec)

/-- ITS FALSE NEIGHBOUR: 'it returns false'. Refute it at one input. -/
def tagPartsWrong : ChangeSpec := { name := "tagParts", fn := fun _ => fun
  | [d1, d2] => { results := [.lit (.bool false)], args := [d1, d2] }
  | _ => none }
def TagPartsWrongFalsely : Prop := tagPartsRow.holds Tryz.pinned (OpenSpec.ofChange tagPartsWrong)

/- THE SECOND FORM. 'bulk': how many values and letters a reading holds, each counted each time it is reached (what is shared counts as often as it is met; a slice's spare places count too). A statement '..UptoSaid' is the law's where the arguments, and the package variables that the reading takes, are together of bulk at most 1048576: NARROWER than '..Said'. Prove '..Said' where nothing that the law and all that it calls make is longer than what came in: it says more and counts as full. Else prove '..UptoSaid'. A law counts once. -/
mutual
def uptoBulk {H : Type} : DataW H → Nat
  | .lit (.string bytes) => bytes.length + 1
  | .lit _ => 1
  | .nil => 1
  | .ptr d => uptoBulk d + 1
  | .slice elems spare => uptoBulkAll elems + uptoBulkAll spare + 1
  | .agg parts => uptoBulkAll parts + 1
  | .iface _ d => uptoBulk d + 1
  | .map entries => uptoBulkEntries entries + 1
  | .held _ => 1
def uptoBulkAll {H : Type} : List (DataW H) → Nat
  | [] => 0
  | d :: r => uptoBulk d + uptoBulkAll r
def uptoBulkEntries {H : Type} : List (Lit × DataW H) → Nat
  | [] => 0
  | x :: r => uptoBulkEntry x + uptoBulkEntries r
def uptoBulkEntry {H : Type} : Lit × DataW H → Nat
  | (.string bytes, d) => bytes.length + uptoBulk d + 1
  | (_, d) => uptoBulk d + 1
 end
def uptoSmall : (H : Type) → List (DataW H) → Bool := fun _ ds => decide (uptoBulkAll ds ≤ 1048576)
def OpenSpec.upto (s : _root_.Go.ChangeSpec) : _root_.Go.OpenSpec := { _root_.Go.OpenSpec.ofChange s with cond := some uptoSmall }

/-- 'isoglosslaw06.TagRight', WHERE WHAT IT READS IS OF BULK AT MOST 1048576: true; the input reads as it did. -/
def tagRightUptoRow : OpenClaim := { program := "ytljadeeoaoiilaagreatdoor", sum := "ab957ae60b3e50fc756671df184397109aa4971aeb36693d1fbfaa6bd52c998e", func := "isogloss/isoglosslaw06.TagRight", spec := "tagRight", inPlace := ["internal/bytealg.IndexByteString", "internal/bytealg.IndexString", "internal/abi.NoEscape", "internal/bytealg.MakeNoZero"], unfollowed := true, recurses := true, named := ["isogloss/grand.names", "internal/bytealg.MaxLen"], apart := false, laid := [("isogloss/grand.names", laid_isogloss_grand_names)], narrowed := true }
def TagRightUptoSaid : Prop := tagRightUptoRow.holds Tryz.pinned (OpenSpec.upto tagRightSpec)

/-- 'isoglosslaw06.TagParts', WHERE WHAT IT READS IS OF BULK AT MOST 1048576: true; the input reads as it did. -/
def tagPartsUptoRow : OpenClaim := { program := "ytljadeeoaoiilaagreatdoor", sum := "ab957ae60b3e50fc756671df184397109aa4971aeb36693d1fbfaa6bd52c998e", func := "isogloss/isoglosslaw06.TagParts", spec := "tagParts", inPlace := ["internal/bytealg.IndexByteString", "internal/bytealg.IndexString", "internal/abi.NoEscape", "internal/bytealg.MakeNoZero"], unfollowed := true, recurses := true, named := ["isogloss/grand.names", "internal/bytealg.MaxLen"], apart := false, laid := [("isogloss/grand.names", laid_isogloss_grand_names)], narrowed := true }
def TagPartsUptoSaid : Prop := tagPartsUptoRow.holds Tryz.pinned (OpenSpec.upto tagPartsSpec)

end Rows
end Go.Proofs.YtljadeeoaoiilaaGreatDoor
