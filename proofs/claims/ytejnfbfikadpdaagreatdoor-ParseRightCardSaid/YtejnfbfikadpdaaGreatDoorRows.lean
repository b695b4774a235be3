/-
  NARROWER THAN 'FOR EVERY INPUT', by the rows' own cells (each row's printed sentence says how): ParseBack: laid · ParseCases: laid · ParseGrows: laid · ParsePrivate: laid · ParseTells: laid · ParseFirst: laid · ParseRight: laid.
  DERIVED. THE GIVEN ROWS OF THIS SEAT. 7 by the template 'for every input the law returns true; each argument reads behind the call as it read before'; 0 by the template 'total and deterministic' (their statements: YtejnfbfikadpdaaGreatDoorTotals.lean).
  GIVEN WITH THE SEED: the statements are not yours to turn. If you find one false, say at which input.
  Laid BY PROGRAM, IN A SANDBOX (cutbox-rows.mjs): the forced cells as the released guide's own fill.sh prints them over the translation 2e995d7bc83f89af… (all of the seat's roots in one cut). By AI agents, Wed Nov 11 2026. No macro, syntax, notation, axiom, sorry.
-/
import Derived.Test.YtejnfbfikadpdaaGreatDoorChecked
import GoSem.Claim
import GoSem.ClaimJoined
import GoSem.ClaimMapViews
import Derived.JoinedTies
import Derived.KernelRfl
namespace Go.Proofs.YtejnfbfikadpdaaGreatDoor
/- THE CELL 'sum', in the pinned program and in every row, IS THE sha256 OF THE DUMP (.gsa) THAT YtejnfbfikadpdaaGreatDoorProg.lean LOADS. Nothing in Lean hashes anything: it is a label: what it is worth is what the hold of that sum in a sandbox is worth. -/
noncomputable def Tryz.pinned : Pinned := { name := "ytejnfbfikadpdaagreatdoor", sum := "2e995d7bc83f89afd64bd5f6c8b38e9edf1742d26a4bb1ce9392437782558c98", checked := Tryz.checked }
namespace Rows
def none {H : Type} : Left H := { results := [], args := [] }

/- WHAT THE LISTED PACKAGE-LEVEL VARIABLES READ AS WHEN THE CALL BEGINS. Each datum BY PROGRAM (the guide's laid-datum.mjs) off the statement by which the dump's own 'gosem.cut.vars' lays the variable. In a bare row this is a premise. The card (YtejnfbfikadpdaaGreatDoorCards.lean) ties it to the program's text. -/
def laid_errors_errorType {H : Type} : DataW H := .iface "internal/reflectlite.rtype" (.agg [.ptr (.lit (.string [101, 114, 114, 111, 114]))])
def laid_isogloss_grand_names {H : Type} : DataW H := .agg [.lit (.string [97, 114, 116, 45, 108, 111, 106, 98, 97, 110]), .lit (.string [99, 101, 108, 45, 103, 97, 117, 108, 105, 115, 104]), .lit (.string [101, 110, 45, 103, 98, 45, 111, 101, 100]), .lit (.string [105, 45, 97, 109, 105]), .lit (.string [105, 45, 98, 110, 110]), .lit (.string [105, 45, 100, 101, 102, 97, 117, 108, 116]), .lit (.string [105, 45, 101, 110, 111, 99, 104, 105, 97, 110]), .lit (.string [105, 45, 104, 97, 107]), .lit (.string [105, 45, 107, 108, 105, 110, 103, 111, 110]), .lit (.string [105, 45, 108, 117, 120]), .lit (.string [105, 45, 109, 105, 110, 103, 111]), .lit (.string [105, 45, 110, 97, 118, 97, 106, 111]), .lit (.string [105, 45, 112, 119, 110]), .lit (.string [105, 45, 116, 97, 111]), .lit (.string [105, 45, 116, 97, 121]), .lit (.string [105, 45, 116, 115, 117]), .lit (.string [110, 111, 45, 98, 111, 107]), .lit (.string [110, 111, 45, 110, 121, 110]), .lit (.string [115, 103, 110, 45, 98, 101, 45, 102, 114]), .lit (.string [115, 103, 110, 45, 98, 101, 45, 110, 108]), .lit (.string [115, 103, 110, 45, 99, 104, 45, 100, 101]), .lit (.string [122, 104, 45, 103, 117, 111, 121, 117]), .lit (.string [122, 104, 45, 104, 97, 107, 107, 97]), .lit (.string [122, 104, 45, 109, 105, 110]), .lit (.string [122, 104, 45, 109, 105, 110, 45, 110, 97, 110]), .lit (.string [122, 104, 45, 120, 105, 97, 110, 103])]

/-- 'isoglosslaw07.ParseBack': WHATEVER THE INPUT: true; the input reads as it did. -/
def parseBackSpec : ChangeSpec := { name := "parseBack", fn := fun _ => fun
  | [d] => { results := [.lit (.bool true)], args := [d] }
  | _ => none }
def parseBackRow : OpenClaim := { program := "ytejnfbfikadpdaagreatdoor", sum := "2e995d7bc83f89afd64bd5f6c8b38e9edf1742d26a4bb1ce9392437782558c98", func := "isogloss/isoglosslaw07.ParseBack", spec := "parseBack", inPlace := ["internal/bytealg.IndexByteString", "internal/bytealg.IndexString", "internal/reflectlite.ValueOf", "(internal/reflectlite.Value).Type", "(internal/reflectlite.Value).IsNil", "internal/reflectlite.TypeOf", "(internal/reflectlite.Value).Elem", "(internal/reflectlite.Value).Set"], unfollowed := true, recurses := true, named := ["isogloss/grand.names", "internal/bytealg.MaxLen", "errors.errorType"], apart := false, laid := [("errors.errorType", laid_errors_errorType), ("isogloss/grand.names", laid_isogloss_grand_names)] }
def ParseBackSaid : Prop := parseBackRow.holds Tryz.pinned (OpenSpec.ofChange parseBackSpec)

/-- ITS FALSE NEIGHBOUR: 'it returns false'. Refute it at one input. -/
def parseBackWrong : ChangeSpec := { name := "parseBack", fn := fun _ => fun
  | [d] => { results := [.lit (.bool false)], args := [d] }
  | _ => none }
def ParseBackWrongFalsely : Prop := parseBackRow.holds Tryz.pinned (OpenSpec.ofChange parseBackWrong)

/-- 'isoglosslaw07.ParseCases': WHATEVER THE INPUT: true; the input reads as it did. -/
def parseCasesSpec : ChangeSpec := { name := "parseCases", fn := fun _ => fun
  | [d1, d2, d3] => { results := [.lit (.bool true)], args := [d1, d2, d3] }
  | _ => none }
def parseCasesRow : OpenClaim := { program := "ytejnfbfikadpdaagreatdoor", sum := "2e995d7bc83f89afd64bd5f6c8b38e9edf1742d26a4bb1ce9392437782558c98", func := "isogloss/isoglosslaw07.ParseCases", spec := "parseCases", inPlace := ["internal/bytealg.IndexByteString", "internal/bytealg.IndexString", "internal/reflectlite.ValueOf", "(internal/reflectlite.Value).Type", "(internal/reflectlite.Value).IsNil", "internal/reflectlite.TypeOf", "(internal/reflectlite.Value).Elem", "(internal/reflectlite.Value).Set"], unfollowed := true, recurses := true, named := ["isogloss/grand.names", "internal/bytealg.MaxLen", "errors.errorType"], apart := false, laid := [("errors.errorType", laid_errors_errorType), ("isogloss/grand.names", laid_isogloss_grand_names)] }
def ParseCasesSaid : Prop := parseCasesRow.holds Tryz.pinned (OpenSpec.ofChange parseCasesSpec)

/-- ITS FALSE NEIGHBOUR: 'it returns false'. Refute it at one input. -/
def parseCasesWrong : ChangeSpec := { name := "parseCases", fn := fun _ => fun
  | [d1, d2, d3] => { results := [.lit (.bool false)], args := [d1, d2, d3] }
  | _ => none }
def ParseCasesWrongFalsely : Prop := parseCasesRow.holds Tryz.pinned (OpenSpec.ofChange parseCasesWrong)

/-- 'isoglosslaw07.ParseGrows': WHATEVER THE INPUT: true; the input reads as it did. -/
def parseGrowsSpec : ChangeSpec := { name := "parseGrows", fn := fun _ => fun
  | [d1, d2] => { results := [.lit (.bool true)], args := [d1, d2] }
  | _ => none }
def parseGrowsRow : OpenClaim := { program := "ytejnfbfikadpdaagreatdoor", sum := "2e995d7bc83f89afd64bd5f6c8b38e9edf1742d26a4bb1ce9392437782558c98", func := "isogloss/isoglosslaw07.ParseGrows", spec := "parseGrows", inPlace := ["internal/bytealg.IndexByteString", "internal/bytealg.IndexString", "internal/reflectlite.ValueOf", "(internal/reflectlite.Value).Type", "(internal/reflectlite.Value).IsNil", "internal/reflectlite.TypeOf", "(internal/reflectlite.Value).Elem", "(internal/reflectlite.Value).Set"], unfollowed := true, recurses := true, named := ["isogloss/grand.names", "internal/bytealg.MaxLen", "errors.errorType"], apart := false, laid := [("errors.errorType", laid_errors_errorType), ("isogloss/grand.names", laid_isogloss_grand_names)] }
def ParseGrowsSaid : Prop := parseGrowsRow.holds Tryz.pinned (OpenSpec.ofChange parseGrowsSpec)

/-- ITS FALSE NEIGHBOUR: 'it returns false'. Refute it at one input. -/
def parseGrowsWrong : ChangeSpec := { name := "parseGrows", fn := fun _ => fun
  | [d1, d2] => { results := [.lit (.bool false)], args := [d1, d2] }
  | _ => none }
def ParseGrowsWrongFalsely : Prop := parseGrowsRow.holds Tryz.pinned (OpenSpec.ofChange parseGrowsWrong)

/-- 'isoglosslaw07.ParsePrivate': WHATEVER THE INPUT: true; the input reads as it did. -/
def parsePrivateSpec : ChangeSpec := { name := "parsePrivate", fn := fun _ => fun
  | [d1, d2] => { results := [.lit (.bool true)], args := [d1, d2] }
  | _ => none }
def parsePrivateRow : OpenClaim := { program := "ytejnfbfikadpdaagreatdoor", sum := "2e995d7bc83f89afd64bd5f6c8b38e9edf1742d26a4bb1ce9392437782558c98", func := "isogloss/isoglosslaw07.ParsePrivate", spec := "parsePrivate", inPlace := ["internal/bytealg.IndexByteString", "internal/bytealg.IndexString", "internal/reflectlite.ValueOf", "(internal/reflectlite.Value).Type", "(internal/reflectlite.Value).IsNil", "internal/reflectlite.TypeOf", "(internal/reflectlite.Value).Elem", "(internal/reflectlite.Value).Set"], unfollowed := true, recurses := true, named := ["isogloss/grand.names", "internal/bytealg.MaxLen", "errors.errorType"], apart := false, laid := [("errors.errorType", laid_errors_errorType), ("isogloss/grand.names", laid_isogloss_grand_names)] }
def ParsePrivateSaid : Prop := parsePrivateRow.holds Tryz.pinned (OpenSpec.ofChange parsePrivateSpec)

/-- ITS FALSE NEIGHBOUR: 'it returns false'. Refute it at one input. -/
def parsePrivateWrong : ChangeSpec := { name := "parsePrivate", fn := fun _ => fun
  | [d1, d2] => { results := [.lit (.bool false)], args := [d1, d2] }
  | _ => none }
def ParsePrivateWrongFalsely : Prop := parsePrivateRow.holds Tryz.pinned (OpenSpec.ofChange parsePrivateWrong)

/-- 'isoglosslaw07.ParseTells': WHATEVER THE INPUT: true; the input reads as it did. -/
def parseTellsSpec : ChangeSpec := { name := "parseTells", fn := fun _ => fun
  | [d1, d2, d3] => { results := [.lit (.bool true)], args := [d1, d2, d3] }
  | _ => none }
def parseTellsRow : OpenClaim := { program := "ytejnfbfikadpdaagreatdoor", sum := "2e995d7bc83f89afd64bd5f6c8b38e9edf1742d26a4bb1ce9392437782558c98", func := "isogloss/isoglosslaw07.ParseTells", spec := "parseTells", inPlace := ["internal/bytealg.IndexByteString", "internal/bytealg.IndexString", "internal/reflectlite.ValueOf", "(internal/reflectlite.Value).Type", "(internal/reflectlite.Value).IsNil", "internal/reflectlite.TypeOf", "(internal/reflectlite.Value).Elem", "(internal/reflectlite.Value).Set"], unfollowed := true, recurses := true, named := ["isogloss/grand.names", "internal/bytealg.MaxLen", "errors.errorType"], apart := false, laid := [("errors.errorType", laid_errors_errorType), ("isogloss/grand.names", laid_isogloss_grand_names)] }
def ParseTellsSaid : Prop := parseTellsRow.holds Tryz.pinned (OpenSpec.ofChange parseTellsSpec)

/-- ITS FALSE NEIGHBOUR: 'it returns false'. Refute it at one input. -/
def parseTellsWrong : ChangeSpec := { name := "parseTells", fn := fun _ => fun
  | [d1, d2, d3] => { results := [.lit (.bool false)], args := [d1, d2, d3] }
  | _ => none }
def ParseTellsWrongFalsely : Prop := parseTellsRow.holds Tryz.pinned (OpenSpec.ofChange parseTellsWrong)

/-- 'isoglosslaw07.ParseFirst': WHATEVER THE INPUT: true; the input reads as it did. -/
def parseFirstSpec : ChangeSpec := { name := "parseFirst", fn := fun _ => fun
  | [d1, d2] => { results := [.lit (.bool true)], args := [d1, d2] }
  | _ => none }
def parseFirstRow : OpenClaim := { program := "ytejnfbfikadpdaagreatdoor", sum := "2e995d7bc83f89afd64bd5f6c8b38e9edf1742d26a4bb1ce9392437782558c98", func := "isogloss/isoglosslaw07.ParseFirst", spec := "parseFirst", inPlace := ["internal/bytealg.IndexByteString", "internal/bytealg.IndexString", "internal/reflectlite.ValueOf", "(internal/reflectlite.Value).Type", "(internal/reflectlite.Value).IsNil", "internal/reflectlite.TypeOf", "(internal/reflectlite.Value).Elem", "(internal/reflectlite.Value).Set", "internal/abi.NoEscape", "internal/bytealg.MakeNoZero"], unfollowed := true, recurses := true, named := ["isogloss/grand.names", "internal/bytealg.MaxLen", "errors.errorType"], apart := false, laid := [("errors.errorType", laid_errors_errorType), ("isogloss/grand.names", laid_isogloss_grand_names)] }
def ParseFirstSaid : Prop := parseFirstRow.holds Tryz.pinned (OpenSpec.ofChange parseFirstSpec)

/-- ITS FALSE NEIGHBOUR: 'it returns false'. Refute it at one input. -/
def parseFirstWrong : ChangeSpec := { name := "parseFirst", fn := fun _ => fun
  | [d1, d2] => { results := [.lit (.bool false)], args := [d1, d2] }
  | _ => none }
def ParseFirstWrongFalsely : Prop := parseFirstRow.holds Tryz.pinned (OpenSpec.ofChange parseFirstWrong)

/-- 'isoglosslaw07.ParseRight': WHATEVER THE INPUT: true; the input reads as it did. -/
def parseRightSpec : ChangeSpec := { name := "parseRight", fn := fun _ => fun
  | [d1, d2, d3] => { results := [.lit (.bool true)], args := [d1, d2, d3] }
  | _ => none }
def parseRightRow : OpenClaim := { program := "ytejnfbfikadpdaagreatdoor", sum := "2e995d7bc83f89afd64bd5f6c8b38e9edf1742d26a4bb1ce9392437782558c98", func := "isogloss/isoglosslaw07.ParseRight", spec := "parseRight", inPlace := ["internal/bytealg.IndexByteString", "internal/bytealg.IndexString", "internal/reflectlite.ValueOf", "(internal/reflectlite.Value).Type", "(internal/reflectlite.Value).IsNil", "internal/reflectlite.TypeOf", "(internal/reflectlite.Value).Elem", "(internal/reflectlite.Value).Set", "internal/abi.NoEscape", "internal/bytealg.MakeNoZero"], unfollowed := true, recurses := true, named := ["isogloss/grand.names", "internal/bytealg.MaxLen", "errors.errorType"], apart := false, laid := [("errors.errorType", laid_errors_errorType), ("isogloss/grand.names", laid_isogloss_grand_names)] }
def ParseRightSaid : Prop := parseRightRow.holds Tryz.pinned (OpenSpec.ofChange parseRightSpec)

/-- ITS FALSE NEIGHBOUR: 'it returns false'. Refute it at one input. -/
def parseRightWrong : ChangeSpec := { name := "parseRight", fn := fun _ => fun
  | [d1, d2, d3] => { results := [.lit (.bool false)], args := [d1, d2, d3] }
  | _ => none }
def ParseRightWrongFalsely : Prop := parseRightRow.holds Tryz.pinned (OpenSpec.ofChange parseRightWrong)

/- THE SECOND FORM. 'bulk': how many values and letters a reading holds, each counted each time it is reached (what is shared counts as often as it is met; a slice's spare places count too). A statement '..UptoSaid' is the law's where the arguments, and the package variables that the reading takes, are together of bulk at most 1048576: NARROWER than '..Said'. Prove '..Said' where nothing that the law and all that it calls make is longer than what came in: it says more and counts as full. Else prove '..UptoSaid'. A law counts once. -/
mutual
def uptoBulk {H : Type} : DataW H → Nat
  | .lit (.string bytes) => bytes.length + 1
  | .lit _ => 1
  | .nil => 1
  | .ptr d => uptoBulk d + 1
  | .slice elems spare => uptoBulkAll elems + uptoBulkAll spare + 1
  | .agg parts => uptoBulkAll parts + 1
  | .iface _ d => uptoBulk d + 1
  | .map entries => uptoBulkEntries entries + 1
  | .held _ => 1
def uptoBulkAll {H : Type} : List (DataW H) → Nat
  | [] => 0
  | d :: r => uptoBulk d + uptoBulkAll r
def uptoBulkEntries {H : Type} : List (Lit × DataW H) → Nat
  | [] => 0
  | x :: r => uptoBulkEntry x + uptoBulkEntries r
def uptoBulkEntry {H : Type} : Lit × DataW H → Nat
  | (.string bytes, d) => bytes.length + uptoBulk d + 1
  | (_, d) => uptoBulk d + 1
 end
def uptoSmall : (H : Type) → List (DataW H) → Bool := fun _ ds => decide (uptoBulkAll ds ≤ 1048576)
def OpenSpec.upto (s : _root_.Go.ChangeSpec) : _root_.Go.OpenSpec := { _root_.Go.OpenSpec.ofChange s with cond := some uptoSmall }

/-- 'isoglosslaw07.ParseBack', WHERE WHAT IT READS IS OF BULK AT MOST 1048576: true; the input reads as it did. -/
def parseBackUptoRow : OpenClaim := { program := "ytejnfbfikadpdaagreatdoor", sum := "2e995d7bc83f89afd64bd5f6c8b38e9edf1742d26a4bb1ce9392437782558c98", func := "isogloss/isoglosslaw07.ParseBack", spec := "parseBack", inPlace := ["internal/bytealg.IndexByteString", "internal/bytealg.IndexString", "internal/reflectlite.ValueOf", "(internal/reflectlite.Value).Type", "(internal/reflectlite.Value).IsNil", "internal/reflectlite.TypeOf", "(internal/reflectlite.Value).Elem", "(internal/reflectlite.Value).Set"], unfollowed := true, recurses := true, named := ["isogloss/grand.names", "internal/bytealg.MaxLen", "errors.errorType"], apart := false, laid := [("errors.errorType", laid_errors_errorType), ("isogloss/grand.names", laid_isogloss_grand_names)], narrowed := true }
def ParseBackUptoSaid : Prop := parseBackUptoRow.holds Tryz.pinned (OpenSpec.upto parseBackSpec)

/-- 'isoglosslaw07.ParseCases', WHERE WHAT IT READS IS OF BULK AT MOST 1048576: true; the input reads as it did. -/
def parseCasesUptoRow : OpenClaim := { program := "ytejnfbfikadpdaagreatdoor", sum := "2e995d7bc83f89afd64bd5f6c8b38e9edf1742d26a4bb1ce9392437782558c98", func := "isogloss/isoglosslaw07.ParseCases", spec := "parseCases", inPlace := ["internal/bytealg.IndexByteString", "internal/bytealg.IndexString", "internal/reflectlite.ValueOf", "(internal/reflectlite.Value).Type", "(internal/reflectlite.Value).IsNil", "internal/reflectlite.TypeOf", "(internal/reflectlite.Value).Elem", "(internal/reflectlite.Value).Set"], unfollowed := true, recurses := true, named := ["isogloss/grand.names", "internal/bytealg.MaxLen", "errors.errorType"], apart := false, laid := [("errors.errorType", laid_errors_errorType), ("isogloss/grand.names", laid_isogloss_grand_names)], narrowed := true }
def ParseCasesUptoSaid : Prop := parseCasesUptoRow.holds Tryz.pinned (OpenSpec.upto parseCasesSpec)

/-- 'isoglosslaw07.ParseGrows', WHERE WHAT IT READS IS OF BULK AT MOST 1048576: true; the input reads as it did. -/
def parseGrowsUptoRow : OpenClaim := { program := "ytejnfbfikadpdaagreatdoor", sum := "2e995d7bc83f89afd64bd5f6c8b38e9edf1742d26a4bb1ce9392437782558c98", func := "isogloss/isoglosslaw07.ParseGrows", spec := "parseGrows", inPlace := ["internal/bytealg.IndexByteString", "internal/bytealg.IndexString", "internal/reflectlite.ValueOf", "(internal/reflectlite.Value).Type", "(internal/reflectlite.Value).IsNil", "internal/reflectlite.TypeOf", "(internal/reflectlite.Value).Elem", "(internal/reflectlite.Value).Set"], unfollowed := true, recurses := true, named := ["isogloss/grand.names", "internal/bytealg.MaxLen", "errors.errorType"], apart := false, laid := [("errors.errorType", laid_errors_errorType), ("isogloss/grand.names", laid_isogloss_grand_names)], narrowed := true }
def ParseGrowsUptoSaid : Prop := parseGrowsUptoRow.holds Tryz.pinned (OpenSpec.upto parseGrowsSpec)

/-- 'isoglosslaw07.ParsePrivate', WHERE WHAT IT READS IS OF BULK AT MOST 1048576: true; the input reads as it did. -/
def parsePrivateUptoRow : OpenClaim := { program := "ytejnfbfikadpdaagreatdoor", sum := "2e995d7bc83f89afd64bd5f6c8b38e9edf1742d26a4bb1ce9392437782558c98", func := "isogloss/isoglosslaw07.ParsePrivate", spec := "parsePrivate", inPlace := ["internal/bytealg.IndexByteString", "internal/bytealg.IndexString", "internal/reflectlite.ValueOf", "(internal/reflectlite.Value).Type", "(internal/reflectlite.Value).IsNil", "internal/reflectlite.TypeOf", "(internal/reflectlite.Value).Elem", "(internal/reflectlite.Value).Set"], unfollowed := true, recurses := true, named := ["isogloss/grand.names", "internal/bytealg.MaxLen", "errors.errorType"], apart := false, laid := [("errors.errorType", laid_errors_errorType), ("isogloss/grand.names", laid_isogloss_grand_names)], narrowed := true }
def ParsePrivateUptoSaid : Prop := parsePrivateUptoRow.holds Tryz.pinned (OpenSpec.upto parsePrivateSpec)

/-- 'isoglosslaw07.ParseTells', WHERE WHAT IT READS IS OF BULK AT MOST 1048576: true; the input reads as it did. -/
def parseTellsUptoRow : OpenClaim := { program := "ytejnfbfikadpdaagreatdoor", sum := "2e995d7bc83f89afd64bd5f6c8b38e9edf1742d26a4bb1ce9392437782558c98", func := "isogloss/isoglosslaw07.ParseTells", spec := "parseTells", inPlace := ["internal/bytealg.IndexByteString", "internal/bytealg.IndexString", "internal/reflectlite.ValueOf", "(internal/reflectlite.Value).Type", "(internal/reflectlite.Value).IsNil", "internal/reflectlite.TypeOf", "(internal/reflectlite.Value).Elem", "(internal/reflectlite.Value).Set"], unfollowed := true, recurses := true, named := ["isogloss/grand.names", "internal/bytealg.MaxLen", "errors.errorType"], apart := false, laid := [("errors.errorType", laid_errors_errorType), ("isogloss/grand.names", laid_isogloss_grand_names)], narrowed := true }
def ParseTellsUptoSaid : Prop := parseTellsUptoRow.holds Tryz.pinned (OpenSpec.upto parseTellsSpec)

/-- 'isoglosslaw07.ParseFirst', WHERE WHAT IT READS IS OF BULK AT MOST 1048576: true; the input reads as it did. -/
def parseFirstUptoRow : OpenClaim := { program := "ytejnfbfikadpdaagreatdoor", sum := "2e995d7bc83f89afd64bd5f6c8b38e9edf1742d26a4bb1ce9392437782558c98", func := "isogloss/isoglosslaw07.ParseFirst", spec := "parseFirst", inPlace := ["internal/bytealg.IndexByteString", "internal/bytealg.IndexString", "internal/reflectlite.ValueOf", "(internal/reflectlite.Value).Type", "(internal/reflectlite.Value).IsNil", "internal/reflectlite.TypeOf", "(internal/reflectlite.Value).Elem", "(internal/reflectlite.Value).Set", "internal/abi.NoEscape", "internal/bytealg.MakeNoZero"], unfollowed := true, recurses := true, named := ["isogloss/grand.names", "internal/bytealg.MaxLen", "errors.errorType"], apart := false, laid := [("errors.errorType", laid_errors_errorType), ("isogloss/grand.names", laid_isogloss_grand_names)], narrowed := true }
def ParseFirstUptoSaid : Prop := parseFirstUptoRow.holds Tryz.pinned (OpenSpec.upto parseFirstSpec)

/-- 'isoglosslaw07.ParseRight', WHERE WHAT IT READS IS OF BULK AT MOST 1048576: true; the input reads as it did. -/
def parseRightUptoRow : OpenClaim := { program := "ytejnfbfikadpdaagreatdoor", sum := "2e995d7bc83f89afd64bd5f6c8b38e9edf1742d26a4bb1ce9392437782558c98", func := "isogloss/isoglosslaw07.ParseRight", spec := "parseRight", inPlace := ["internal/bytealg.IndexByteString", "internal/bytealg.IndexString", "internal/reflectlite.ValueOf", "(internal/reflectlite.Value).Type", "(internal/reflectlite.Value).IsNil", "internal/reflectlite.TypeOf", "(internal/reflectlite.Value).Elem", "(internal/reflectlite.Value).Set", "internal/abi.NoEscape", "internal/bytealg.MakeNoZero"], unfollowed := true, recurses := true, named := ["isogloss/grand.names", "internal/bytealg.MaxLen", "errors.errorType"], apart := false, laid := [("errors.errorType", laid_errors_errorType), ("isogloss/grand.names", laid_isogloss_grand_names)], narrowed := true }
def ParseRightUptoSaid : Prop := parseRightUptoRow.holds Tryz.pinned (OpenSpec.upto parseRightSpec)

end Rows
end Go.Proofs.YtejnfbfikadpdaaGreatDoor
