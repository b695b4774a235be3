/-
  NARROWER THAN 'FOR EVERY INPUT', by the rows' own cells (each row's printed sentence says how): SplitTrims: laid · SplitStops: laid · SplitParts: laid · SplitTells: laid · SplitJoins: laid · SplitChecks: laid.
  DERIVED. THE GIVEN ROWS OF THIS SEAT. 6 by the template 'for every input the law returns true; each argument reads behind the call as it read before'; 0 by the template 'total and deterministic' (their statements: YtmkjifljciajbaaDoorTotals.lean).
  GIVEN WITH THE SEED: the statements are not yours to turn. If you find one false, say at which input.
  Laid BY PROGRAM, IN A SANDBOX (cutbox-rows.mjs): the forced cells as the released guide's own fill.sh prints them over the translation fd3fbaec6041a424… (all of the seat's roots in one cut). By AI agents, Wed Nov 11 2026. No macro, syntax, notation, axiom, sorry.
-/
import Derived.Test.YtmkjifljciajbaaDoorChecked
import GoSem.Claim
import GoSem.ClaimJoined
import GoSem.ClaimMapViews
import Derived.JoinedTies
import Derived.KernelRfl
namespace Go.Proofs.YtmkjifljciajbaaDoor
/- THE CELL 'sum', in the pinned program and in every row, IS THE sha256 OF THE DUMP (.gsa) THAT YtmkjifljciajbaaDoorProg.lean LOADS. Nothing in Lean hashes anything: it is a label: what it is worth is what the hold of that sum in a sandbox is worth. -/
noncomputable def Tryd.pinned : Pinned := { name := "ytmkjifljciajbaadoor", sum := "fd3fbaec6041a424d249126e11a87f51503a5556ea52d83d07665fac47d94b95", checked := Tryd.checked }
namespace Rows
def none {H : Type} : Left H := { results := [], args := [] }

/- WHAT THE LISTED PACKAGE-LEVEL VARIABLES READ AS WHEN THE CALL BEGINS. Each datum BY PROGRAM (the guide's laid-datum.mjs) off the statement by which the dump's own 'gosem.cut.vars' lays the variable. In a bare row this is a premise. The card (YtmkjifljciajbaaDoorCards.lean) ties it to the program's text. -/
def laid_errors_errorType {H : Type} : DataW H := .iface "internal/reflectlite.rtype" (.agg [.ptr (.lit (.string [101, 114, 114, 111, 114]))])

/-- 'isoglosslaw04.SplitTrims': WHATEVER THE INPUT: true; the input reads as it did. -/
def splitTrimsSpec : ChangeSpec := { name := "splitTrims", fn := fun _ => fun
  | [d] => { results := [.lit (.bool true)], args := [d] }
  | _ => none }
def splitTrimsRow : OpenClaim := { program := "ytmkjifljciajbaadoor", sum := "fd3fbaec6041a424d249126e11a87f51503a5556ea52d83d07665fac47d94b95", func := "isogloss/isoglosslaw04.SplitTrims", spec := "splitTrims", inPlace := ["internal/bytealg.IndexByteString", "internal/bytealg.IndexString", "internal/reflectlite.ValueOf", "(internal/reflectlite.Value).Type", "(internal/reflectlite.Value).IsNil", "internal/reflectlite.TypeOf", "(internal/reflectlite.Value).Elem", "(internal/reflectlite.Value).Set"], unfollowed := true, recurses := true, named := ["internal/bytealg.MaxLen", "errors.errorType"], apart := false, laid := [("errors.errorType", laid_errors_errorType)] }
def SplitTrimsSaid : Prop := splitTrimsRow.holds Tryd.pinned (OpenSpec.ofChange splitTrimsSpec)

/-- ITS FALSE NEIGHBOUR: 'it returns false'. Refute it at one input. -/
def splitTrimsWrong : ChangeSpec := { name := "splitTrims", fn := fun _ => fun
  | [d] => { results := [.lit (.bool false)], args := [d] }
  | _ => none }
def SplitTrimsWrongFalsely : Prop := splitTrimsRow.holds Tryd.pinned (OpenSpec.ofChange splitTrimsWrong)

/-- 'isoglosslaw04.SplitStops': WHATEVER THE INPUT: true; the input reads as it did. -/
def splitStopsSpec : ChangeSpec := { name := "splitStops", fn := fun _ => fun
  | [d1, d2] => { results := [.lit (.bool true)], args := [d1, d2] }
  | _ => none }
def splitStopsRow : OpenClaim := { program := "ytmkjifljciajbaadoor", sum := "fd3fbaec6041a424d249126e11a87f51503a5556ea52d83d07665fac47d94b95", func := "isogloss/isoglosslaw04.SplitStops", spec := "splitStops", inPlace := ["internal/bytealg.IndexByteString", "internal/bytealg.IndexString", "internal/reflectlite.ValueOf", "(internal/reflectlite.Value).Type", "(internal/reflectlite.Value).IsNil", "internal/reflectlite.TypeOf", "(internal/reflectlite.Value).Elem", "(internal/reflectlite.Value).Set"], unfollowed := true, recurses := true, named := ["internal/bytealg.MaxLen", "errors.errorType"], apart := false, laid := [("errors.errorType", laid_errors_errorType)] }
def SplitStopsSaid : Prop := splitStopsRow.holds Tryd.pinned (OpenSpec.ofChange splitStopsSpec)

/-- ITS FALSE NEIGHBOUR: 'it returns false'. Refute it at one input. -/
def splitStopsWrong : ChangeSpec := { name := "splitStops", fn := fun _ => fun
  | [d1, d2] => { results := [.lit (.bool false)], args := [d1, d2] }
  | _ => none }
def SplitStopsWrongFalsely : Prop := splitStopsRow.holds Tryd.pinned (OpenSpec.ofChange splitStopsWrong)

/-- 'isoglosslaw04.SplitParts': WHATEVER THE INPUT: true; the input reads as it did. -/
def splitPartsSpec : ChangeSpec := { name := "splitParts", fn := fun _ => fun
  | [d1, d2] => { results := [.lit (.bool true)], args := [d1, d2] }
  | _ => none }
def splitPartsRow : OpenClaim := { program := "ytmkjifljciajbaadoor", sum := "fd3fbaec6041a424d249126e11a87f51503a5556ea52d83d07665fac47d94b95", func := "isogloss/isoglosslaw04.SplitParts", spec := "splitParts", inPlace := ["internal/bytealg.IndexByteString", "internal/bytealg.IndexString", "internal/reflectlite.ValueOf", "(internal/reflectlite.Value).Type", "(internal/reflectlite.Value).IsNil", "internal/reflectlite.TypeOf", "(internal/reflectlite.Value).Elem", "(internal/reflectlite.Value).Set"], unfollowed := true, recurses := true, named := ["internal/bytealg.MaxLen", "errors.errorType"], apart := false, laid := [("errors.errorType", laid_errors_errorType)] }
def SplitPartsSaid : Prop := splitPartsRow.holds Tryd.pinned (OpenSpec.ofChange splitPartsSpec)

/-- ITS FALSE NEIGHBOUR: 'it returns false'. Refute it at one input. -/
def splitPartsWrong : ChangeSpec := { name := "splitParts", fn := fun _ => fun
  | [d1, d2] => { results := [.lit (.bool false)], args := [d1, d2] }
  | _ => none }
def SplitPartsWrongFalsely : Prop := splitPartsRow.holds Tryd.pinned (OpenSpec.ofChange splitPartsWrong)

/-- 'isoglosslaw04.SplitTells': WHATEVER THE INPUT: true; the input reads as it did. -/
def splitTellsSpec : ChangeSpec := { name := "splitTells", fn := fun _ => fun
  | [d] => { results := [.lit (.bool true)], args := [d] }
  | _ => none }
def splitTellsRow : OpenClaim := { program := "ytmkjifljciajbaadoor", sum := "fd3fbaec6041a424d249126e11a87f51503a5556ea52d83d07665fac47d94b95", func := "isogloss/isoglosslaw04.SplitTells", spec := "splitTells", inPlace := ["internal/bytealg.IndexByteString", "internal/bytealg.IndexString", "internal/reflectlite.ValueOf", "(internal/reflectlite.Value).Type", "(internal/reflectlite.Value).IsNil", "internal/reflectlite.TypeOf", "(internal/reflectlite.Value).Elem", "(internal/reflectlite.Value).Set"], unfollowed := true, recurses := true, named := ["internal/bytealg.MaxLen", "errors.errorType"], apart := false, laid := [("errors.errorType", laid_errors_errorType)] }
def SplitTellsSaid : Prop := splitTellsRow.holds Tryd.pinned (OpenSpec.ofChange splitTellsSpec)

/-- ITS FALSE NEIGHBOUR: 'it returns false'. Refute it at one input. -/
def splitTellsWrong : ChangeSpec := { name := "splitTells", fn := fun _ => fun
  | [d] => { results := [.lit (.bool false)], args := [d] }
  | _ => none }
def SplitTellsWrongFalsely : Prop := splitTellsRow.holds Tryd.pinned (OpenSpec.ofChange splitTellsWrong)

/-- 'isoglosslaw04.SplitJoins': WHATEVER THE INPUT: true; the input reads as it did. -/
def splitJoinsSpec : ChangeSpec := { name := "splitJoins", fn := fun _ => fun
  | [d1, d2] => { results := [.lit (.bool true)], args := [d1, d2] }
  | _ => none }
def splitJoinsRow : OpenClaim := { program := "ytmkjifljciajbaadoor", sum := "fd3fbaec6041a424d249126e11a87f51503a5556ea52d83d07665fac47d94b95", func := "isogloss/isoglosslaw04.SplitJoins", spec := "splitJoins", inPlace := ["internal/bytealg.IndexByteString", "internal/bytealg.IndexString", "internal/reflectlite.ValueOf", "(internal/reflectlite.Value).Type", "(internal/reflectlite.Value).IsNil", "internal/reflectlite.TypeOf", "(internal/reflectlite.Value).Elem", "(internal/reflectlite.Value).Set", "internal/abi.NoEscape", "internal/bytealg.MakeNoZero"], unfollowed := true, recurses := true, named := ["internal/bytealg.MaxLen", "errors.errorType"], apart := false, laid := [("errors.errorType", laid_errors_errorType)] }
def SplitJoinsSaid : Prop := splitJoinsRow.holds Tryd.pinned (OpenSpec.ofChange splitJoinsSpec)

/-- ITS FALSE NEIGHBOUR: 'it returns false'. Refute it at one input. -/
def splitJoinsWrong : ChangeSpec := { name := "splitJoins", fn := fun _ => fun
  | [d1, d2] => { results := [.lit (.bool false)], args := [d1, d2] }
  | _ => none }
def SplitJoinsWrongFalsely : Prop := splitJoinsRow.holds Tryd.pinned (OpenSpec.ofChange splitJoinsWrong)

/-- 'isoglosslaw04.SplitChecks': WHATEVER THE INPUT: true; the input reads as it did. -/
def splitChecksSpec : ChangeSpec := { name := "splitChecks", fn := fun _ => fun
  | [d1, d2] => { results := [.lit (.bool true)], args := [d1, d2] }
  | _ => none }
def splitChecksRow : OpenClaim := { program := "ytmkjifljciajbaadoor", sum := "fd3fbaec6041a424d249126e11a87f51503a5556ea52d83d07665fac47d94b95", func := "isogloss/isoglosslaw04.SplitChecks", spec := "splitChecks", inPlace := ["internal/bytealg.IndexByteString", "internal/bytealg.IndexString", "internal/reflectlite.ValueOf", "(internal/reflectlite.Value).Type", "(internal/reflectlite.Value).IsNil", "internal/reflectlite.TypeOf", "(internal/reflectlite.Value).Elem", "(internal/reflectlite.Value).Set", "internal/abi.NoEscape", "internal/bytealg.MakeNoZero"], unfollowed := true, recurses := true, named := ["internal/bytealg.MaxLen", "errors.errorType"], apart := false, laid := [("errors.errorType", laid_errors_errorType)] }
def SplitChecksSaid : Prop := splitChecksRow.holds Tryd.pinned (OpenSpec.ofChange splitChecksSpec)

/-- ITS FALSE NEIGHBOUR: 'it returns false'. Refute it at one input. -/
def splitChecksWrong : ChangeSpec := { name := "splitChecks", fn := fun _ => fun
  | [d1, d2] => { results := [.lit (.bool false)], args := [d1, d2] }
  | _ => none }
def SplitChecksWrongFalsely : Prop := splitChecksRow.holds Tryd.pinned (OpenSpec.ofChange splitChecksWrong)

/- THE SECOND FORM. 'bulk': how many values and letters a reading holds, each counted each time it is reached (what is shared counts as often as it is met; a slice's spare places count too). A statement '..UptoSaid' is the law's where the arguments, and the package variables that the reading takes, are together of bulk at most 1048576: NARROWER than '..Said'. Prove '..Said' where nothing that the law and all that it calls make is longer than what came in: it says more and counts as full. Else prove '..UptoSaid'. A law counts once. -/
mutual
def uptoBulk {H : Type} : DataW H → Nat
  | .lit (.string bytes) => bytes.length + 1
  | .lit _ => 1
  | .nil => 1
  | .ptr d => uptoBulk d + 1
  | .slice elems spare => uptoBulkAll elems + uptoBulkAll spare + 1
  | .agg parts => uptoBulkAll parts + 1
  | .iface _ d => uptoBulk d + 1
  | .map entries => uptoBulkEntries entries + 1
  | .held _ => 1
def uptoBulkAll {H : Type} : List (DataW H) → Nat
  | [] => 0
  | d :: r => uptoBulk d + uptoBulkAll r
def uptoBulkEntries {H : Type} : List (Lit × DataW H) → Nat
  | [] => 0
  | x :: r => uptoBulkEntry x + uptoBulkEntries r
def uptoBulkEntry {H : Type} : Lit × DataW H → Nat
  | (.string bytes, d) => bytes.length + uptoBulk d + 1
  | (_, d) => uptoBulk d + 1
 end
def uptoSmall : (H : Type) → List (DataW H) → Bool := fun _ ds => decide (uptoBulkAll ds ≤ 1048576)
def OpenSpec.upto (s : _root_.Go.ChangeSpec) : _root_.Go.OpenSpec := { _root_.Go.OpenSpec.ofChange s with cond := some uptoSmall }

/-- 'isoglosslaw04.SplitTrims', WHERE WHAT IT READS IS OF BULK AT MOST 1048576: true; the input reads as it did. -/
def splitTrimsUptoRow : OpenClaim := { program := "ytmkjifljciajbaadoor", sum := "fd3fbaec6041a424d249126e11a87f51503a5556ea52d83d07665fac47d94b95", func := "isogloss/isoglosslaw04.SplitTrims", spec := "splitTrims", inPlace := ["internal/bytealg.IndexByteString", "internal/bytealg.IndexString", "internal/reflectlite.ValueOf", "(internal/reflectlite.Value).Type", "(internal/reflectlite.Value).IsNil", "internal/reflectlite.TypeOf", "(internal/reflectlite.Value).Elem", "(internal/reflectlite.Value).Set"], unfollowed := true, recurses := true, named := ["internal/bytealg.MaxLen", "errors.errorType"], apart := false, laid := [("errors.errorType", laid_errors_errorType)], narrowed := true }
def SplitTrimsUptoSaid : Prop := splitTrimsUptoRow.holds Tryd.pinned (OpenSpec.upto splitTrimsSpec)

/-- 'isoglosslaw04.SplitStops', WHERE WHAT IT READS IS OF BULK AT MOST 1048576: true; the input reads as it did. -/
def splitStopsUptoRow : OpenClaim := { program := "ytmkjifljciajbaadoor", sum := "fd3fbaec6041a424d249126e11a87f51503a5556ea52d83d07665fac47d94b95", func := "isogloss/isoglosslaw04.SplitStops", spec := "splitStops", inPlace := ["internal/bytealg.IndexByteString", "internal/bytealg.IndexString", "internal/reflectlite.ValueOf", "(internal/reflectlite.Value).Type", "(internal/reflectlite.Value).IsNil", "internal/reflectlite.TypeOf", "(internal/reflectlite.Value).Elem", "(internal/reflectlite.Value).Set"], unfollowed := true, recurses := true, named := ["internal/bytealg.MaxLen", "errors.errorType"], apart := false, laid := [("errors.errorType", laid_errors_errorType)], narrowed := true }
def SplitStopsUptoSaid : Prop := splitStopsUptoRow.holds Tryd.pinned (OpenSpec.upto splitStopsSpec)

/-- 'isoglosslaw04.SplitParts', WHERE WHAT IT READS IS OF BULK AT MOST 1048576: true; the input reads as it did. -/
def splitPartsUptoRow : OpenClaim := { program := "ytmkjifljciajbaadoor", sum := "fd3fbaec6041a424d249126e11a87f51503a5556ea52d83d07665fac47d94b95", func := "isogloss/isoglosslaw04.SplitParts", spec := "splitParts", inPlace := ["internal/bytealg.IndexByteString", "internal/bytealg.IndexString", "internal/reflectlite.ValueOf", "(internal/reflectlite.Value).Type", "(internal/reflectlite.Value).IsNil", "internal/reflectlite.TypeOf", "(internal/reflectlite.Value).Elem", "(internal/reflectlite.Value).Set"], unfollowed := true, recurses := true, named := ["internal/bytealg.MaxLen", "errors.errorType"], apart := false, laid := [("errors.errorType", laid_errors_errorType)], narrowed := true }
def SplitPartsUptoSaid : Prop := splitPartsUptoRow.holds Tryd.pinned (OpenSpec.upto splitPartsSpec)

/-- 'isoglosslaw04.SplitTells', WHERE WHAT IT READS IS OF BULK AT MOST 1048576: true; the input reads as it did. -/
def splitTellsUptoRow : OpenClaim := { program := "ytmkjifljciajbaadoor", sum := "fd3fbaec6041a424d249126e11a87f51503a5556ea52d83d07665fac47d94b95", func := "isogloss/isoglosslaw04.SplitTells", spec := "splitTells", inPlace := ["internal/bytealg.IndexByteString", "internal/bytealg.IndexString", "internal/reflectlite.ValueOf", "(internal/reflectlite.Value).Type", "(internal/reflectlite.Value).IsNil", "internal/reflectlite.TypeOf", "(internal/reflectlite.Value).Elem", "(internal/reflectlite.Value).Set"], unfollowed := true, recurses := true, named := ["internal/bytealg.MaxLen", "errors.errorType"], apart := false, laid := [("errors.errorType", laid_errors_errorType)], narrowed := true }
def SplitTellsUptoSaid : Prop := splitTellsUptoRow.holds Tryd.pinned (OpenSpec.upto splitTellsSpec)

/-- 'isoglosslaw04.SplitJoins', WHERE WHAT IT READS IS OF BULK AT MOST 1048576: true; the input reads as it did. -/
def splitJoinsUptoRow : OpenClaim := { program := "ytmkjifljciajbaadoor", sum := "fd3fbaec6041a424d249126e11a87f51503a5556ea52d83d07665fac47d94b95", func := "isogloss/isoglosslaw04.SplitJoins", spec := "splitJoins", inPlace := ["internal/bytealg.IndexByteString", "internal/bytealg.IndexString", "internal/reflectlite.ValueOf", "(internal/reflectlite.Value).Type", "(internal/reflectlite.Value).IsNil", "internal/reflectlite.TypeOf", "(internal/reflectlite.Value).Elem", "(internal/reflectlite.Value).Set", "internal/abi.NoEscape", "internal/bytealg.MakeNoZero"], unfollowed := true, recurses := true, named := ["internal/bytealg.MaxLen", "errors.errorType"], apart := false, laid := [("errors.errorType", laid_errors_errorType)], narrowed := true }
def SplitJoinsUptoSaid : Prop := splitJoinsUptoRow.holds Tryd.pinned (OpenSpec.upto splitJoinsSpec)

/-- 'isoglosslaw04.SplitChecks', WHERE WHAT IT READS IS OF BULK AT MOST 1048576: true; the input reads as it did. -/
def splitChecksUptoRow : OpenClaim := { program := "ytmkjifljciajbaadoor", sum := "fd3fbaec6041a424d249126e11a87f51503a5556ea52d83d07665fac47d94b95", func := "isogloss/isoglosslaw04.SplitChecks", spec := "splitChecks", inPlace := ["internal/bytealg.IndexByteString", "internal/bytealg.IndexString", "internal/reflectlite.ValueOf", "(internal/reflectlite.Value).Type", "(internal/reflectlite.Value).IsNil", "internal/reflectlite.TypeOf", "(internal/reflectlite.Value).Elem", "(internal/reflectlite.Value).Set", "internal/abi.NoEscape", "internal/bytealg.MakeNoZero"], unfollowed := true, recurses := true, named := ["internal/bytealg.MaxLen", "errors.errorType"], apart := false, laid := [("errors.errorType", laid_errors_errorType)], narrowed := true }
def SplitChecksUptoSaid : Prop := splitChecksUptoRow.holds Tryd.pinned (OpenSpec.upto splitChecksSpec)

end Rows
end Go.Proofs.YtmkjifljciajbaaDoor
