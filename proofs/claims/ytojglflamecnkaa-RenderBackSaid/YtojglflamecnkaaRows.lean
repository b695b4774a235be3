/-
  No cell of these rows narrows 'for every input' (looked for: loops, veiled, ifaces, maps, wideKeys, modest, calm, conditions, laid).
  DERIVED. THE GIVEN ROWS OF THIS SEAT. 6 by the template 'for every input the law returns true; each argument reads behind the call as it read before'; 0 by the template 'total and deterministic' (their statements: YtojglflamecnkaaTotals.lean).
  GIVEN WITH THE SEED: the statements are not yours to turn. If you find one false, say at which input.
  Laid BY PROGRAM, IN A SANDBOX (cutbox-rows.mjs): the forced cells as the released guide's own fill.sh prints them over the translation 1210882fdbb561be… (all of the seat's roots in one cut). By AI agents, Wed Nov 11 2026. No macro, syntax, notation, axiom, sorry.
-/
import Derived.Test.YtojglflamecnkaaChecked
import GoSem.Claim
import GoSem.ClaimJoined
import GoSem.ClaimMapViews
import Derived.JoinedTies
import Derived.KernelRfl
namespace Go.Proofs.Ytojglflamecnkaa
/- THE CELL 'sum', in the pinned program and in every row, IS THE sha256 OF THE DUMP (.gsa) THAT YtojglflamecnkaaProg.lean LOADS. Nothing in Lean hashes anything: it is a label: what it is worth is what the hold of that sum in a sandbox is worth. -/
noncomputable def Try.pinned : Pinned := { name := "ytojglflamecnkaa", sum := "1210882fdbb561be51066b846930303758f133c0f6801b4929cf9f462d726a8e", checked := Try.checked }
namespace Rows
def none {H : Type} : Left H := { results := [], args := [] }

/-- 'isoglosslaw08.RenderCases': WHATEVER THE INPUT: true; the input reads as it did. -/
def renderCasesSpec : ChangeSpec := { name := "renderCases", fn := fun _ => fun
  | [d] => { results := [.lit (.bool true)], args := [d] }
  | _ => none }
def renderCasesRow : OpenClaim := { program := "ytojglflamecnkaa", sum := "1210882fdbb561be51066b846930303758f133c0f6801b4929cf9f462d726a8e", func := "isogloss/isoglosslaw08.RenderCases", spec := "renderCases", inPlace := ["internal/bytealg.IndexByteString", "internal/bytealg.IndexString", "internal/abi.NoEscape", "internal/bytealg.MakeNoZero"], unfollowed := true, recurses := true, named := ["internal/bytealg.MaxLen"], apart := false }
def RenderCasesSaid : Prop := renderCasesRow.holds Try.pinned (OpenSpec.ofChange renderCasesSpec)

/-- ITS FALSE NEIGHBOUR: 'it returns false'. Refute it at one input. -/
def renderCasesWrong : ChangeSpec := { name := "renderCases", fn := fun _ => fun
  | [d] => { results := [.lit (.bool false)], args := [d] }
  | _ => none }
def RenderCasesWrongFalsely : Prop := renderCasesRow.holds Try.pinned (OpenSpec.ofChange renderCasesWrong)

/-- 'isoglosslaw08.RenderPrivate': WHATEVER THE INPUT: true; the input reads as it did. -/
def renderPrivateSpec : ChangeSpec := { name := "renderPrivate", fn := fun _ => fun
  | [d] => { results := [.lit (.bool true)], args := [d] }
  | _ => none }
def renderPrivateRow : OpenClaim := { program := "ytojglflamecnkaa", sum := "1210882fdbb561be51066b846930303758f133c0f6801b4929cf9f462d726a8e", func := "isogloss/isoglosslaw08.RenderPrivate", spec := "renderPrivate", inPlace := ["internal/bytealg.IndexByteString", "internal/bytealg.IndexString", "internal/abi.NoEscape", "internal/bytealg.MakeNoZero"], unfollowed := true, recurses := true, named := ["internal/bytealg.MaxLen"], apart := false }
def RenderPrivateSaid : Prop := renderPrivateRow.holds Try.pinned (OpenSpec.ofChange renderPrivateSpec)

/-- ITS FALSE NEIGHBOUR: 'it returns false'. Refute it at one input. -/
def renderPrivateWrong : ChangeSpec := { name := "renderPrivate", fn := fun _ => fun
  | [d] => { results := [.lit (.bool false)], args := [d] }
  | _ => none }
def RenderPrivateWrongFalsely : Prop := renderPrivateRow.holds Try.pinned (OpenSpec.ofChange renderPrivateWrong)

/-- 'isoglosslaw08.RenderBehind': WHATEVER THE INPUT: true; the input reads as it did. -/
def renderBehindSpec : ChangeSpec := { name := "renderBehind", fn := fun _ => fun
  | [d1, d2, d3] => { results := [.lit (.bool true)], args := [d1, d2, d3] }
  | _ => none }
def renderBehindRow : OpenClaim := { program := "ytojglflamecnkaa", sum := "1210882fdbb561be51066b846930303758f133c0f6801b4929cf9f462d726a8e", func := "isogloss/isoglosslaw08.RenderBehind", spec := "renderBehind", inPlace := ["internal/bytealg.IndexByteString", "internal/bytealg.IndexString", "internal/abi.NoEscape", "internal/bytealg.MakeNoZero"], unfollowed := true, recurses := true, named := ["internal/bytealg.MaxLen"], apart := false }
def RenderBehindSaid : Prop := renderBehindRow.holds Try.pinned (OpenSpec.ofChange renderBehindSpec)

/-- ITS FALSE NEIGHBOUR: 'it returns false'. Refute it at one input. -/
def renderBehindWrong : ChangeSpec := { name := "renderBehind", fn := fun _ => fun
  | [d1, d2, d3] => { results := [.lit (.bool false)], args := [d1, d2, d3] }
  | _ => none }
def RenderBehindWrongFalsely : Prop := renderBehindRow.holds Try.pinned (OpenSpec.ofChange renderBehindWrong)

/-- 'isoglosslaw08.RenderBack': WHATEVER THE INPUT: true; the input reads as it did. -/
def renderBackSpec : ChangeSpec := { name := "renderBack", fn := fun _ => fun
  | [d] => { results := [.lit (.bool true)], args := [d] }
  | _ => none }
def renderBackRow : OpenClaim := { program := "ytojglflamecnkaa", sum := "1210882fdbb561be51066b846930303758f133c0f6801b4929cf9f462d726a8e", func := "isogloss/isoglosslaw08.RenderBack", spec := "renderBack", inPlace := ["internal/bytealg.IndexByteString", "internal/bytealg.IndexString", "internal/abi.NoEscape", "internal/bytealg.MakeNoZero"], unfollowed := true, recurses := true, named := ["internal/bytealg.MaxLen"], apart := false }
def RenderBackSaid : Prop := renderBackRow.holds Try.pinned (OpenSpec.ofChange renderBackSpec)

/-- ITS FALSE NEIGHBOUR: 'it returns false'. Refute it at one input. -/
def renderBackWrong : ChangeSpec := { name := "renderBack", fn := fun _ => fun
  | [d] => { results := [.lit (.bool false)], args := [d] }
  | _ => none }
def RenderBackWrongFalsely : Prop := renderBackRow.holds Try.pinned (OpenSpec.ofChange renderBackWrong)

/-- 'isoglosslaw08.RenderTells': WHATEVER THE INPUT: true; the input reads as it did. -/
def renderTellsSpec : ChangeSpec := { name := "renderTells", fn := fun _ => fun
  | [d1, d2, d3] => { results := [.lit (.bool true)], args := [d1, d2, d3] }
  | _ => none }
def renderTellsRow : OpenClaim := { program := "ytojglflamecnkaa", sum := "1210882fdbb561be51066b846930303758f133c0f6801b4929cf9f462d726a8e", func := "isogloss/isoglosslaw08.RenderTells", spec := "renderTells", inPlace := ["internal/bytealg.IndexByteString", "internal/bytealg.IndexString", "internal/abi.NoEscape", "internal/bytealg.MakeNoZero"], unfollowed := true, recurses := true, named := ["internal/bytealg.MaxLen"], apart := false }
def RenderTellsSaid : Prop := renderTellsRow.holds Try.pinned (OpenSpec.ofChange renderTellsSpec)

/-- ITS FALSE NEIGHBOUR: 'it returns false'. Refute it at one input. -/
def renderTellsWrong : ChangeSpec := { name := "renderTells", fn := fun _ => fun
  | [d1, d2, d3] => { results := [.lit (.bool false)], args := [d1, d2, d3] }
  | _ => none }
def RenderTellsWrongFalsely : Prop := renderTellsRow.holds Try.pinned (OpenSpec.ofChange renderTellsWrong)

/-- 'isoglosslaw08.RenderShort': WHATEVER THE INPUT: true; the input reads as it did. -/
def renderShortSpec : ChangeSpec := { name := "renderShort", fn := fun _ => fun
  | [d1, d2] => { results := [.lit (.bool true)], args := [d1, d2] }
  | _ => none }
def renderShortRow : OpenClaim := { program := "ytojglflamecnkaa", sum := "1210882fdbb561be51066b846930303758f133c0f6801b4929cf9f462d726a8e", func := "isogloss/isoglosslaw08.RenderShort", spec := "renderShort", inPlace := ["internal/bytealg.IndexByteString", "internal/bytealg.IndexString", "internal/abi.NoEscape", "internal/bytealg.MakeNoZero"], unfollowed := true, recurses := true, named := ["internal/bytealg.MaxLen"], apart := false }
def RenderShortSaid : Prop := renderShortRow.holds Try.pinned (OpenSpec.ofChange renderShortSpec)

/-- ITS FALSE NEIGHBOUR: 'it returns false'. Refute it at one input. -/
def renderShortWrong : ChangeSpec := { name := "renderShort", fn := fun _ => fun
  | [d1, d2] => { results := [.lit (.bool false)], args := [d1, d2] }
  | _ => none }
def RenderShortWrongFalsely : Prop := renderShortRow.holds Try.pinned (OpenSpec.ofChange renderShortWrong)

/- THE SECOND FORM. 'bulk': how many values and letters a reading holds, each counted each time it is reached (what is shared counts as often as it is met; a slice's spare places count too). A statement '..UptoSaid' is the law's where the arguments, and the package variables that the reading takes, are together of bulk at most 1048576: NARROWER than '..Said'. Prove '..Said' where nothing that the law and all that it calls make is longer than what came in: it says more and counts as full. Else prove '..UptoSaid'. A law counts once. -/
mutual
def uptoBulk {H : Type} : DataW H → Nat
  | .lit (.string bytes) => bytes.length + 1
  | .lit _ => 1
  | .nil => 1
  | .ptr d => uptoBulk d + 1
  | .slice elems spare => uptoBulkAll elems + uptoBulkAll spare + 1
  | .agg parts => uptoBulkAll parts + 1
  | .iface _ d => uptoBulk d + 1
  | .map entries => uptoBulkEntries entries + 1
  | .held _ => 1
def uptoBulkAll {H : Type} : List (DataW H) → Nat
  | [] => 0
  | d :: r => uptoBulk d + uptoBulkAll r
def uptoBulkEntries {H : Type} : List (Lit × DataW H) → Nat
  | [] => 0
  | x :: r => uptoBulkEntry x + uptoBulkEntries r
def uptoBulkEntry {H : Type} : Lit × DataW H → Nat
  | (.string bytes, d) => bytes.length + uptoBulk d + 1
  | (_, d) => uptoBulk d + 1
 end
def uptoSmall : (H : Type) → List (DataW H) → Bool := fun _ ds => decide (uptoBulkAll ds ≤ 1048576)
def OpenSpec.upto (s : _root_.Go.ChangeSpec) : _root_.Go.OpenSpec := { _root_.Go.OpenSpec.ofChange s with cond := some uptoSmall }

/-- 'isoglosslaw08.RenderCases', WHERE WHAT IT READS IS OF BULK AT MOST 1048576: true; the input reads as it did. -/
def renderCasesUptoRow : OpenClaim := { program := "ytojglflamecnkaa", sum := "1210882fdbb561be51066b846930303758f133c0f6801b4929cf9f462d726a8e", func := "isogloss/isoglosslaw08.RenderCases", spec := "renderCases", inPlace := ["internal/bytealg.IndexByteString", "internal/bytealg.IndexString", "internal/abi.NoEscape", "internal/bytealg.MakeNoZero"], unfollowed := true, recurses := true, named := ["internal/bytealg.MaxLen"], apart := false, narrowed := true }
def RenderCasesUptoSaid : Prop := renderCasesUptoRow.holds Try.pinned (OpenSpec.upto renderCasesSpec)

/-- 'isoglosslaw08.RenderPrivate', WHERE WHAT IT READS IS OF BULK AT MOST 1048576: true; the input reads as it did. -/
def renderPrivateUptoRow : OpenClaim := { program := "ytojglflamecnkaa", sum := "1210882fdbb561be51066b846930303758f133c0f6801b4929cf9f462d726a8e", func := "isogloss/isoglosslaw08.RenderPrivate", spec := "renderPrivate", inPlace := ["internal/bytealg.IndexByteString", "internal/bytealg.IndexString", "internal/abi.NoEscape", "internal/bytealg.MakeNoZero"], unfollowed := true, recurses := true, named := ["internal/bytealg.MaxLen"], apart := false, narrowed := true }
def RenderPrivateUptoSaid : Prop := renderPrivateUptoRow.holds Try.pinned (OpenSpec.upto renderPrivateSpec)

/-- 'isoglosslaw08.RenderBehind', WHERE WHAT IT READS IS OF BULK AT MOST 1048576: true; the input reads as it did. -/
def renderBehindUptoRow : OpenClaim := { program := "ytojglflamecnkaa", sum := "1210882fdbb561be51066b846930303758f133c0f6801b4929cf9f462d726a8e", func := "isogloss/isoglosslaw08.RenderBehind", spec := "renderBehind", inPlace := ["internal/bytealg.IndexByteString", "internal/bytealg.IndexString", "internal/abi.NoEscape", "internal/bytealg.MakeNoZero"], unfollowed := true, recurses := true, named := ["internal/bytealg.MaxLen"], apart := false, narrowed := true }
def RenderBehindUptoSaid : Prop := renderBehindUptoRow.holds Try.pinned (OpenSpec.upto renderBehindSpec)

/-- 'isoglosslaw08.RenderBack', WHERE WHAT IT READS IS OF BULK AT MOST 1048576: true; the input reads as it did. -/
def renderBackUptoRow : OpenClaim := { program := "ytojglflamecnkaa", sum := "1210882fdbb561be51066b846930303758f133c0f6801b4929cf9f462d726a8e", func := "isogloss/isoglosslaw08.RenderBack", spec := "renderBack", inPlace := ["internal/bytealg.IndexByteString", "internal/bytealg.IndexString", "internal/abi.NoEscape", "internal/bytealg.MakeNoZero"], unfollowed := true, recurses := true, named := ["internal/bytealg.MaxLen"], apart := false, narrowed := true }
def RenderBackUptoSaid : Prop := renderBackUptoRow.holds Try.pinned (OpenSpec.upto renderBackSpec)

/-- 'isoglosslaw08.RenderTells', WHERE WHAT IT READS IS OF BULK AT MOST 1048576: true; the input reads as it did. -/
def renderTellsUptoRow : OpenClaim := { program := "ytojglflamecnkaa", sum := "1210882fdbb561be51066b846930303758f133c0f6801b4929cf9f462d726a8e", func := "isogloss/isoglosslaw08.RenderTells", spec := "renderTells", inPlace := ["internal/bytealg.IndexByteString", "internal/bytealg.IndexString", "internal/abi.NoEscape", "internal/bytealg.MakeNoZero"], unfollowed := true, recurses := true, named := ["internal/bytealg.MaxLen"], apart := false, narrowed := true }
def RenderTellsUptoSaid : Prop := renderTellsUptoRow.holds Try.pinned (OpenSpec.upto renderTellsSpec)

/-- 'isoglosslaw08.RenderShort', WHERE WHAT IT READS IS OF BULK AT MOST 1048576: true; the input reads as it did. -/
def renderShortUptoRow : OpenClaim := { program := "ytojglflamecnkaa", sum := "1210882fdbb561be51066b846930303758f133c0f6801b4929cf9f462d726a8e", func := "isogloss/isoglosslaw08.RenderShort", spec := "renderShort", inPlace := ["internal/bytealg.IndexByteString", "internal/bytealg.IndexString", "internal/abi.NoEscape", "internal/bytealg.MakeNoZero"], unfollowed := true, recurses := true, named := ["internal/bytealg.MaxLen"], apart := false, narrowed := true }
def RenderShortUptoSaid : Prop := renderShortUptoRow.holds Try.pinned (OpenSpec.upto renderShortSpec)

end Rows
end Go.Proofs.Ytojglflamecnkaa
