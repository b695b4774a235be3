/-
  No cell of these rows narrows 'for every input' (looked for: loops, veiled, ifaces, maps, wideKeys, modest, calm, conditions, laid).
  DERIVED. THE GIVEN ROWS OF THIS SEAT. 6 by the template 'for every input the law returns true; each argument reads behind the call as it read before'; 0 by the template 'total and deterministic' (their statements: YtoigdaioghmlpaaTotals.lean).
  GIVEN WITH THE SEED: the statements are not yours to turn. If you find one false, say at which input.
  Laid BY PROGRAM, IN A SANDBOX (cutbox-rows.mjs): the forced cells as the released guide's own fill.sh prints them over the translation 4fc03513c327e377… (all of the seat's roots in one cut). By AI agents, Wed Nov 11 2026. No macro, syntax, notation, axiom, sorry.
-/
import Derived.Test.YtoigdaioghmlpaaChecked
import GoSem.Claim
import GoSem.ClaimJoined
import GoSem.ClaimMapViews
import Derived.JoinedTies
import Derived.KernelRfl
namespace Go.Proofs.Ytoigdaioghmlpaa
/- THE CELL 'sum', in the pinned program and in every row, IS THE sha256 OF THE DUMP (.gsa) THAT YtoigdaioghmlpaaProg.lean LOADS. Nothing in Lean hashes anything: it is a label: what it is worth is what the hold of that sum in a sandbox is worth. -/
noncomputable def Try.pinned : Pinned := { name := "ytoigdaioghmlpaa", sum := "4fc03513c327e3770517c8d03f50d2d17c9d6691e5d696af4e43a7035355b76f", checked := Try.checked }
namespace Rows
def none {H : Type} : Left H := { results := [], args := [] }

/-- 'isoglosslaw21.LookupSequence': WHATEVER THE INPUT: true; the input reads as it did. -/
def lookupSequenceSpec : ChangeSpec := { name := "lookupSequence", fn := fun _ => fun
  | [d1, d2] => { results := [.lit (.bool true)], args := [d1, d2] }
  | _ => none }
def lookupSequenceRow : OpenClaim := { program := "ytoigdaioghmlpaa", sum := "4fc03513c327e3770517c8d03f50d2d17c9d6691e5d696af4e43a7035355b76f", func := "isogloss/isoglosslaw21.LookupSequence", spec := "lookupSequence", inPlace := ["internal/bytealg.IndexByteString", "internal/bytealg.IndexString"], unfollowed := true, recurses := true, named := ["internal/bytealg.MaxLen"], apart := false }
def LookupSequenceSaid : Prop := lookupSequenceRow.holds Try.pinned (OpenSpec.ofChange lookupSequenceSpec)

/-- ITS FALSE NEIGHBOUR: 'it returns false'. Refute it at one input. -/
def lookupSequenceWrong : ChangeSpec := { name := "lookupSequence", fn := fun _ => fun
  | [d1, d2] => { results := [.lit (.bool false)], args := [d1, d2] }
  | _ => none }
def LookupSequenceWrongFalsely : Prop := lookupSequenceRow.holds Try.pinned (OpenSpec.ofChange lookupSequenceWrong)

/-- 'isoglosslaw21.LookupTells': WHATEVER THE INPUT: true; the input reads as it did. -/
def lookupTellsSpec : ChangeSpec := { name := "lookupTells", fn := fun _ => fun
  | [d1, d2, d3] => { results := [.lit (.bool true)], args := [d1, d2, d3] }
  | _ => none }
def lookupTellsRow : OpenClaim := { program := "ytoigdaioghmlpaa", sum := "4fc03513c327e3770517c8d03f50d2d17c9d6691e5d696af4e43a7035355b76f", func := "isogloss/isoglosslaw21.LookupTells", spec := "lookupTells", inPlace := ["internal/bytealg.IndexByteString", "internal/bytealg.IndexString"], unfollowed := true, recurses := true, named := ["internal/bytealg.MaxLen"], apart := false }
def LookupTellsSaid : Prop := lookupTellsRow.holds Try.pinned (OpenSpec.ofChange lookupTellsSpec)

/-- ITS FALSE NEIGHBOUR: 'it returns false'. Refute it at one input. -/
def lookupTellsWrong : ChangeSpec := { name := "lookupTells", fn := fun _ => fun
  | [d1, d2, d3] => { results := [.lit (.bool false)], args := [d1, d2, d3] }
  | _ => none }
def LookupTellsWrongFalsely : Prop := lookupTellsRow.holds Try.pinned (OpenSpec.ofChange lookupTellsWrong)

/-- 'isoglosslaw21.LookupIs': WHATEVER THE INPUT: true; the input reads as it did. -/
def lookupIsSpec : ChangeSpec := { name := "lookupIs", fn := fun _ => fun
  | [d1, d2] => { results := [.lit (.bool true)], args := [d1, d2] }
  | _ => none }
def lookupIsRow : OpenClaim := { program := "ytoigdaioghmlpaa", sum := "4fc03513c327e3770517c8d03f50d2d17c9d6691e5d696af4e43a7035355b76f", func := "isogloss/isoglosslaw21.LookupIs", spec := "lookupIs", inPlace := ["internal/bytealg.IndexByteString", "internal/bytealg.IndexString"], unfollowed := true, recurses := true, named := ["internal/bytealg.MaxLen"], apart := false }
def LookupIsSaid : Prop := lookupIsRow.holds Try.pinned (OpenSpec.ofChange lookupIsSpec)

/-- ITS FALSE NEIGHBOUR: 'it returns false'. Refute it at one input. -/
def lookupIsWrong : ChangeSpec := { name := "lookupIs", fn := fun _ => fun
  | [d1, d2] => { results := [.lit (.bool false)], args := [d1, d2] }
  | _ => none }
def LookupIsWrongFalsely : Prop := lookupIsRow.holds Try.pinned (OpenSpec.ofChange lookupIsWrong)

/-- 'isoglosslaw21.LookupSelf': WHATEVER THE INPUT: true; the input reads as it did. -/
def lookupSelfSpec : ChangeSpec := { name := "lookupSelf", fn := fun _ => fun
  | [d1, d2, d3] => { results := [.lit (.bool true)], args := [d1, d2, d3] }
  | _ => none }
def lookupSelfRow : OpenClaim := { program := "ytoigdaioghmlpaa", sum := "4fc03513c327e3770517c8d03f50d2d17c9d6691e5d696af4e43a7035355b76f", func := "isogloss/isoglosslaw21.LookupSelf", spec := "lookupSelf", inPlace := ["internal/bytealg.IndexByteString", "internal/bytealg.IndexString"], unfollowed := true, recurses := true, named := ["internal/bytealg.MaxLen"], apart := false }
def LookupSelfSaid : Prop := lookupSelfRow.holds Try.pinned (OpenSpec.ofChange lookupSelfSpec)

/-- ITS FALSE NEIGHBOUR: 'it returns false'. Refute it at one input. -/
def lookupSelfWrong : ChangeSpec := { name := "lookupSelf", fn := fun _ => fun
  | [d1, d2, d3] => { results := [.lit (.bool false)], args := [d1, d2, d3] }
  | _ => none }
def LookupSelfWrongFalsely : Prop := lookupSelfRow.holds Try.pinned (OpenSpec.ofChange lookupSelfWrong)

/-- 'isoglosslaw21.LookupSingles': WHATEVER THE INPUT: true; the input reads as it did. -/
def lookupSinglesSpec : ChangeSpec := { name := "lookupSingles", fn := fun _ => fun
  | [d1, d2] => { results := [.lit (.bool true)], args := [d1, d2] }
  | _ => none }
def lookupSinglesRow : OpenClaim := { program := "ytoigdaioghmlpaa", sum := "4fc03513c327e3770517c8d03f50d2d17c9d6691e5d696af4e43a7035355b76f", func := "isogloss/isoglosslaw21.LookupSingles", spec := "lookupSingles", inPlace := ["internal/bytealg.IndexByteString", "internal/bytealg.IndexString"], unfollowed := true, recurses := true, named := ["internal/bytealg.MaxLen"], apart := false }
def LookupSinglesSaid : Prop := lookupSinglesRow.holds Try.pinned (OpenSpec.ofChange lookupSinglesSpec)

/-- ITS FALSE NEIGHBOUR: 'it returns false'. Refute it at one input. -/
def lookupSinglesWrong : ChangeSpec := { name := "lookupSingles", fn := fun _ => fun
  | [d1, d2] => { results := [.lit (.bool false)], args := [d1, d2] }
  | _ => none }
def LookupSinglesWrongFalsely : Prop := lookupSinglesRow.holds Try.pinned (OpenSpec.ofChange lookupSinglesWrong)

/-- 'isoglosslaw21.LookupSkips': WHATEVER THE INPUT: true; the input reads as it did. -/
def lookupSkipsSpec : ChangeSpec := { name := "lookupSkips", fn := fun _ => fun
  | [d1, d2, d3] => { results := [.lit (.bool true)], args := [d1, d2, d3] }
  | _ => none }
def lookupSkipsRow : OpenClaim := { program := "ytoigdaioghmlpaa", sum := "4fc03513c327e3770517c8d03f50d2d17c9d6691e5d696af4e43a7035355b76f", func := "isogloss/isoglosslaw21.LookupSkips", spec := "lookupSkips", inPlace := ["internal/bytealg.IndexByteString", "internal/bytealg.IndexString"], unfollowed := true, recurses := true, named := ["internal/bytealg.MaxLen"], apart := false }
def LookupSkipsSaid : Prop := lookupSkipsRow.holds Try.pinned (OpenSpec.ofChange lookupSkipsSpec)

/-- ITS FALSE NEIGHBOUR: 'it returns false'. Refute it at one input. -/
def lookupSkipsWrong : ChangeSpec := { name := "lookupSkips", fn := fun _ => fun
  | [d1, d2, d3] => { results := [.lit (.bool false)], args := [d1, d2, d3] }
  | _ => none }
def LookupSkipsWrongFalsely : Prop := lookupSkipsRow.holds Try.pinned (OpenSpec.ofChange lookupSkipsWrong)

/- THE SECOND FORM. 'bulk': how many values and letters a reading holds, each counted each time it is reached (what is shared counts as often as it is met; a slice's spare places count too). A statement '..UptoSaid' is the law's where the arguments, and the package variables that the reading takes, are together of bulk at most 1048576: NARROWER than '..Said'. Prove '..Said' where nothing that the law and all that it calls make is longer than what came in: it says more and counts as full. Else prove '..UptoSaid'. A law counts once. -/
mutual
def uptoBulk {H : Type} : DataW H → Nat
  | .lit (.string bytes) => bytes.length + 1
  | .lit _ => 1
  | .nil => 1
  | .ptr d => uptoBulk d + 1
  | .slice elems spare => uptoBulkAll elems + uptoBulkAll spare + 1
  | .agg parts => uptoBulkAll parts + 1
  | .iface _ d => uptoBulk d + 1
  | .map entries => uptoBulkEntries entries + 1
  | .held _ => 1
def uptoBulkAll {H : Type} : List (DataW H) → Nat
  | [] => 0
  | d :: r => uptoBulk d + uptoBulkAll r
def uptoBulkEntries {H : Type} : List (Lit × DataW H) → Nat
  | [] => 0
  | x :: r => uptoBulkEntry x + uptoBulkEntries r
def uptoBulkEntry {H : Type} : Lit × DataW H → Nat
  | (.string bytes, d) => bytes.length + uptoBulk d + 1
  | (_, d) => uptoBulk d + 1
 end
def uptoSmall : (H : Type) → List (DataW H) → Bool := fun _ ds => decide (uptoBulkAll ds ≤ 1048576)
def OpenSpec.upto (s : _root_.Go.ChangeSpec) : _root_.Go.OpenSpec := { _root_.Go.OpenSpec.ofChange s with cond := some uptoSmall }

/-- 'isoglosslaw21.LookupSequence', WHERE WHAT IT READS IS OF BULK AT MOST 1048576: true; the input reads as it did. -/
def lookupSequenceUptoRow : OpenClaim := { program := "ytoigdaioghmlpaa", sum := "4fc03513c327e3770517c8d03f50d2d17c9d6691e5d696af4e43a7035355b76f", func := "isogloss/isoglosslaw21.LookupSequence", spec := "lookupSequence", inPlace := ["internal/bytealg.IndexByteString", "internal/bytealg.IndexString"], unfollowed := true, recurses := true, named := ["internal/bytealg.MaxLen"], apart := false, narrowed := true }
def LookupSequenceUptoSaid : Prop := lookupSequenceUptoRow.holds Try.pinned (OpenSpec.upto lookupSequenceSpec)

/-- 'isoglosslaw21.LookupTells', WHERE WHAT IT READS IS OF BULK AT MOST 1048576: true; the input reads as it did. -/
def lookupTellsUptoRow : OpenClaim := { program := "ytoigdaioghmlpaa", sum := "4fc03513c327e3770517c8d03f50d2d17c9d6691e5d696af4e43a7035355b76f", func := "isogloss/isoglosslaw21.LookupTells", spec := "lookupTells", inPlace := ["internal/bytealg.IndexByteString", "internal/bytealg.IndexString"], unfollowed := true, recurses := true, named := ["internal/bytealg.MaxLen"], apart := false, narrowed := true }
def LookupTellsUptoSaid : Prop := lookupTellsUptoRow.holds Try.pinned (OpenSpec.upto lookupTellsSpec)

/-- 'isoglosslaw21.LookupIs', WHERE WHAT IT READS IS OF BULK AT MOST 1048576: true; the input reads as it did. -/
def lookupIsUptoRow : OpenClaim := { program := "ytoigdaioghmlpaa", sum := "4fc03513c327e3770517c8d03f50d2d17c9d6691e5d696af4e43a7035355b76f", func := "isogloss/isoglosslaw21.LookupIs", spec := "lookupIs", inPlace := ["internal/bytealg.IndexByteString", "internal/bytealg.IndexString"], unfollowed := true, recurses := true, named := ["internal/bytealg.MaxLen"], apart := false, narrowed := true }
def LookupIsUptoSaid : Prop := lookupIsUptoRow.holds Try.pinned (OpenSpec.upto lookupIsSpec)

/-- 'isoglosslaw21.LookupSelf', WHERE WHAT IT READS IS OF BULK AT MOST 1048576: true; the input reads as it did. -/
def lookupSelfUptoRow : OpenClaim := { program := "ytoigdaioghmlpaa", sum := "4fc03513c327e3770517c8d03f50d2d17c9d6691e5d696af4e43a7035355b76f", func := "isogloss/isoglosslaw21.LookupSelf", spec := "lookupSelf", inPlace := ["internal/bytealg.IndexByteString", "internal/bytealg.IndexString"], unfollowed := true, recurses := true, named := ["internal/bytealg.MaxLen"], apart := false, narrowed := true }
def LookupSelfUptoSaid : Prop := lookupSelfUptoRow.holds Try.pinned (OpenSpec.upto lookupSelfSpec)

/-- 'isoglosslaw21.LookupSingles', WHERE WHAT IT READS IS OF BULK AT MOST 1048576: true; the input reads as it did. -/
def lookupSinglesUptoRow : OpenClaim := { program := "ytoigdaioghmlpaa", sum := "4fc03513c327e3770517c8d03f50d2d17c9d6691e5d696af4e43a7035355b76f", func := "isogloss/isoglosslaw21.LookupSingles", spec := "lookupSingles", inPlace := ["internal/bytealg.IndexByteString", "internal/bytealg.IndexString"], unfollowed := true, recurses := true, named := ["internal/bytealg.MaxLen"], apart := false, narrowed := true }
def LookupSinglesUptoSaid : Prop := lookupSinglesUptoRow.holds Try.pinned (OpenSpec.upto lookupSinglesSpec)

/-- 'isoglosslaw21.LookupSkips', WHERE WHAT IT READS IS OF BULK AT MOST 1048576: true; the input reads as it did. -/
def lookupSkipsUptoRow : OpenClaim := { program := "ytoigdaioghmlpaa", sum := "4fc03513c327e3770517c8d03f50d2d17c9d6691e5d696af4e43a7035355b76f", func := "isogloss/isoglosslaw21.LookupSkips", spec := "lookupSkips", inPlace := ["internal/bytealg.IndexByteString", "internal/bytealg.IndexString"], unfollowed := true, recurses := true, named := ["internal/bytealg.MaxLen"], apart := false, narrowed := true }
def LookupSkipsUptoSaid : Prop := lookupSkipsUptoRow.holds Try.pinned (OpenSpec.upto lookupSkipsSpec)

end Rows
end Go.Proofs.Ytoigdaioghmlpaa
