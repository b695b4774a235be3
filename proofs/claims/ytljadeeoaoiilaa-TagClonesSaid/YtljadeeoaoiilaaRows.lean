/-
  No cell of these rows narrows 'for every input' (looked for: loops, veiled, ifaces, maps, wideKeys, modest, calm, conditions, laid).
  DERIVED. THE GIVEN ROWS OF THIS SEAT. 5 by the template 'for every input the law returns true; each argument reads behind the call as it read before'; 0 by the template 'total and deterministic' (their statements: YtljadeeoaoiilaaTotals.lean).
  GIVEN WITH THE SEED: the statements are not yours to turn. If you find one false, say at which input.
  Laid BY PROGRAM, IN A SANDBOX (cutbox-rows.mjs): the forced cells as the released guide's own fill.sh prints them over the translation 8f3793aa6ca4289b… (all of the seat's roots in one cut). By AI agents, Wed Nov 11 2026. No macro, syntax, notation, axiom, sorry.
-/
import Derived.Test.YtljadeeoaoiilaaChecked
import GoSem.Claim
import GoSem.ClaimJoined
import GoSem.ClaimMapViews
import Derived.JoinedTies
import Derived.KernelRfl
namespace Go.Proofs.Ytljadeeoaoiilaa
/- THE CELL 'sum', in the pinned program and in every row, IS THE sha256 OF THE DUMP (.gsa) THAT YtljadeeoaoiilaaProg.lean LOADS. Nothing in Lean hashes anything: it is a label: what it is worth is what the hold of that sum in a sandbox is worth. -/
noncomputable def Try.pinned : Pinned := { name := "ytljadeeoaoiilaa", sum := "8f3793aa6ca4289bf559274c9ddf0e0571ae98ee7f0a1ef35eb1def0141060d8", checked := Try.checked }
namespace Rows
def none {H : Type} : Left H := { results := [], args := [] }

/-- 'isoglosslaw06.TagClones': WHATEVER THE INPUT: true; the input reads as it did. -/
def tagClonesSpec : ChangeSpec := { name := "tagClones", fn := fun _ => fun
  | [d1, d2] => { results := [.lit (.bool true)], args := [d1, d2] }
  | _ => none }
def tagClonesRow : OpenClaim := { program := "ytljadeeoaoiilaa", sum := "8f3793aa6ca4289bf559274c9ddf0e0571ae98ee7f0a1ef35eb1def0141060d8", func := "isogloss/isoglosslaw06.TagClones", spec := "tagClones", apart := false }
def TagClonesSaid : Prop := tagClonesRow.holds Try.pinned (OpenSpec.ofChange tagClonesSpec)

/-- ITS FALSE NEIGHBOUR: 'it returns false'. Refute it at one input. -/
def tagClonesWrong : ChangeSpec := { name := "tagClones", fn := fun _ => fun
  | [d1, d2] => { results := [.lit (.bool false)], args := [d1, d2] }
  | _ => none }
def TagClonesWrongFalsely : Prop := tagClonesRow.holds Try.pinned (OpenSpec.ofChange tagClonesWrong)

/-- 'isoglosslaw06.TagSame': WHATEVER THE INPUT: true; the input reads as it did. -/
def tagSameSpec : ChangeSpec := { name := "tagSame", fn := fun _ => fun
  | [d1, d2, d3] => { results := [.lit (.bool true)], args := [d1, d2, d3] }
  | _ => none }
def tagSameRow : OpenClaim := { program := "ytljadeeoaoiilaa", sum := "8f3793aa6ca4289bf559274c9ddf0e0571ae98ee7f0a1ef35eb1def0141060d8", func := "isogloss/isoglosslaw06.TagSame", spec := "tagSame", unfollowed := true, recurses := true, apart := false }
def TagSameSaid : Prop := tagSameRow.holds Try.pinned (OpenSpec.ofChange tagSameSpec)

/-- ITS FALSE NEIGHBOUR: 'it returns false'. Refute it at one input. -/
def tagSameWrong : ChangeSpec := { name := "tagSame", fn := fun _ => fun
  | [d1, d2, d3] => { results := [.lit (.bool false)], args := [d1, d2, d3] }
  | _ => none }
def TagSameWrongFalsely : Prop := tagSameRow.holds Try.pinned (OpenSpec.ofChange tagSameWrong)

/-- 'isoglosslaw06.TagKinds': WHATEVER THE INPUT: true; the input reads as it did. -/
def tagKindsSpec : ChangeSpec := { name := "tagKinds", fn := fun _ => fun
  | [d] => { results := [.lit (.bool true)], args := [d] }
  | _ => none }
def tagKindsRow : OpenClaim := { program := "ytljadeeoaoiilaa", sum := "8f3793aa6ca4289bf559274c9ddf0e0571ae98ee7f0a1ef35eb1def0141060d8", func := "isogloss/isoglosslaw06.TagKinds", spec := "tagKinds", apart := false }
def TagKindsSaid : Prop := tagKindsRow.holds Try.pinned (OpenSpec.ofChange tagKindsSpec)

/-- ITS FALSE NEIGHBOUR: 'it returns false'. Refute it at one input. -/
def tagKindsWrong : ChangeSpec := { name := "tagKinds", fn := fun _ => fun
  | [d] => { results := [.lit (.bool false)], args := [d] }
  | _ => none }
def TagKindsWrongFalsely : Prop := tagKindsRow.holds Try.pinned (OpenSpec.ofChange tagKindsWrong)

/-- 'isoglosslaw06.TagApart': WHATEVER THE INPUT: true; the input reads as it did. -/
def tagApartSpec : ChangeSpec := { name := "tagApart", fn := fun _ => fun
  | [d] => { results := [.lit (.bool true)], args := [d] }
  | _ => none }
def tagApartRow : OpenClaim := { program := "ytljadeeoaoiilaa", sum := "8f3793aa6ca4289bf559274c9ddf0e0571ae98ee7f0a1ef35eb1def0141060d8", func := "isogloss/isoglosslaw06.TagApart", spec := "tagApart", apart := false }
def TagApartSaid : Prop := tagApartRow.holds Try.pinned (OpenSpec.ofChange tagApartSpec)

/-- ITS FALSE NEIGHBOUR: 'it returns false'. Refute it at one input. -/
def tagApartWrong : ChangeSpec := { name := "tagApart", fn := fun _ => fun
  | [d] => { results := [.lit (.bool false)], args := [d] }
  | _ => none }
def TagApartWrongFalsely : Prop := tagApartRow.holds Try.pinned (OpenSpec.ofChange tagApartWrong)

/-- 'isoglosslaw06.TagSubtags': WHATEVER THE INPUT: true; the input reads as it did. -/
def tagSubtagsSpec : ChangeSpec := { name := "tagSubtags", fn := fun _ => fun
  | [d1, d2] => { results := [.lit (.bool true)], args := [d1, d2] }
  | _ => none }
def tagSubtagsRow : OpenClaim := { program := "ytljadeeoaoiilaa", sum := "8f3793aa6ca4289bf559274c9ddf0e0571ae98ee7f0a1ef35eb1def0141060d8", func := "isogloss/isoglosslaw06.TagSubtags", spec := "tagSubtags", inPlace := ["internal/bytealg.IndexByteString", "internal/bytealg.IndexString"], unfollowed := true, recurses := true, named := ["internal/bytealg.MaxLen"], apart := false }
def TagSubtagsSaid : Prop := tagSubtagsRow.holds Try.pinned (OpenSpec.ofChange tagSubtagsSpec)

/-- ITS FALSE NEIGHBOUR: 'it returns false'. Refute it at one input. -/
def tagSubtagsWrong : ChangeSpec := { name := "tagSubtags", fn := fun _ => fun
  | [d1, d2] => { results := [.lit (.bool false)], args := [d1, d2] }
  | _ => none }
def TagSubtagsWrongFalsely : Prop := tagSubtagsRow.holds Try.pinned (OpenSpec.ofChange tagSubtagsWrong)

/- THE SECOND FORM. 'bulk': how many values and letters a reading holds, each counted each time it is reached (what is shared counts as often as it is met; a slice's spare places count too). A statement '..UptoSaid' is the law's where the arguments, and the package variables that the reading takes, are together of bulk at most 1048576: NARROWER than '..Said'. Prove '..Said' where nothing that the law and all that it calls make is longer than what came in: it says more and counts as full. Else prove '..UptoSaid'. A law counts once. -/
mutual
def uptoBulk {H : Type} : DataW H → Nat
  | .lit (.string bytes) => bytes.length + 1
  | .lit _ => 1
  | .nil => 1
  | .ptr d => uptoBulk d + 1
  | .slice elems spare => uptoBulkAll elems + uptoBulkAll spare + 1
  | .agg parts => uptoBulkAll parts + 1
  | .iface _ d => uptoBulk d + 1
  | .map entries => uptoBulkEntries entries + 1
  | .held _ => 1
def uptoBulkAll {H : Type} : List (DataW H) → Nat
  | [] => 0
  | d :: r => uptoBulk d + uptoBulkAll r
def uptoBulkEntries {H : Type} : List (Lit × DataW H) → Nat
  | [] => 0
  | x :: r => uptoBulkEntry x + uptoBulkEntries r
def uptoBulkEntry {H : Type} : Lit × DataW H → Nat
  | (.string bytes, d) => bytes.length + uptoBulk d + 1
  | (_, d) => uptoBulk d + 1
 end
def uptoSmall : (H : Type) → List (DataW H) → Bool := fun _ ds => decide (uptoBulkAll ds ≤ 1048576)
def OpenSpec.upto (s : _root_.Go.ChangeSpec) : _root_.Go.OpenSpec := { _root_.Go.OpenSpec.ofChange s with cond := some uptoSmall }

/-- 'isoglosslaw06.TagClones', WHERE WHAT IT READS IS OF BULK AT MOST 1048576: true; the input reads as it did. -/
def tagClonesUptoRow : OpenClaim := { program := "ytljadeeoaoiilaa", sum := "8f3793aa6ca4289bf559274c9ddf0e0571ae98ee7f0a1ef35eb1def0141060d8", func := "isogloss/isoglosslaw06.TagClones", spec := "tagClones", apart := false, narrowed := true }
def TagClonesUptoSaid : Prop := tagClonesUptoRow.holds Try.pinned (OpenSpec.upto tagClonesSpec)

/-- 'isoglosslaw06.TagSame', WHERE WHAT IT READS IS OF BULK AT MOST 1048576: true; the input reads as it did. -/
def tagSameUptoRow : OpenClaim := { program := "ytljadeeoaoiilaa", sum := "8f3793aa6ca4289bf559274c9ddf0e0571ae98ee7f0a1ef35eb1def0141060d8", func := "isogloss/isoglosslaw06.TagSame", spec := "tagSame", unfollowed := true, recurses := true, apart := false, narrowed := true }
def TagSameUptoSaid : Prop := tagSameUptoRow.holds Try.pinned (OpenSpec.upto tagSameSpec)

/-- 'isoglosslaw06.TagKinds', WHERE WHAT IT READS IS OF BULK AT MOST 1048576: true; the input reads as it did. -/
def tagKindsUptoRow : OpenClaim := { program := "ytljadeeoaoiilaa", sum := "8f3793aa6ca4289bf559274c9ddf0e0571ae98ee7f0a1ef35eb1def0141060d8", func := "isogloss/isoglosslaw06.TagKinds", spec := "tagKinds", apart := false, narrowed := true }
def TagKindsUptoSaid : Prop := tagKindsUptoRow.holds Try.pinned (OpenSpec.upto tagKindsSpec)

/-- 'isoglosslaw06.TagApart', WHERE WHAT IT READS IS OF BULK AT MOST 1048576: true; the input reads as it did. -/
def tagApartUptoRow : OpenClaim := { program := "ytljadeeoaoiilaa", sum := "8f3793aa6ca4289bf559274c9ddf0e0571ae98ee7f0a1ef35eb1def0141060d8", func := "isogloss/isoglosslaw06.TagApart", spec := "tagApart", apart := false, narrowed := true }
def TagApartUptoSaid : Prop := tagApartUptoRow.holds Try.pinned (OpenSpec.upto tagApartSpec)

/-- 'isoglosslaw06.TagSubtags', WHERE WHAT IT READS IS OF BULK AT MOST 1048576: true; the input reads as it did. -/
def tagSubtagsUptoRow : OpenClaim := { program := "ytljadeeoaoiilaa", sum := "8f3793aa6ca4289bf559274c9ddf0e0571ae98ee7f0a1ef35eb1def0141060d8", func := "isogloss/isoglosslaw06.TagSubtags", spec := "tagSubtags", inPlace := ["internal/bytealg.IndexByteString", "internal/bytealg.IndexString"], unfollowed := true, recurses := true, named := ["internal/bytealg.MaxLen"], apart := false, narrowed := true }
def TagSubtagsUptoSaid : Prop := tagSubtagsUptoRow.holds Try.pinned (OpenSpec.upto tagSubtagsSpec)

end Rows
end Go.Proofs.Ytljadeeoaoiilaa
