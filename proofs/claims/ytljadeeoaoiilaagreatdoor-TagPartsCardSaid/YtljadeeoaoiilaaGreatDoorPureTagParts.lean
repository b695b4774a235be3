/- The law TagParts comes to true. -/
import Derived.Test.YtljadeeoaoiilaaGreatDoorWalkTagParts
namespace Go.Proofs.YtljadeeoaoiilaaGreatDoor.Pure
open Go.RowKit Go.Proofs.YtljadeeoaoiilaaGreatDoor.P Go.Proofs.YtljadeeoaoiilaaGreatDoorW.PrintWords
theorem TagParts (a0 a1 a2 a3 : Int) (l4 l5 l6 : List Int) (a7 n : Int) {u : Prop} (_ : u) : ∃ k, isoglosslaw06_TagParts.f k a0 a1 a2 a3 l4 l5 l6 a7 n = some true := ⟨0, rfl⟩
end Go.Proofs.YtljadeeoaoiilaaGreatDoor.Pure
