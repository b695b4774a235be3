/- The law TagRight comes to true. -/
import Derived.Test.YtljadeeoaoiilaaGreatDoorWalkTagRight
namespace Go.Proofs.YtljadeeoaoiilaaGreatDoor.Pure
open Go.RowKit Go.Proofs.YtljadeeoaoiilaaGreatDoor.P Go.Proofs.YtljadeeoaoiilaaGreatDoorW.PrintWords
theorem TagRight (x0 : ByteArray) (x1 : List ByteArray) (x2 x3 : ByteArray) (x4 : List ByteArray) (x5 : List S40) (x6 : List ByteArray) (x7 : ByteArray) (a0 a1 a2 a3 : Int) (l4 l5 l6 : List Int) (a7 : Int) : ∃ k, isoglosslaw06_TagRight.f k x0 x1 x2 x3 x4 x5 x6 x7 a0 a1 a2 a3 l4 l5 l6 a7 = some true := ⟨0, rfl⟩
end Go.Proofs.YtljadeeoaoiilaaGreatDoor.Pure
