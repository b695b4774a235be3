/- The law ParseRight comes to true. -/
import Derived.Test.YtejnfbfikadpdaaGreatDoorWalkParseRight
namespace Go.Proofs.YtejnfbfikadpdaaGreatDoor.Pure
open Go.RowKit Go.Proofs.YtejnfbfikadpdaaGreatDoor.P Go.Proofs.YtejnfbfikadpdaaGreatDoorW.PrintWords
theorem ParseRight (s0 : ByteArray) (a0 a1 a2 a3 : Int) (l4 l5 l6 : List Int) (a7 q0 q1 q2 : Int) (_ : s0.size ≤ 140737488351232) : ∃ k, w7_ParseRight.f k s0 a0 a1 a2 a3 l4 l5 l6 a7 q0 q1 q2 = some true := ⟨0, rfl⟩
end Go.Proofs.YtejnfbfikadpdaaGreatDoor.Pure
