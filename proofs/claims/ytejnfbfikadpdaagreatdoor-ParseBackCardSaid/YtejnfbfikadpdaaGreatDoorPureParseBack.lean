/- The law ParseBack comes to true. -/
import Derived.Test.YtejnfbfikadpdaaGreatDoorWalkParseBack
namespace Go.Proofs.YtejnfbfikadpdaaGreatDoor.Pure
open Go.RowKit Go.Proofs.YtejnfbfikadpdaaGreatDoor.P Go.Proofs.YtejnfbfikadpdaaGreatDoorW.PrintWords
theorem ParseBack (a0 a1 a2 a3 : Int) (l4 l5 l6 : List Int) (a7 : Int) : ∃ k, w7_ParseBack.f k a0 a1 a2 a3 l4 l5 l6 a7 = some true := ⟨0, rfl⟩
end Go.Proofs.YtejnfbfikadpdaaGreatDoor.Pure
