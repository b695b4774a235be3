/- The law ParseGrows comes to true. -/
import Derived.Test.YtejnfbfikadpdaaGreatDoorWalkParseGrows
namespace Go.Proofs.YtejnfbfikadpdaaGreatDoor.Pure
open Go Go.RowKit Go.Proofs.YtejnfbfikadpdaaGreatDoor.P Go.Proofs.YtejnfbfikadpdaaGreatDoorW.PrintWords
theorem ParseGrows (a0 a1 a2 a3 : Int) (l4 l5 l6 : List Int) (a7 how : Int) (_ : (Lit.int .i64 how).wf = true) : ∃ k, w7_ParseGrows.f k a0 a1 a2 a3 l4 l5 l6 a7 how = some true := ⟨0, rfl⟩
end Go.Proofs.YtejnfbfikadpdaaGreatDoor.Pure
