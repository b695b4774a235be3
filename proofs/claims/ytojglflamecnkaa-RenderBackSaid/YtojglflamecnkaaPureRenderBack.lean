/- The law RenderBack comes to true. -/
import Derived.Test.YtojglflamecnkaaWalkRenderBack
namespace Go.Proofs.Ytojglflamecnkaa.Pure
open Go.RowKit Go.Proofs.Ytojglflamecnkaa.P Go.Proofs.YtojglflamecnkaaW.PrintWords
theorem RenderBack (a0 a1 a2 a3 : Int) (l4 l5 l6 : List Int) (a7 : Int) : ∃ k, isoglosslaw08_RenderBack.f k a0 a1 a2 a3 l4 l5 l6 a7 = some true := ⟨0, rfl⟩
end Go.Proofs.Ytojglflamecnkaa.Pure
