/- The law FilterTells, in plain words, for every input. Condition: as every argument, texts have at most 2^47 - 4096 bytes. -/
import Derived.Test.YtanahbcdilcmoaaEvFR
import Derived.Test.YtanahbcdilcmoaaPx5
namespace Go.Proofs.Ytanahbcdilcmoaa.Iso
open Go Go.RowKit Go.Proofs.YtanahbcdilcmoaaW.PrintWords Go.Proofs.Ytanahbcdilcmoaa.P
theorem FilterTells_pure (a b : ByteArray) : Ev (fun k => isoglosslaw20_FilterTells.f k a b) true := by
  unfold isoglosslaw20_FilterTells.f
  refine Ev.bind law20_awake_ev ?_
  simp only [law20_short_eq, Option.bind_some, ↓reduceIte]
  have ha := take40 (bl a); have hb := take40 (bl b)
  generalize mk ((bl a).take 40) = s at *
  generalize mk ((bl b).take 40) = t at *
  have h1 : (⟨#[42, 45]⟩ : ByteArray).size = 2 := rfl
  have h2 : (⟨#[45, 42]⟩ : ByteArray).size = 2 := rfl
  have h3 : (⟨#[42]⟩ : ByteArray).size = 1 := rfl
  refine Ev.bind (law20_tells_ev s t (by omega) (by omega)) ?_
  refine Ev.bind (law20_tells_ev t s (by omega) (by omega)) ?_
  refine Ev.bind (law20_tells_ev s s (by omega) (by omega)) ?_
  refine Ev.bind (law20_tells_ev _ t (by omega) (by omega)) ?_
  simp only [show 2 + s.size ≤ 9223372036854775807 from by omega, show s.size + 2 ≤ 9223372036854775807 from by omega, ↓reduceIte]
  refine Ev.bind (law20_tells_ev _ t (by rw [size_app]; omega) (by omega)) ?_
  exact Ev.bind (law20_tells_ev _ t (by rw [size_app]; omega) (by omega)) (Ev.now _)

end Go.Proofs.Ytanahbcdilcmoaa.Iso
namespace Go.Proofs.Ytanahbcdilcmoaa.Pure
open Go.RowKit Go.Proofs.Ytanahbcdilcmoaa.P Go.Proofs.YtanahbcdilcmoaaW.PrintWords
theorem FilterTells : isoglosslaw20_FilterTells.Pure := fun s t _ _ => (Iso.FilterTells_pure s t).rounds
end Go.Proofs.Ytanahbcdilcmoaa.Pure
