/- The law FaultNil, in plain words. No condition. -/
import Derived.Test.YtlngefnimnjkkaaDoorWalkFaultNil
import Derived.OpenShut
namespace Go.Proofs.YtlngefnimnjkkaaDoor.Pure
open Go Go.RowKit Go.Proofs.YtlngefnimnjkkaaDoor.P Go.Proofs.YtlngefnimnjkkaaDoorW.PrintWords
set_option linter.unusedVariables false
theorem FaultNil (a0 : Int) (a1 : ByteArray) (w : (Lit.int .i64 a0).wf = true) (_ : a1.size ≤ 140737488351232) : ∃ k, isoglosslaw01_FaultNil.f k a0 a1 = some true := by
  have hb := bounds_i64 w
  obtain ⟨K, hK⟩ := Digits_ev a0 hb.1 hb.2
  refine ⟨K, ?_⟩
  unfold isoglosslaw01_FaultNil.f
  have hk : isoglossref01_Digits.f K a0 = some (mkB (Lib.itoa a0)) := hK K (Nat.le_refl _)
  rw [hk]
  show (if -9223372036854775808 ≤ a0 ∧ a0 ≤ 9223372036854775807 ∧ _ = _ then some true else none) = some true
  rw [if_pos ⟨hb.1, hb.2, rfl⟩]
end Go.Proofs.YtlngefnimnjkkaaDoor.Pure
