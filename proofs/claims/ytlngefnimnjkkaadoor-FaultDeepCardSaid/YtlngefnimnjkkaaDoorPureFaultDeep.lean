/- The law FaultDeep, in plain words. No condition. -/
import Derived.Test.YtlngefnimnjkkaaDoorWalkFaultDeep
namespace Go.Proofs.YtlngefnimnjkkaaDoor.Pure
open Go Go.RowKit Go.Proofs.YtlngefnimnjkkaaDoor.P Go.Proofs.YtlngefnimnjkkaaDoorW.PrintWords
set_option linter.unusedVariables false
theorem row_nil (a : Int) (ha : ¬ a = 0) : isoglosslaw01_row.j0 3 [] a = some ([], a) := by
  unfold isoglosslaw01_row.j0 isoglosslaw01_row.l0
  simp only [List.length_nil]
  unfold isoglosslaw01_row.j2
  rfl
theorem FaultDeep (a0 a1 a2 : Int) (_ : (Lit.int .i64 a0).wf = true) (_ : (Lit.int .i64 a1).wf = true) (_ : (Lit.int .i64 a2).wf = true) : ∃ k, isoglosslaw01_FaultDeep.f k a0 a1 a2 = some true := by
  refine ⟨3, ?_⟩
  unfold isoglosslaw01_FaultDeep.f isoglosslaw01_row.f
  by_cases h : a0 = 0
  · rw [if_pos h, row_nil 12 (by decide)]; rfl
  · rw [if_neg h, row_nil a0 h]
    show (if a0 = 0 then none else some true) = some true
    rw [if_neg h]
end Go.Proofs.YtlngefnimnjkkaaDoor.Pure
