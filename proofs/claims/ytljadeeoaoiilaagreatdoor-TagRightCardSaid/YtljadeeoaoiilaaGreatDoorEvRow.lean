/- What the document's Same tells of two rows. Condition: rows are no longer than a whole number. -/
import Derived.Test.YtljadeeoaoiilaaGreatDoorHandT
namespace Go.Proofs.YtljadeeoaoiilaaGreatDoor.P
open Go.RowKit Go.Shelf Go.Proofs.YtljadeeoaoiilaaGreatDoorW.PrintWords
set_option linter.unusedVariables false
set_option linter.unusedSimpArgs false
theorem ev_succ {α : Type} {g : Nat → Option α} {r : α} (h : Ev (fun k => g (k + 1)) r) : Ev g r := by
  obtain ⟨K, hK⟩ := h
  refine ⟨K + 1, fun k hk => ?_⟩
  obtain ⟨m, rfl⟩ : ∃ m, k = m + 1 := ⟨k - 1, by omega⟩
  exact hK m (by omega)
end Go.Proofs.YtljadeeoaoiilaaGreatDoor.P
