/- The law FaultHas, in plain words. No condition. -/
import Derived.Test.YtlngefnimnjkkaaDoorWalkFaultHas
namespace Go.Proofs.YtlngefnimnjkkaaDoor.Pure
open Go Go.RowKit Go.Proofs.YtlngefnimnjkkaaDoor.P Go.Proofs.YtlngefnimnjkkaaDoorW.PrintWords
set_option linter.unusedVariables false
theorem row_any (xs : List S43) (kd : Int) : ∀ (d i : Nat) (acc : List S43), d + i = 9 → acc.length = i → ∃ k r, isoglosslaw01_row.l0 k xs (i : Int) acc kd = some (r, kd) ∧ r.length ≤ 9 := by
  intro d
  induction d with
  | zero =>
    intro i acc hd ha
    refine ⟨2, acc, ?_, by omega⟩
    unfold isoglosslaw01_row.l0
    by_cases c : (i : Int) < (xs.length : Int)
    · rw [if_pos c]
      have c9 : ¬ ((i : Int) < 9) := by omega
      unfold isoglosslaw01_row.j2
      rw [decide_eq_false c9]; rfl
    · rw [if_neg c]; rfl
  | succ d ih =>
    intro i acc hd ha
    by_cases c : (i : Int) < (xs.length : Int)
    · have c9 : (i : Int) < 9 := by omega
      have hw : wrap64 ((i : Int) + 1) = ((i + 1 : Nat) : Int) := by unfold wrap64; omega
      by_cases hs : (((rd_T43 xs (i : Int)).f1).size : Int) > 12
      · obtain ⟨k, r, h1, h2⟩ := ih (i + 1) (acc ++ [(⟨(rd_T43 xs (i : Int)).f0, ((rd_T43 xs (i : Int)).f1).extract 0 12⟩ : S43)]) (by omega) (by rw [List.length_append, ha]; rfl)
        refine ⟨k + 2, r, ?_, h2⟩
        unfold isoglosslaw01_row.l0
        rw [if_pos c]
        unfold isoglosslaw01_row.j2
        rw [if_pos (decide_eq_true c9), if_pos (by omega), if_pos c, if_pos hs, if_pos (by omega), if_pos (by omega), if_pos (by omega), hw]
        exact h1
      · obtain ⟨k, r, h1, h2⟩ := ih (i + 1) (acc ++ [(⟨(rd_T43 xs (i : Int)).f0, (rd_T43 xs (i : Int)).f1⟩ : S43)]) (by omega) (by rw [List.length_append, ha]; rfl)
        refine ⟨k + 2, r, ?_, h2⟩
        unfold isoglosslaw01_row.l0
        rw [if_pos c]
        unfold isoglosslaw01_row.j2
        rw [if_pos (decide_eq_true c9), if_pos (by omega), if_pos c, if_neg hs, if_pos (by omega), hw]
        exact h1
    · refine ⟨2, acc, ?_, by omega⟩
      unfold isoglosslaw01_row.l0
      rw [if_neg c]; rfl
theorem row_kind (l : List S43) (a : Int) : ∃ k r kd, isoglosslaw01_row.f k l a = some (r, kd) ∧ ¬ kd = 0 ∧ r.length ≤ 9 := by
  by_cases h : a = 0
  · obtain ⟨k, r, h1, h2⟩ := row_any l 12 9 0 [] rfl rfl
    refine ⟨k + 1, r, 12, ?_, by decide, h2⟩
    unfold isoglosslaw01_row.f
    rw [if_pos h]; exact h1
  · obtain ⟨k, r, h1, h2⟩ := row_any l a 9 0 [] rfl rfl
    refine ⟨k + 1, r, a, ?_, h, h2⟩
    unfold isoglosslaw01_row.f
    rw [if_neg h]; exact h1
theorem FaultHas (l : List S43) (a1 a2 : Int) (_ : (Lit.int .i64 a1).wf = true) (_ : (Lit.int .i64 a2).wf = true) : ∃ k, isoglosslaw01_FaultHas.f k l a1 a2 = some true := by
  obtain ⟨k, r, kd, h1, h2, h3⟩ := row_kind l a1
  refine ⟨k, ?_⟩
  unfold isoglosslaw01_FaultHas.f
  rw [h1]
  show (if kd = 0 ∨ 9 < r.length then none else some true) = some true
  rw [if_neg]
  rintro (c | c)
  · exact h2 c
  · omega
end Go.Proofs.YtlngefnimnjkkaaDoor.Pure
