/- What the document's Same tells of two rows. Condition: rows are no longer than a whole number. -/
import Derived.Test.YtojglflamecnkaaHandT
import Derived.Test.YtojglflamecnkaaPx22
namespace Go.Proofs.Ytojglflamecnkaa.P
open Go.RowKit Go.Shelf Go.Proofs.YtojglflamecnkaaW.PrintWords
set_option linter.unusedVariables false
set_option linter.unusedSimpArgs false
theorem ev_succ {α : Type} {g : Nat → Option α} {r : α} (h : Ev (fun k => g (k + 1)) r) : Ev g r := by
  obtain ⟨K, hK⟩ := h
  refine ⟨K + 1, fun k hk => ?_⟩
  obtain ⟨m, rfl⟩ : ∃ m, k = m + 1 := ⟨k - 1, by omega⟩
  exact hK m (by omega)
theorem refrow_l0 (xs ys : List ByteArray) (hxy : xs.length = ys.length) (hn : xs.length ≤ 9223372036854775807) : ∀ (d i : Nat), d + i = xs.length → Ev (fun k => r4_Same.l0 k xs ys (i : Int)) (decide (xs.drop i = ys.drop i)) := by
  intro d
  induction d with
  | zero =>
    intro i hi
    refine ev_succ ?_
    simp only [r4_Same.l0, show ¬ ((i : Int) < (xs.length : Int)) from by omega, ↓reduceIte]
    rw [List.drop_eq_nil_of_le (by omega), List.drop_eq_nil_of_le (by omega)]
    exact Ev.now _
  | succ d ih =>
    intro i hi
    have hx : i < xs.length := by omega
    have hy : i < ys.length := by omega
    have ex : rdOf ByteArray.empty xs (i : Int) = xs[i] := by unfold rdOf; rw [Int.toNat_natCast, List.getD_eq_getElem?_getD, List.getElem?_eq_getElem hx]; rfl
    have ey : rdOf ByteArray.empty ys (i : Int) = ys[i] := by unfold rdOf; rw [Int.toNat_natCast, List.getD_eq_getElem?_getD, List.getElem?_eq_getElem hy]; rfl
    have hw : wrap64 ((i : Int) + 1) = ((i + 1 : Nat) : Int) := by unfold wrap64; omega
    refine ev_succ ?_
    simp only [r4_Same.l0, show ((i : Int) < (xs.length : Int)) from by omega, show ((i : Int) < (ys.length : Int)) from by omega, show (0 : Int) ≤ (i : Int) from by omega, ↓reduceIte, ex, ey, hw]
    rw [List.drop_eq_getElem_cons hx, List.drop_eq_getElem_cons hy]
    by_cases c : xs[i] = ys[i]
    · simp only [ba_same.2 c, ↓reduceIte, List.cons.injEq, c, true_and]
      exact ih (i + 1) (by omega)
    · simp only [show ¬ (xs[i].toList = ys[i].toList) from fun h => c (ba_same.1 h), ↓reduceIte, List.cons.injEq, c, false_and, decide_false]
      exact Ev.now _
theorem refrow_ev (xs ys : List ByteArray) (hn : xs.length ≤ 9223372036854775807) : Ev (fun k => r4_Same.f k xs ys) (decide (xs = ys)) := by
  unfold r4_Same.f
  by_cases hl : xs.length = ys.length
  · simp only [show ((xs.length : Int) = (ys.length : Int)) from by omega, ↓reduceIte]
    exact refrow_l0 xs ys hl hn xs.length 0 rfl
  · simp only [show ¬ ((xs.length : Int) = (ys.length : Int)) from by omega, ↓reduceIte]
    rw [decide_eq_false (fun h => hl (by rw [h]))]
    exact Ev.now _
end Go.Proofs.Ytojglflamecnkaa.P
