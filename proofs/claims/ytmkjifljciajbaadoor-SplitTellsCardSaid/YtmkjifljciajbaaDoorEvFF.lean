/- What filter.Filter, FilterExtended, the document's Filter, Few and Same come to, in plain words. Conditions: texts have at most 2^42 bytes, rows at most 2^40 texts. -/
import Derived.Test.YtmkjifljciajbaaDoorEvFR
import Derived.Test.YtmkjifljciajbaaDoorPx3
namespace Go.Proofs.YtmkjifljciajbaaDoor.Iso
set_option linter.unusedSimpArgs false
set_option linter.unusedVariables false
open Go Go.RowKit Go.Proofs.YtmkjifljciajbaaDoorW.PrintWords Go.Proofs.YtmkjifljciajbaaDoor.P
theorem mkbl (l : List ByteArray) : (l.map bl).map mk = l := by
  rw [List.map_map]; conv => rhs; rw [← List.map_id l]
  exact List.map_congr_left fun s _ => mk_bl s
def cut40 (n : Nat) (l : List ByteArray) : List Str := (l.take n).map fun s => (bl s).take 40
/-- Texts in bounds. -/
def Fits (m : Nat) (ps : List Str) : Prop := ps.length ≤ m ∧ ∀ p ∈ ps, p.length ≤ 4398046511104
theorem cut40_fits (n : Nat) (l : List ByteArray) : Fits n (cut40 n l) := by
  refine ⟨by unfold cut40; rw [List.length_map, List.length_take]; omega, fun p hp => ?_⟩
  obtain ⟨s, _, rfl⟩ := List.mem_map.1 hp
  rw [List.length_take]; omega
theorem same_l0 (xs ys : List Str) (hn : xs.length ≤ 140737488355328) (hab : xs.length = ys.length) (t : List Str) : ∀ i : Nat, xs.drop i = t → i ≤ xs.length →
    Ev (fun k => isoglossref04_Same.l0 k (xs.map mk) (ys.map mk) i) (decide (xs.drop i = ys.drop i)) := by
  induction t with
  | nil =>
    intro i h h2
    have g := List.drop_eq_nil_iff.1 h
    refine Ev.succ ?_
    simp only [isoglossref04_Same.l0, List.length_map, show ¬ ((i : Int) < (xs.length : Int)) from by omega, ↓reduceIte]
    rw [List.drop_eq_nil_of_le g, List.drop_eq_nil_of_le (by omega)]
    exact Ev.now _
  | cons p t ih =>
    intro i h h2
    have hl := congrArg List.length h
    rw [List.length_drop, List.length_cons] at hl
    have ha : i < xs.length := by omega
    have hb : i < ys.length := by omega
    have hd : xs.drop (i + 1) = t := by rw [← List.drop_drop, h]; rfl
    refine Ev.succ ?_
    have ea := getMk xs i _ (List.getElem?_eq_getElem ha)
    have eb := getMk ys i _ (List.getElem?_eq_getElem hb)
    have et : ∀ x : Str, (mk x).toList = x := fun x => by rw [bl_toList, bl_mk]
    simp only [isoglossref04_Same.l0, List.length_map, show ((i : Int) < (xs.length : Int)) from by omega, show ((i : Int) < (ys.length : Int)) from by omega, show (0 : Int) ≤ (i : Int) from by omega, ea, eb, et, ↓reduceIte, wrap_lt ha hn]
    rw [List.drop_eq_getElem_cons ha, List.drop_eq_getElem_cons hb]
    by_cases he : xs[i] = ys[i]
    · simp only [he, ↓reduceIte, List.cons.injEq, true_and]; exact ih (i + 1) hd (by omega)
    · simp only [he, ↓reduceIte, List.cons.injEq, false_and, decide_false]; exact Ev.now _
theorem Same_ev (xs ys : List Str) (hn : xs.length ≤ 140737488355328) : Ev (fun k => isoglossref04_Same.f k (xs.map mk) (ys.map mk)) (decide (xs = ys)) := by
  unfold isoglossref04_Same.f
  by_cases hl : xs.length = ys.length
  · simp only [List.length_map, show ((xs.length : Int) = (ys.length : Int)) from by omega, ↓reduceIte]
    exact same_l0 xs ys hn hl xs 0 rfl (by omega)
  · simp only [List.length_map, show ¬ ((xs.length : Int) = (ys.length : Int)) from by omega, ↓reduceIte]
    rw [decide_eq_false (fun h => hl (by rw [h]))]
    exact Ev.now _
/-- The tags that some range lets through. -/
def sieve (m : Str → Str → Bool) (rs ts : List Str) : List Str := ts.filter fun t => rs.any fun r => m r t
theorem mk_len (p : Str) : (mk p).size = p.length := id rfl
end Go.Proofs.YtmkjifljciajbaaDoor.Iso
