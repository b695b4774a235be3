/- What the document's answer of the chapter filter comes to, in plain words. Conditions: texts have at most 2^42 bytes. -/
import Derived.Test.YtoigdaioghmlpaaEvF

namespace Go.Proofs.Ytoigdaioghmlpaa.Iso
set_option linter.unusedSimpArgs false
set_option linter.unusedVariables false
open Go Go.RowKit Go.Proofs.YtoigdaioghmlpaaW.PrintWords Go.Proofs.Ytoigdaioghmlpaa.P
theorem ref_word_ev (p : ByteArray) (b : Bool) (hn : p.size ≤ 140737488355328) : Ev (fun k => isoglossref20_word.f k p b) (word b (bl p)) := by
  unfold isoglossref20_word.f
  refine Ev.bind (ref_Class_ev p hn) ?_
  refine ⟨0, fun _ _ => ?_⟩
  unfold word alpha alnum
  rw [bl_len]
  by_cases h : p.size ≤ 8
  · simp only [h, show ((p.size : Int) ≤ 8) from by omega, ↓reduceIte, decide_true, Bool.true_and]
    by_cases h1 : cls (bl p) = 1
    · simp [h1]
    · by_cases h0 : cls (bl p) = 0
      · simp [h0]
      · simp only [h1, h0, show ¬ ((cls (bl p) : Int) = 1) from by omega, show ((cls (bl p) : Int) > 0) from by omega, ↓reduceIte, decide_false, Bool.false_or]; simp [h0]
  · simp only [h, show ¬ ((p.size : Int) ≤ 8) from by omega, ↓reduceIte, decide_false, Bool.false_and]
theorem ref_basic_l0 (ps : List Str) (hn : ps.length ≤ 140737488355328) (hp : ∀ p ∈ ps, p.length ≤ 140737488355328) (t : List Str) : ∀ (i : Nat), ps.drop i = t → i ≤ ps.length →
    Ev (fun k => isoglossref20_Basic.l0 k (ps.map mk) i) (wsG word (decide (i = 0)) t) := by
  induction t with
  | nil =>
    intro i h h2
    have g := List.drop_eq_nil_iff.1 h
    refine Ev.succ ?_
    simp only [isoglossref20_Basic.l0, List.length_map, show ¬ ((i : Int) < (ps.length : Int)) from by omega, ↓reduceIte]
    exact Ev.now _
  | cons p t ih =>
    intro i h h2
    have hl := congrArg List.length h
    rw [List.length_drop, List.length_cons] at hl
    have hq : ps[i]? = some p := by
      have := congrArg (·[0]?) h
      simpa using this
    have hd : ps.drop (i + 1) = t := by rw [← List.drop_drop, h]; rfl
    have hm : p.length ≤ 140737488355328 := hp p (List.mem_of_getElem? hq)
    refine Ev.succ ?_
    simp only [isoglossref20_Basic.l0, List.length_map, show ((i : Int) < (ps.length : Int)) from by omega, show (0 : Int) ≤ (i : Int) from by omega, getMk ps i p hq, ↓reduceIte, wrap_lt (show i < ps.length from by omega) hn]
    have e : ((i : Int) == 0) = decide (i = 0) := by by_cases h0 : i = 0 <;> simp [h0]
    rw [e]
    refine Ev.bind (ref_word_ev (mk p) _ hm) ?_
    rw [bl_mk]
    unfold wsG
    cases word (decide (i = 0)) p
    · exact Ev.now _
    · have := ih (i + 1) hd (by omega)
      rw [decide_eq_false (show ¬ (i + 1 = 0) from by omega)] at this
      simpa using this
theorem ref_Basic_ev (s : ByteArray) (hn : s.size ≤ 4398046511104) : Ev (fun k => isoglossref20_Basic.f k s) (basic (bl s)) := by
  unfold isoglossref20_Basic.f basic
  simp only [toList_star]
  by_cases h : bl s = star
  · simp only [h, ↓reduceIte, decide_true, Bool.true_or]; exact Ev.now _
  · simp only [h, ↓reduceIte, decide_false, Bool.false_or]
    obtain ⟨h1, h2⟩ := split_small hn
    refine Ev.bind (ref_Split_ev s hn) ?_
    exact ref_basic_l0 _ h1 h2 _ 0 rfl (by omega)
theorem mk_low_toList (s : ByteArray) : (mk (low (bl s))).toList = low (bl s) := by rw [bl_toList, bl_mk]
end Go.Proofs.Ytoigdaioghmlpaa.Iso
