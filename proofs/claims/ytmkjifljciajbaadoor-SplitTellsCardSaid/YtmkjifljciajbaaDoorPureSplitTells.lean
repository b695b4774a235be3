/- The law SplitTells, in plain words. No condition. -/
import Derived.Test.YtmkjifljciajbaaDoorEvS
import Derived.Test.YtmkjifljciajbaaDoorWalkSplitTells
namespace Go.Proofs.YtmkjifljciajbaaDoor.Iso
set_option linter.unusedSimpArgs false
set_option linter.unusedVariables false
open Go Go.RowKit Go.Proofs.YtmkjifljciajbaaDoorW.PrintWords Go.Proofs.YtmkjifljciajbaaDoor.P
/-- What the document's Check tells of a row of pieces. -/
def chk : List S37 → Int × Int
  | [] => (0, -1)
  | p :: t => if isSub (bl p.f1) = true then chk t else (10, p.f0)
theorem ref_check_l0 (P : List S37) (hn : P.length ≤ 4398046511105) (hs : ∀ p ∈ P, p.f1.size ≤ 140737488355328) (t : List S37) : ∀ i : Nat, P.drop i = t → i ≤ P.length → Ev (fun k => isoglossref04_Check.l0 k P i) (chk t) := by
  induction t with
  | nil =>
    intro i h h2
    have g := List.drop_eq_nil_iff.1 h
    refine Ev.succ ?_
    simp only [isoglossref04_Check.l0, show ¬ ((i : Int) < (P.length : Int)) from by omega, ↓reduceIte]
    exact Ev.now _
  | cons p t ih =>
    intro i h h2
    have hl := congrArg List.length h
    rw [List.length_drop, List.length_cons] at hl
    have hp : P[i]? = some p := by
      have := congrArg (·[0]?) h
      simpa using this
    have hg : rd_T37 P (i : Int) = p := by
      unfold rd_T37
      rw [Int.toNat_natCast, List.getD_eq_getElem?_getD, hp]; rfl
    have hd : P.drop (i + 1) = t := by
      rw [← List.drop_drop, h]; rfl
    refine Ev.succ ?_
    simp only [isoglossref04_Check.l0, show ((i : Int) < (P.length : Int)) from by omega, show (0 : Int) ≤ (i : Int) from by omega, hg, wrap_lt (show i < P.length from by omega) (by omega), ↓reduceIte]
    refine Ev.bind (ref_Sub_ev p.f1 (hs p (List.mem_of_getElem? hp))) ?_
    unfold chk
    by_cases c : isSub (bl p.f1) = true
    · simp only [c, ↓reduceIte]
      exact ih (i + 1) hd (by omega)
    · simp only [c, ↓reduceIte, Bool.false_eq_true]
      exact Ev.now _
theorem chk_find : ∀ L : List (Nat × Str), chk (L.map fun p => (⟨(p.1 : Int), mk p.2⟩ : S37)) = (kindOf (((L.map fun p => (p.1, mk p.2)).find? fun x => !isSub (bl x.2)).map (·.1)), placeR (((L.map fun p => (p.1, mk p.2)).find? fun x => !isSub (bl x.2)).map (·.1)))
  | [] => rfl
  | p :: t => by
    rw [List.map_cons, List.map_cons, List.find?_cons]
    unfold chk
    cases c : isSub (bl (mk p.2)) with
    | true =>
      simp only [c, ↓reduceIte, Bool.not_true]
      exact chk_find t
    | false =>
      simp only [c, ↓reduceIte, Bool.not_false, Bool.false_eq_true]
      rfl
theorem ref_Check_ev (s : ByteArray) (hn : s.size ≤ 1000000) : Ev (fun k => isoglossref04_Check.f k s) (kindOf (((eachB s).find? fun x => !isSub (bl x.2)).map (·.1)), placeR (((eachB s).find? fun x => !isSub (bl x.2)).map (·.1))) := by
  unfold isoglossref04_Check.f
  refine Ev.bind (ref_Each_ev s (by omega)) ?_
  have hl := eachGo_length (bl s) 0 []
  rw [bl_len] at hl
  have hle : (each (bl s)).length ≤ s.size + 1 := hl
  refine Ev.val (ref_check_l0 _ (by rw [List.length_map]; omega) (fun p hp => ?_) _ 0 rfl (by omega)) (chk_find _)
  obtain ⟨q, hq, rfl⟩ := List.mem_map.1 hp
  have h1 : (q.1, mk q.2) ∈ eachB s := List.mem_map.2 ⟨q, hq, rfl⟩
  have h2 : (mk q.2).size ≤ s.size := eachB_small h1
  show (mk q.2).size ≤ _
  omega
theorem SplitTells_plain (a : ByteArray) : Ev (fun k => isoglosslaw04_SplitTells.f k a) true := by
  unfold isoglosslaw04_SplitTells.f
  refine Ev.bind law04_awake_ev ?_
  simp only [law04_short_eq, Option.bind_some]
  have ha := take60 (bl a)
  generalize (bl a).take 60 = A at *
  have hA := split_length A
  have hsz : (mk A).size ≤ 60 := ha
  refine Ev.bind (ref_Each_ev (mk A) (by omega)) ?_
  simp only [split_mk A (by omega), Option.bind_some]
  refine Ev.bind (ref_Split_ev (mk A) (by omega)) ?_
  rw [bl_mk]
  refine Ev.bind (Same_ev (split A) (split A) (by omega)) ?_
  refine Ev.bind (Check_ev (mk A) (by omega)) ?_
  refine Ev.bind (ref_Check_ev (mk A) (by omega)) ?_
  refine Ev.bind (Trim_ev A (by omega)) ?_
  refine Ev.bind (ref_Trim_ev A (by omega)) ?_
  have hE : (eachB (mk A)).length ≤ 1000 := by
    have hl := eachGo_length (bl (mk A)) 0 []
    rw [bl_len] at hl
    have hle : (each (bl (mk A))).length ≤ (mk A).size + 1 := hl
    unfold eachB
    rw [List.length_map]; omega
  have hm : ((each A).map fun p => (⟨(p.1 : Int), mk p.2⟩ : S37)).map (fun x => (x.f0, x.f1)) = (eachB (mk A)).map (fun x => ((x.1 : Int), x.2)) := by
    unfold eachB
    rw [bl_mk, List.map_map, List.map_map]; rfl
  rw [if_pos ⟨trivial, by omega, hm, hE, decide_eq_true rfl, rfl, rfl⟩]
  exact Ev.now _
end Go.Proofs.YtmkjifljciajbaaDoor.Iso
namespace Go.Proofs.YtmkjifljciajbaaDoor.Pure
open Go.RowKit Go.Proofs.YtmkjifljciajbaaDoor.P Go.Proofs.YtmkjifljciajbaaDoorW.PrintWords
theorem SplitTells (a : ByteArray) (_ : a.size ≤ 140737488351232) : ∃ k, isoglosslaw04_SplitTells.f k a = some true := (Iso.SplitTells_plain a).rounds
end Go.Proofs.YtmkjifljciajbaaDoor.Pure
