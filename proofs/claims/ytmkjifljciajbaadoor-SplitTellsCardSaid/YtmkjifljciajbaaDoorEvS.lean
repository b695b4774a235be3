/- What the functions of the chapter split come to, in plain words. -/
import Derived.Test.YtmkjifljciajbaaDoorEvL
import Derived.Test.YtmkjifljciajbaaDoorPx1
import Derived.Test.YtmkjifljciajbaaDoorPx5
namespace Go.Proofs.YtmkjifljciajbaaDoor.Iso
set_option linter.unusedSimpArgs false
set_option linter.unusedVariables false
open Go Go.RowKit Go.Proofs.YtmkjifljciajbaaDoorW.PrintWords Go.Proofs.YtmkjifljciajbaaDoor.P
theorem law04_short_eq (s : ByteArray) : isoglosslaw04_short.f s = some (mk ((bl s).take 60)) := by
  unfold isoglosslaw04_short.f
  by_cases h : (s.size : Int) > 60
  · rw [if_pos h, if_pos (by omega), if_pos (by omega)]
    congr 1; apply bl_inj; rw [bl_extract, bl_mk]; simp
  · rw [if_neg h]
    congr 1; apply bl_inj; rw [bl_mk, List.take_of_length_le (by rw [bl_len]; omega)]
theorem check_go_ev : ∀ (L : List (Nat × ByteArray)), (∀ x ∈ L, x.2.size ≤ 140737488355328) → Ev (fun k => split_CheckAt.go k L) ((L.find? fun x => !isSub (bl x.2)).map (·.1))
  | [], _ => Ev.now _
  | x :: t, h => by
    simp only [split_CheckAt.go]
    refine Ev.bind (check_go_ev t fun y hy => h y (List.mem_cons_of_mem _ hy)) ?_
    rw [List.find?_cons]
    unfold isSub
    rw [bl_len]
    by_cases c : x.2.size > 8
    · simp only [c, ↓reduceIte, show ¬ (x.2.size ≤ 8) from by omega, decide_false, Bool.and_false, Bool.not_false, Option.map_some]
      exact Ev.now _
    · simp only [c, ↓reduceIte, show x.2.size ≤ 8 from by omega, decide_true, Bool.and_true]
      refine Ev.bind (ascii_Alnum_ev x.2 (h x List.mem_cons_self)) ?_
      cases alnum (bl x.2)
      · exact Ev.now _
      · exact Ev.now _
theorem eachB_small {s : ByteArray} {x : Nat × ByteArray} (h : x ∈ eachB s) : x.2.size ≤ s.size := by
  unfold eachB at h
  obtain ⟨y, hy, rfl⟩ := List.mem_map.1 h
  have h1 : y.2 ∈ split (bl s) := List.mem_map.2 ⟨y, hy, rfl⟩
  have h2 := (mem_join h1).1
  rw [join_split, bl_len] at h2
  exact h2
theorem Check_ev (s : ByteArray) (hn : s.size ≤ 140737488355328) : Ev (fun k => split_CheckAt.f k s) (((eachB s).find? fun x => !isSub (bl x.2)).map (·.1)) := by
  unfold split_CheckAt.f
  simp only [hn, ↓reduceIte]
  exact check_go_ev _ fun x hx => by have := eachB_small hx; omega
theorem law04_awake_ev : Ev (fun k => isoglosslaw04_awake.f k) true := by
  unfold isoglosslaw04_awake.f
  refine Ev.bind (Check_ev _ (by decide)) ?_
  have h2 := Trim_ev [122, 104, 45, 72, 97, 110, 116, 45, 67, 78, 45, 120, 45, 112, 114, 105, 118, 97, 116, 101, 49] (by decide)
  refine Ev.bind h2 ?_
  rw [if_pos ⟨by decide +kernel, by rw [show trim [122, 104, 45, 72, 97, 110, 116, 45, 67, 78, 45, 120, 45, 112, 114, 105, 118, 97, 116, 101, 49] = [122, 104, 45, 72, 97, 110, 116, 45, 67, 78] from by decide +kernel]; rfl⟩]
  exact Ev.now _
theorem libJoin : ∀ (ps : List Str), Lib.join ps [45] = joinL ps
  | [] => rfl
  | [p] => by rw [Lib.join_one]; simp [joinL, tailJ]
  | p :: q :: t => by
    have ih := libJoin (q :: t)
    unfold Lib.join at ih ⊢
    rw [List.intercalate_cons_cons, ih]
    simp [joinL, tailJ]
theorem small_join (ps : List Str) (h : (joinL ps).length ≤ 4398046511104) (hl : ps.length ≤ 4398046511105) : split_Join.f (ps.map mk) = some (mk (joinL ps)) := by
  have e : (ps.map mk).map (fun x => x.data.toList) = ps := by
    rw [List.map_map]
    conv => rhs; rw [← List.map_id ps]
    exact List.map_congr_left fun p _ => bl_mk p
  have e2 : (⟨#[45]⟩ : ByteArray).data.toList = [45] := rfl
  unfold split_Join.f strings_Join.f
  rw [e, e2, libJoin, if_pos ⟨by rw [List.length_map]; omega, by omega⟩]
  rfl
theorem mk_toList (l : Str) : (mk l).toList = l := by rw [bl_toList, bl_mk]
theorem take60 (s : Str) : (s.take 60).length ≤ 60 := List.length_take_le _ _
theorem split_mk (s : Str) (h : s.length < 8796093022207) : split_Split.f (mk s) = some ((split s).map mk) := by
  have := split_Split_eq (mk s) (by rw [mk_size]; exact h)
  rwa [bl_mk] at this
end Go.Proofs.YtmkjifljciajbaaDoor.Iso
