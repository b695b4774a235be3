/- The law SplitStops, in plain words. No condition. -/
import Derived.Test.YtmkjifljciajbaaDoorEvS
import Derived.Test.YtmkjifljciajbaaDoorWalkSplitStops
namespace Go.Proofs.YtmkjifljciajbaaDoor.Iso
set_option linter.unusedSimpArgs false
set_option linter.unusedVariables false
open Go Go.RowKit Go.Proofs.YtmkjifljciajbaaDoorW.PrintWords Go.Proofs.YtmkjifljciajbaaDoor.P
theorem law04_rest_eq (x : Int) (n : Nat) (h0 : 0 < n) (hn : n ≤ 4398046511104) : ∃ m : Nat, m < n ∧ isoglosslaw04_rest.f x (n : Int) = some (m : Int) := by
  have hp : (0 : Int) < (n : Int) := by omega
  have hne : ¬ ((n : Int) = 0) := by omega
  have h1 : Int.tmod x (n : Int) < (n : Int) := Int.tmod_lt_of_pos x hp
  have h2 : -(n : Int) < Int.tmod x (n : Int) := by
    have := Int.tmod_lt_of_pos (-x) hp
    rw [Int.neg_tmod] at this; omega
  have hw : wrap64 (Int.tmod x (n : Int) + (n : Int)) = Int.tmod x (n : Int) + (n : Int) := by unfold wrap64; omega
  unfold isoglosslaw04_rest.f
  rw [if_neg hne, hw]
  have h3 : 0 ≤ Int.tmod (Int.tmod x (n : Int) + (n : Int)) (n : Int) := Int.tmod_nonneg _ (by omega)
  have h4 : Int.tmod (Int.tmod x (n : Int) + (n : Int)) (n : Int) < (n : Int) := Int.tmod_lt_of_pos _ hp
  exact ⟨(Int.tmod (Int.tmod x (n : Int) + (n : Int)) (n : Int)).toNat, by omega, by congr 1; omega⟩
theorem eachB_snd (s : ByteArray) : (eachB s).map (·.2) = (split (bl s)).map mk := by
  unfold eachB split
  rw [List.map_map, List.map_map]; rfl
theorem SplitStops_plain (a : ByteArray) (n : Int) : Ev (fun k => isoglosslaw04_SplitStops.f k a n) true := by
  unfold isoglosslaw04_SplitStops.f
  refine Ev.bind law04_awake_ev ?_
  simp only [law04_short_eq, Option.bind_some]
  have ha := take60 (bl a)
  generalize (bl a).take 60 = A at *
  have hA := split_length A
  have hne := split_ne A
  have hp : 0 < (split A).length := List.length_pos_iff.2 hne
  obtain ⟨m, hm, hr⟩ := law04_rest_eq n 12 (by decide) (by decide)
  have hr' : isoglosslaw04_rest.f n 12 = some (m : Int) := hr
  simp only [split_mk A (by omega), hr', Option.bind_some]
  have hc : (True ∧ (mk A).size ≤ 140737488355328 ∧ (split A).map mk = (eachB (mk A)).map (·.2) ∧ 1 ≤ ((split A).map mk).length ∧ ((split A).map mk).length ≤ 1000 ∧ 0 ≤ (m : Int) ∧ (m : Int) < 12) := by
    refine ⟨trivial, by rw [mk_size]; omega, by rw [eachB_snd, bl_mk], by rw [List.length_map]; omega, by rw [List.length_map]; omega, by omega, by omega⟩
  rw [if_pos hc]
  exact Ev.now _
end Go.Proofs.YtmkjifljciajbaaDoor.Iso
namespace Go.Proofs.YtmkjifljciajbaaDoor.Pure
open Go.RowKit Go.Proofs.YtmkjifljciajbaaDoor.P Go.Proofs.YtmkjifljciajbaaDoorW.PrintWords
theorem SplitStops (a : ByteArray) (n : Int) (_ : a.size ≤ 140737488351232) (_ : (Lit.int .i64 n).wf = true) : ∃ k, isoglosslaw04_SplitStops.f k a n = some true := (Iso.SplitStops_plain a n).rounds
end Go.Proofs.YtmkjifljciajbaaDoor.Pure
