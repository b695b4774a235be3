/- The law SplitTrims, in plain words: each time a text is trimmed it is a beginning of what it was, up to a dash, until nothing is left. No condition. -/
import Derived.Test.YtmkjifljciajbaaDoorEvS
import Derived.Test.YtmkjifljciajbaaDoorPx2
namespace Go.Proofs.YtmkjifljciajbaaDoor.Iso
set_option linter.unusedSimpArgs false
set_option linter.unusedVariables false
open Go Go.RowKit Go.Proofs.YtmkjifljciajbaaDoorW.PrintWords Go.Proofs.YtmkjifljciajbaaDoor.P
theorem trimP_last (ps : List Str) (h : 1 < (trimP ps).length) (p : Str) (hp : (trimP ps)[(trimP ps).length - 1]? = some p) : p.length ≠ 1 := by
  unfold trimP at h hp
  rw [List.length_reverse] at h hp
  have hne : ps.reverse.tail ≠ [] := by
    intro e
    rw [e] at h
    simp [dropR] at h
  have hg := dropR_good ps.reverse.tail hne
  cases hd : dropR ps.reverse.tail with
  | nil => rw [hd] at h; simp at h
  | cons a l =>
    cases l with
    | nil => rw [hd] at h; simp at h
    | cons b l =>
      rw [hd] at hg hp
      rw [List.getElem?_reverse (by simp)] at hp
      simp at hp
      subst hp
      exact hg
theorem trim_left (s : Str) (h : trim s ≠ []) : trimP (split s) ≠ [] := fun e => h (by unfold trim; rw [e]; rfl)
theorem law_trims_l0 : ∀ (m : Nat) (s : Str) (n : Nat), s.length ≤ m → m ≤ 60 → (s ≠ [] → (split s).length ≤ n) → n ≤ 61 → Ev (fun k => isoglosslaw04_SplitTrims.l0 k (mk s) true (n : Int)) true
  | m, s, n, hm, h60, hn, h61 => by
    by_cases hs : s = []
    · subst hs
      refine Ev.succ ?_
      simp only [isoglosslaw04_SplitTrims.l0, bl_toList, bl_mk, ↓reduceIte]
      refine Ev.succ ?_
      simp only [isoglosslaw04_SplitTrims.j1, bl_toList, bl_mk, ↓reduceIte, Bool.false_eq_true]
      exact Ev.now _
    · have hp := split_ne s
      have hpl : 0 < (split s).length := List.length_pos_iff.2 hp
      have hn' := hn hs
      have ht := trim_lt s hs
      refine Ev.succ ?_
      simp only [isoglosslaw04_SplitTrims.l0, bl_toList, bl_mk, hs, ↓reduceIte, show decide ((n : Int) > 0) = true from decide_eq_true (by omega)]
      refine Ev.succ ?_
      simp only [isoglosslaw04_SplitTrims.j1, ↓reduceIte]
      refine Ev.bind (Trim_ev s (by omega)) ?_
      have hex : ((mk s).extract 0 (mk (trim s)).size).toList = (mk (trim s)).toList := by
        rw [bl_toList, bl_toList, bl_extract, bl_mk, bl_mk, mk_size, List.drop_zero, Nat.sub_zero]
        rcases trim_spec s with e | ⟨t, e⟩
        · rw [e]; rfl
        · have h2 := List.take_left (l₁ := trim s) (l₂ := 45 :: t)
          rwa [← e] at h2
      have hlt : ¬ ((mk (trim s)).size : Int) ≥ ((mk s).size : Int) := by rw [mk_size, mk_size]; omega
      have h0 : (0 : Int) ≤ ((mk (trim s)).size : Int) := by omega
      have h1 : ((mk (trim s)).size : Int) ≤ ((mk s).size : Int) := by rw [mk_size, mk_size]; omega
      have h2 : ((mk (trim s)).size : Int) < ((mk s).size : Int) := by rw [mk_size, mk_size]; omega
      simp only [hlt, h0, h1, h2, hex, ↓reduceIte]
      have step : Ev (fun k => isoglosslaw04_SplitTrims.j2 k true (n : Int) (mk (trim s)) false) true := by
        refine Ev.succ ?_
        have hw : wrap64 ((n : Int) - 1) = ((n - 1 : Nat) : Int) := by unfold wrap64; omega
        simp only [isoglosslaw04_SplitTrims.j2, Bool.false_eq_true, ↓reduceIte, hw]
        have hsp := split_Split_eq (mk (trim s)) (by rw [mk_size]; omega)
        rw [bl_mk] at hsp
        simp only [hsp, Option.bind_some, List.length_map]
        have hne := split_ne (trim s)
        have hl := split_length (trim s)
        have hpos : 0 < (split (trim s)).length := List.length_pos_iff.2 hne
        have ih : Ev (fun k => isoglosslaw04_SplitTrims.l0 k (mk (trim s)) true ((n - 1 : Nat) : Int)) true := by
          refine law_trims_l0 (trim s).length (trim s) (n - 1) (Nat.le_refl _) (by omega) (fun h => ?_) (by omega)
          rw [split_trim s (trim_left s h)]
          have := trimP_length (split s)
          omega
        simp only [show ¬ ((split (trim s)).length : Int) = 0 from by omega, ↓reduceIte]
        by_cases c : ((split (trim s)).length : Int) > 1
        · have hw2 : wrap64 (((split (trim s)).length : Int) - 1) = (((split (trim s)).length - 1 : Nat) : Int) := by unfold wrap64; omega
          have hx : (split (trim s))[(split (trim s)).length - 1]? = some ((split (trim s))[(split (trim s)).length - 1]'(by omega)) := List.getElem?_eq_getElem (by omega)
          have htn : trim s ≠ [] := by
            intro e
            rw [e] at c
            exact absurd c (by decide)
          have e := split_trim s (trim_left s htn)
          have hlast := trimP_last (split s) (by rw [← e]; omega) ((split (trim s))[(split (trim s)).length - 1]'(by omega)) (by rw [← e]; exact hx)
          have hlz : ¬ ((((split (trim s))[(split (trim s)).length - 1]'(by omega)).length : Nat) : Int) = 1 := by omega
          simp only [c, hw2, show (0 : Int) ≤ (((split (trim s)).length - 1 : Nat) : Int) from by omega, show ((((split (trim s)).length - 1 : Nat) : Int) < ((split (trim s)).length : Int)) from by omega, getMk _ _ _ hx, mk_size, hlz, ↓reduceIte]
          exact ih
        · simp only [c, ↓reduceIte]; exact ih
      by_cases htn : trim s = []
      · have : (mk (trim s)).toList = ([] : List UInt8) := by rw [bl_toList, bl_mk]; exact htn
        simp only [this, ↓reduceIte]
        exact step
      · have hne : ¬ (mk (trim s)).toList = ([] : List UInt8) := by rw [bl_toList, bl_mk]; exact htn
        have hb : (bt (mk s) ((mk (trim s)).size : Int) != 45) = false := by
          rcases trim_spec s with e | ⟨t, e⟩
          · exact absurd e htn
          · obtain ⟨c, hc1, hc2⟩ := bt_is (s := mk s) (i := (trim s).length) (by rw [mk_size]; omega)
            rw [bl_mk] at hc1
            have this : (trim s ++ 45 :: t)[(trim s).length]? = some 45 := by simp
            rw [← e] at this
            rw [this] at hc1
            obtain rfl := Option.some.inj hc1
            rw [mk_size, hc2]; decide
        simp only [hne, hb, ↓reduceIte]
        exact step
termination_by _ s => s.length
theorem SplitTrims_plain : isoglosslaw04_SplitTrims.Pure := by
  intro a0 _
  have h : Ev (fun k => isoglosslaw04_SplitTrims.f k a0) true := by
    unfold isoglosslaw04_SplitTrims.f
    refine Ev.bind law04_awake_ev ?_
    rw [law04_short_eq]
    simp only [Option.bind_some]
    have hl : ((bl a0).take 60).length ≤ 60 := List.length_take_le _ _
    have hsp := split_Split_eq (mk ((bl a0).take 60)) (by rw [mk_size]; omega)
    rw [bl_mk] at hsp
    have hlen := split_length ((bl a0).take 60)
    simp only [hsp, Option.bind_some, List.length_map]
    exact law_trims_l0 60 _ _ hl (Nat.le_refl _) (fun _ => Nat.le_refl _) (by omega)
  exact h.rounds
end Go.Proofs.YtmkjifljciajbaaDoor.Iso
namespace Go.Proofs.YtmkjifljciajbaaDoor.Pure
open Go.RowKit Go.Proofs.YtmkjifljciajbaaDoor.P Go.Proofs.YtmkjifljciajbaaDoorW.PrintWords
theorem SplitTrims : isoglosslaw04_SplitTrims.Pure := Iso.SplitTrims_plain
end Go.Proofs.YtmkjifljciajbaaDoor.Pure
