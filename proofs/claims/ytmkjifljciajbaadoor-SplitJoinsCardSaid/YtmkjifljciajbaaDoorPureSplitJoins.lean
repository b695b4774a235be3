/- The law SplitJoins, in plain words. No condition. -/
import Derived.Test.YtmkjifljciajbaaDoorEvS
import Derived.Test.YtmkjifljciajbaaDoorPx6
namespace Go.Proofs.YtmkjifljciajbaaDoor.Iso
set_option linter.unusedSimpArgs false
set_option linter.unusedVariables false
open Go Go.RowKit Go.Proofs.YtmkjifljciajbaaDoorW.PrintWords Go.Proofs.YtmkjifljciajbaaDoor.P
/-- A text's first eight bytes, without dashes. -/
def undash (s : ByteArray) : Str := ((bl s).take 8).filter fun c => decide (c ≠ 45)
theorem undash_noDash (s : ByteArray) : noDash (undash s) := fun c hc => by
  have := (List.mem_filter.1 hc).2
  simpa using this
theorem undash_len (s : ByteArray) : (undash s).length ≤ 8 := Nat.le_trans (List.length_filter_le _ _) (List.length_take_le _ _)
theorem joinL_le : ∀ (ps : List Str) (m : Nat), (∀ p ∈ ps, p.length ≤ m) → (joinL ps).length ≤ ps.length * (m + 1)
  | [], m, _ => by simp [joinL]
  | p :: l, m, h => by
    have hp := h p List.mem_cons_self
    have ht : ∀ (l : List Str), (∀ p ∈ l, p.length ≤ m) → (tailJ l).length ≤ l.length * (m + 1) := by
      intro l
      induction l with
      | nil => intro _; simp [tailJ]
      | cons q l ih =>
        intro h
        have h1 := h q List.mem_cons_self
        have h2 := ih fun x hx => h x (List.mem_cons_of_mem _ hx)
        simp only [tailJ, List.length_cons, List.length_append]
        rw [Nat.add_mul]
        omega
    have := ht l fun x hx => h x (List.mem_cons_of_mem _ hx)
    simp only [joinL, List.length_append, List.length_cons]
    rw [Nat.add_mul]
    omega
/-- What stands behind the loops. -/
theorem joins_end (S : Str) (hS : S.length ≤ 60) (ps : List Str) (hl : ps.length ≤ 9) (hne : ps ≠ []) (hd : ∀ p ∈ ps, noDash p ∧ p.length ≤ 8) (l : List ByteArray) (i : Int) :
    Ev (fun k => isoglosslaw04_SplitJoins.j1 k (mk S) l true (ps.map mk) i false) true := by
  have hj := joinL_le ps 8 fun p hp => (hd p hp).2
  refine Ev.succ ?_
  simp only [isoglosslaw04_SplitJoins.j1, Bool.false_eq_true, ↓reduceIte]
  have e1 := small_join ps (by omega) (by omega)
  have e2 := split_mk (joinL ps) (by omega)
  rw [split_joinL ps hne fun p hp => (hd p hp).1] at e2
  simp only [e1, e2, Option.bind_some]
  refine Ev.bind (Same_ev _ _ (by omega)) ?_
  have hs := split_length S
  have e3 := split_mk S (by omega)
  have e4 := small_join (split S) (by rw [join_split]; omega) (by omega)
  rw [join_split] at e4
  have e5 : split_Join.f ([] : List ByteArray) = some (mk []) := small_join [] (by simp [joinL]) (by simp)
  have e6 : split_Join.f [mk S] = some (mk S) := by
    have := small_join [S] (by simp [joinL, tailJ]; omega) (by simp)
    simpa [joinL, tailJ] using this
  simp only [e3, e4, e5, e6, Option.bind_some, ↓reduceIte, decide_true, mk_toList, beq_self_eq_true]
  exact Ev.now _
theorem joins_l1 (S : Str) (l : List ByteArray) (R : List ByteArray) (i : Nat) (s : ByteArray) (hs : l[i]? = some s) (hR : R.length ≤ 100)
    (hk : Ev (fun k => isoglosslaw04_SplitJoins.l0 k (mk S) l true (R ++ [mk (undash s)]) (wrap64 ((i : Int) + 1))) true) (t : Str) : ∀ (j : Nat) (acc : Str), ((bl s).take 8).drop j = t → j ≤ 8 → j ≤ s.size → acc ++ t.filter (fun c => decide (c ≠ 45)) = undash s →
    Ev (fun k => isoglosslaw04_SplitJoins.l1 k (mk S) l true R (i : Int) (acc.map fun c => (c.toNat : Int)) (j : Int)) true := by
  have hi : i < l.length := by
    rcases Nat.lt_or_ge i l.length with h | h
    · exact h
    · rw [List.getElem?_eq_none h] at hs; cases hs
  have eg : rdOf ByteArray.empty l (i : Int) = s := by unfold rdOf; simp [List.getD_eq_getElem?_getD, hs]
  induction t with
  | nil =>
    intro j acc h h8 hj ha
    have g := List.drop_eq_nil_iff.1 h
    rw [List.length_take, bl_len] at g
    have hx : ((j : Int) < (s.size : Int) ∧ decide ((j : Int) < 8) = false) ∨ ¬ (j : Int) < (s.size : Int) := by
      by_cases c : j < s.size
      · exact .inl ⟨by omega, decide_eq_false (by omega)⟩
      · exact .inr (by omega)
    have ha2 : acc = undash s := by simpa using ha
    have hend : Ev (fun k => isoglosslaw04_SplitJoins.j3 k (mk S) l true R (i : Int) (acc.map fun c => (c.toNat : Int)) (j : Int) false) true := by
      refine Ev.succ ?_
      simp only [isoglosslaw04_SplitJoins.j3, Bool.false_eq_true, ↓reduceIte, show R.length < 8796093022208 from by omega, strOf, ha2]
      exact hk
    refine Ev.succ ?_
    simp only [isoglosslaw04_SplitJoins.l1, show (0 : Int) ≤ (i : Int) from by omega, show ((i : Int) < (l.length : Int)) from by omega, eg, ↓reduceIte]
    rcases hx with ⟨h1, h2⟩ | h1
    · simp only [h1, h2, ↓reduceIte]; exact hend
    · simp only [h1, ↓reduceIte]; exact hend
  | cons c t ih =>
    intro j acc h h8 hj ha
    have hl := congrArg List.length h
    rw [List.length_drop, List.length_cons, List.length_take, bl_len] at hl
    have hj1 : j < s.size := by omega
    have hj2 : j < 8 := by omega
    have hdr : ((bl s).take 8).drop (j + 1) = t := by rw [← List.drop_drop, h]; rfl
    have hc : (bl s)[j]? = some c := by
      have := List.getElem?_drop (xs := (bl s).take 8) (i := j) (j := 0)
      rw [h, Nat.add_zero, List.getElem?_take_of_lt hj2] at this
      simpa using this.symm
    obtain ⟨c', hc1, hc2⟩ := bt_is (s := s) (i := j) hj1
    rw [hc] at hc1
    obtain rfl := Option.some.inj hc1
    have hw : wrap64 ((j : Int) + 1) = ((j + 1 : Nat) : Int) := by unfold wrap64; omega
    refine Ev.succ ?_
    simp only [isoglosslaw04_SplitJoins.l1, show (0 : Int) ≤ (i : Int) from by omega, show ((i : Int) < (l.length : Int)) from by omega, eg, show ((j : Int) < (s.size : Int)) from by omega, decide_eq_true (show (j : Int) < 8 from by omega), ↓reduceIte]
    refine Ev.succ ?_
    simp only [isoglosslaw04_SplitJoins.j3, show (0 : Int) ≤ (i : Int) from by omega, show ((i : Int) < (l.length : Int)) from by omega, eg, show ((j : Int) < (s.size : Int)) from by omega, show (0 : Int) ≤ (j : Int) from by omega, hc2, hw, ↓reduceIte]
    by_cases h45 : c = 45
    · subst h45
      simp only [show (((45 : UInt8).toNat : Int) = 45) from rfl, ↓reduceIte]
      exact ih (j + 1) acc hdr (by omega) (by omega) (by simpa using ha)
    · have hne : ¬ ((c.toNat : Int) = 45) := fun h => h45 (UInt8.toNat_inj.1 (by have : (45 : UInt8).toNat = 45 := rfl; omega))
      have hal : acc.length ≤ 8 := by
        have h1 := congrArg List.length ha
        have h2 := undash_len s
        rw [List.length_append] at h1
        omega
      have he : (acc.map fun c => (c.toNat : Int)) ++ [(c.toNat : Int)] = (acc ++ [c]).map fun c => (c.toNat : Int) := by simp
      simp only [hne, ↓reduceIte, List.length_map, show acc.length < 140737488355328 from by omega, he]
      refine ih (j + 1) (acc ++ [c]) hdr (by omega) (by omega) ?_
      rw [← ha, List.filter_cons, if_pos (by simpa using h45)]
      simp
theorem joins_l0 (S : Str) (hS : S.length ≤ 60) (l : List ByteArray) (t : List ByteArray) : ∀ (i : Nat) (ps : List Str), (l.take 8).drop i = t → i ≤ 8 → i ≤ l.length → ps.length = i + 1 → (∀ p ∈ ps, noDash p ∧ p.length ≤ 8) →
    Ev (fun k => isoglosslaw04_SplitJoins.l0 k (mk S) l true (ps.map mk) (i : Int)) true := by
  induction t with
  | nil =>
    intro i ps h h8 hi hp hd
    have g := List.drop_eq_nil_iff.1 h
    rw [List.length_take] at g
    have hend := joins_end S hS ps (by omega) (by intro e; rw [e] at hp; simp at hp) hd l (i : Int)
    refine Ev.succ ?_
    simp only [isoglosslaw04_SplitJoins.l0]
    by_cases c : (i : Int) < (l.length : Int)
    · simp only [c, decide_eq_false (show ¬ (i : Int) < 8 from by omega), ↓reduceIte]; exact hend
    · simp only [c, ↓reduceIte]; exact hend
  | cons s t ih =>
    intro i ps h h8 hi hp hd
    have hl := congrArg List.length h
    rw [List.length_drop, List.length_cons, List.length_take] at hl
    have hi1 : i < l.length := by omega
    have hi2 : i < 8 := by omega
    have hdr : (l.take 8).drop (i + 1) = t := by rw [← List.drop_drop, h]; rfl
    have hs : l[i]? = some s := by
      have := List.getElem?_drop (xs := l.take 8) (i := i) (j := 0)
      rw [h, Nat.add_zero, List.getElem?_take_of_lt hi2] at this
      simpa using this.symm
    have hw : wrap64 ((i : Int) + 1) = ((i + 1 : Nat) : Int) := by unfold wrap64; omega
    refine Ev.succ ?_
    simp only [isoglosslaw04_SplitJoins.l0, show ((i : Int) < (l.length : Int)) from by omega, decide_eq_true (show (i : Int) < 8 from by omega), ↓reduceIte]
    refine Ev.succ ?_
    simp only [isoglosslaw04_SplitJoins.j1, ↓reduceIte]
    refine joins_l1 S l (ps.map mk) i s hs (by rw [List.length_map]; omega) ?_ _ 0 [] rfl (by omega) (by omega) rfl
    rw [hw]
    have := ih (i + 1) (ps ++ [undash s]) hdr (by omega) (by omega) (by simp; omega) (fun p hq => by
      rcases List.mem_append.1 hq with hq | hq
      · exact hd p hq
      · rw [List.mem_singleton.1 hq]; exact ⟨undash_noDash s, undash_len s⟩)
    simpa using this
theorem SplitJoins_plain (a : ByteArray) (l : List ByteArray) : Ev (fun k => isoglosslaw04_SplitJoins.f k a l) true := by
  unfold isoglosslaw04_SplitJoins.f
  refine Ev.bind law04_awake_ev ?_
  simp only [law04_short_eq, Option.bind_some]
  have ha := take60 (bl a)
  generalize (bl a).take 60 = A at *
  have := joins_l0 A ha l (l.take 8) 0 [[]] rfl (by omega) (by omega) rfl (fun p hp => by
    rw [List.mem_singleton.1 hp]; exact ⟨fun c hc => (by cases hc), by simp⟩)
  exact this
end Go.Proofs.YtmkjifljciajbaaDoor.Iso
namespace Go.Proofs.YtmkjifljciajbaaDoor.Pure
open Go.RowKit Go.Proofs.YtmkjifljciajbaaDoor.P Go.Proofs.YtmkjifljciajbaaDoorW.PrintWords
theorem SplitJoins (a : ByteArray) (l : List ByteArray) (_ : a.size ≤ 140737488351232) : ∃ k, isoglosslaw04_SplitJoins.f k a l = some true := (Iso.SplitJoins_plain a l).rounds
end Go.Proofs.YtmkjifljciajbaaDoor.Pure
