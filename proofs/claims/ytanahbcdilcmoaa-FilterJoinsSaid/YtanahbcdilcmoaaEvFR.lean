/- What the document's answer of the chapter filter comes to, in plain words. Conditions: texts have at most 2^42 bytes. -/
import Derived.Test.YtanahbcdilcmoaaEvF
import Derived.Test.YtanahbcdilcmoaaPx4
import Derived.Test.YtanahbcdilcmoaaPx5
namespace Go.Proofs.Ytanahbcdilcmoaa.Iso
set_option linter.unusedSimpArgs false
set_option linter.unusedVariables false
open Go Go.RowKit Go.Proofs.YtanahbcdilcmoaaW.PrintWords Go.Proofs.Ytanahbcdilcmoaa.P
theorem ref_word_ev (p : ByteArray) (b : Bool) (hn : p.size ≤ 140737488355328) : Ev (fun k => isoglossref20_word.f k p b) (word b (bl p)) := by
  unfold isoglossref20_word.f
  refine Ev.bind (ref_Class_ev p hn) ?_
  refine ⟨0, fun _ _ => ?_⟩
  unfold word alpha alnum
  rw [bl_len]
  by_cases h : p.size ≤ 8
  · simp only [h, show ((p.size : Int) ≤ 8) from by omega, ↓reduceIte, decide_true, Bool.true_and]
    by_cases h1 : cls (bl p) = 1
    · simp [h1]
    · by_cases h0 : cls (bl p) = 0
      · simp [h0]
      · simp only [h1, h0, show ¬ ((cls (bl p) : Int) = 1) from by omega, show ((cls (bl p) : Int) > 0) from by omega, ↓reduceIte, decide_false, Bool.false_or]; simp [h0]
  · simp only [h, show ¬ ((p.size : Int) ≤ 8) from by omega, ↓reduceIte, decide_false, Bool.false_and]
theorem ref_basic_l0 (ps : List Str) (hn : ps.length ≤ 140737488355328) (hp : ∀ p ∈ ps, p.length ≤ 140737488355328) (t : List Str) : ∀ (i : Nat), ps.drop i = t → i ≤ ps.length →
    Ev (fun k => isoglossref20_Basic.l0 k (ps.map mk) i) (wsG word (decide (i = 0)) t) := by
  induction t with
  | nil =>
    intro i h h2
    have g := List.drop_eq_nil_iff.1 h
    refine Ev.succ ?_
    simp only [isoglossref20_Basic.l0, List.length_map, show ¬ ((i : Int) < (ps.length : Int)) from by omega, ↓reduceIte]
    exact Ev.now _
  | cons p t ih =>
    intro i h h2
    have hl := congrArg List.length h
    rw [List.length_drop, List.length_cons] at hl
    have hq : ps[i]? = some p := by
      have := congrArg (·[0]?) h
      simpa using this
    have hd : ps.drop (i + 1) = t := by rw [← List.drop_drop, h]; rfl
    have hm : p.length ≤ 140737488355328 := hp p (List.mem_of_getElem? hq)
    refine Ev.succ ?_
    simp only [isoglossref20_Basic.l0, List.length_map, show ((i : Int) < (ps.length : Int)) from by omega, show (0 : Int) ≤ (i : Int) from by omega, getMk ps i p hq, ↓reduceIte, wrap_lt (show i < ps.length from by omega) hn]
    have e : ((i : Int) == 0) = decide (i = 0) := by by_cases h0 : i = 0 <;> simp [h0]
    rw [e]
    refine Ev.bind (ref_word_ev (mk p) _ hm) ?_
    rw [bl_mk]
    unfold wsG
    cases word (decide (i = 0)) p
    · exact Ev.now _
    · have := ih (i + 1) hd (by omega)
      rw [decide_eq_false (show ¬ (i + 1 = 0) from by omega)] at this
      simpa using this
theorem ref_ext_l0 (ps : List Str) (hn : ps.length ≤ 140737488355328) (hp : ∀ p ∈ ps, p.length ≤ 140737488355328) (t : List Str) : ∀ (i : Nat), ps.drop i = t → i ≤ ps.length →
    Ev (fun k => isoglossref20_Extended.l0 k (ps.map mk) i) (wsG word2 (decide (i = 0)) t) := by
  induction t with
  | nil =>
    intro i h h2
    have g := List.drop_eq_nil_iff.1 h
    refine Ev.succ ?_
    simp only [isoglossref20_Extended.l0, List.length_map, show ¬ ((i : Int) < (ps.length : Int)) from by omega, ↓reduceIte]
    exact Ev.now _
  | cons p t ih =>
    intro i h h2
    have hl := congrArg List.length h
    rw [List.length_drop, List.length_cons] at hl
    have hq : ps[i]? = some p := by
      have := congrArg (·[0]?) h
      simpa using this
    have hd : ps.drop (i + 1) = t := by rw [← List.drop_drop, h]; rfl
    have hm : p.length ≤ 140737488355328 := hp p (List.mem_of_getElem? hq)
    refine Ev.succ ?_
    simp only [isoglossref20_Extended.l0, List.length_map, show ((i : Int) < (ps.length : Int)) from by omega, show (0 : Int) ≤ (i : Int) from by omega, getMk ps i p hq, ↓reduceIte, wrap_lt (show i < ps.length from by omega) hn, toList_star, bl_mk]
    have e : ((i : Int) == 0) = decide (i = 0) := by by_cases h0 : i = 0 <;> simp [h0]
    have hrec := ih (i + 1) hd (by omega)
    rw [decide_eq_false (show ¬ (i + 1 = 0) from by omega)] at hrec
    rw [e]
    rw [wsG, show word2 (decide (i = 0)) p = (decide (p = star) || word (decide (i = 0)) p) from rfl]
    by_cases hs : p = star
    · simp only [hs, ↓reduceIte, decide_true, Bool.true_or, Bool.true_and]; exact hrec
    · simp only [hs, ↓reduceIte, decide_false, Bool.false_or]
      have hw := ref_word_ev (mk p) (decide (i = 0)) hm
      rw [bl_mk] at hw
      refine Ev.bind hw ?_
      cases word (decide (i = 0)) p
      · exact Ev.now _
      · simpa using hrec
theorem ref_Basic_ev (s : ByteArray) (hn : s.size ≤ 4398046511104) : Ev (fun k => isoglossref20_Basic.f k s) (basic (bl s)) := by
  unfold isoglossref20_Basic.f basic
  simp only [toList_star]
  by_cases h : bl s = star
  · simp only [h, ↓reduceIte, decide_true, Bool.true_or]; exact Ev.now _
  · simp only [h, ↓reduceIte, decide_false, Bool.false_or]
    obtain ⟨h1, h2⟩ := split_small hn
    refine Ev.bind (ref_Split_ev s hn) ?_
    exact ref_basic_l0 _ h1 h2 _ 0 rfl (by omega)
theorem ref_Extended_ev (s : ByteArray) (hn : s.size ≤ 4398046511104) : Ev (fun k => isoglossref20_Extended.f k s) (ext (bl s)) := by
  unfold isoglossref20_Extended.f ext
  obtain ⟨h1, h2⟩ := split_small hn
  refine Ev.bind (ref_Split_ev s hn) ?_
  exact ref_ext_l0 _ h1 h2 _ 0 rfl (by omega)
theorem mk_low_toList (s : ByteArray) : (mk (low (bl s))).toList = low (bl s) := by rw [bl_toList, bl_mk]
theorem ref_Matches_ev (r t : ByteArray) (hr : r.size ≤ 4398046511104) (ht : t.size ≤ 4398046511104) : Ev (fun k => isoglossref20_Matches.f k r t) (mat (bl r) (bl t)) := by
  unfold isoglossref20_Matches.f mat
  refine Ev.bind (ref_Basic_ev r hr) ?_
  cases hb : basic (bl r)
  · simp only [Bool.false_eq_true, ↓reduceIte, Bool.false_and]
    refine Ev.succ ?_
    simp only [isoglossref20_Matches.j0, ↓reduceIte]
    exact Ev.now _
  · simp only [↓reduceIte, Bool.true_and]
    refine Ev.succ ?_
    simp only [isoglossref20_Matches.j0, beq_star]
    by_cases h : bl r = star
    · simp only [h, decide_true, ↓reduceIte, Bool.true_or]; exact Ev.now _
    · simp only [h, decide_false, Bool.false_or, ↓reduceIte, Bool.false_eq_true]
      refine Ev.bind (ref_Lower_ev r (by omega)) (Ev.bind (ref_Lower_ev t (by omega)) ?_)
      simp only [mk_low_toList, mk_low_size]
      unfold same
      by_cases hs : low (bl r) = low (bl t)
      · simp only [hs, ↓reduceIte, decide_true, Bool.true_or]; exact Ev.now _
      · simp only [hs, ↓reduceIte, decide_false, Bool.false_or]
        rw [bl_len, bl_len]
        by_cases hl : r.size < t.size
        · simp only [show ((t.size : Int) > (r.size : Int)) from by omega, show (0 : Int) ≤ (r.size : Int) from by omega, show ((r.size : Int) ≤ (t.size : Int)) from by omega, show ((r.size : Int) < (t.size : Int)) from by omega, ↓reduceIte, hl, decide_true, Bool.true_and]
          have e : ((mk (low (bl t))).extract 0 r.size).toList = low ((bl t).take r.size) := by
            rw [bl_toList, bl_extract, bl_mk, List.drop_zero, Nat.sub_zero]; unfold low; rw [List.map_take]
          rw [e]
          have hlt : r.size < (mk (low (bl t))).size := by rw [mk_low_size]; exact hl
          have hd : ((low (bl t))[r.size]? = some 45) = ((bl t)[r.size]? = some 45) := by
            unfold low
            rw [List.getElem?_map]
            cases hq : (bl t)[r.size]? with
            | none => simp
            | some c => simp [lowC_dash]
          by_cases h2 : low (bl r) = low ((bl t).take r.size)
          · rw [if_pos h2.symm, decide_eq_true h2, Bool.true_and, bt_dash hlt]
            simp only [bl_mk, hd]
            exact Ev.now _
          · rw [if_neg (fun h => h2 h.symm), decide_eq_false h2, Bool.false_and]; exact Ev.now _
        · simp only [show ¬ ((t.size : Int) > (r.size : Int)) from by omega, ↓reduceIte, hl, decide_false, Bool.false_and]; exact Ev.now _
theorem ref_walk_ev : ∀ (rs ts : List Str), Small rs → Small ts → Ev (fun k => isoglossref20_walk.f k (rs.map mk) (ts.map mk)) (walk rs ts) := by
  intro rs
  induction rs with
  | nil =>
    intro ts _ _
    refine Ev.succ ?_
    simp only [isoglossref20_walk.f, List.map_nil, List.length_nil, show (((0 : Nat) : Int) = 0) from rfl, ↓reduceIte, walk]
    exact Ev.now _
  | cons r rs ih =>
    intro ts hr ht
    have e1 : ¬ ((((r :: rs).map mk).length : Int) = 0) := by rw [List.map_cons, List.length_cons]; omega
    have e2 : (1 ≤ (((r :: rs).map mk).length : Int)) := by rw [List.map_cons, List.length_cons]; omega
    have e3 : (((r :: rs).map mk).drop 1) = rs.map mk := rfl
    have e4 : rdOf ByteArray.empty ((r :: rs).map mk) 0 = mk r := rfl
    have g1 : (0 < (((r :: rs).map mk).length : Int)) := e2
    unfold walk
    by_cases hs : r = star
    · refine Ev.succ ?_
      subst hs
      simp only [isoglossref20_walk.f, e1, g1, e2, e3, e4, toList_star, bl_mk, ↓reduceIte]
      exact Ev.bind (ih ts hr.tail ht) (Ev.now _)
    · simp only [hs, ↓reduceIte]
      induction ts with
      | nil =>
        refine Ev.succ ?_
        simp only [isoglossref20_walk.f, e1, g1, e2, e3, e4, toList_star, bl_mk, hs, ↓reduceIte, List.map_nil, List.length_nil, show (((0 : Nat) : Int) = 0) from rfl, seek]
        exact Ev.now _
      | cons t ts iht =>
        have f1 : ¬ ((((t :: ts).map mk).length : Int) = 0) := by rw [List.map_cons, List.length_cons]; omega
        have f2 : (1 ≤ (((t :: ts).map mk).length : Int)) := by rw [List.map_cons, List.length_cons]; omega
        have f3 : (((t :: ts).map mk).drop 1) = ts.map mk := rfl
        have f4 : rdOf ByteArray.empty ((t :: ts).map mk) 0 = mk t := rfl
        have f5 : (0 < (((t :: ts).map mk).length : Int)) := f2
        refine Ev.succ ?_
        simp only [isoglossref20_walk.f, e1, g1, e2, e3, e4, toList_star, bl_mk, hs, ↓reduceIte, f1, f2, f3, f4, f5, seek]
        refine Ev.bind (ref_Compare_ev (mk r) (mk t) hr.head ht.head) ?_
        simp only [bl_mk, cmpL_zero]
        unfold same
        by_cases h9 : low r = low t
        · simp only [h9, ↓reduceIte, decide_true]
          exact Ev.bind (ih ts hr.tail ht.tail) (Ev.now _)
        · simp only [h9, ↓reduceIte, decide_false, Bool.false_eq_true]
          rw [mk_size]
          by_cases h1 : t.length = 1
          · simp only [h1, show (((1 : Nat) : Int) = 1) from rfl, ↓reduceIte]; exact Ev.now _
          · simp only [h1, show ¬ ((t.length : Int) = 1) from by omega, ↓reduceIte]; exact Ev.bind (iht ht.tail) (Ev.now _)
theorem ref_MatchesExtended_ev (r t : ByteArray) (hr : r.size ≤ 4398046511104) (ht : t.size ≤ 4398046511104) : Ev (fun k => isoglossref20_MatchesExtended.f k r t) (mext (bl r) (bl t)) := by
  unfold isoglossref20_MatchesExtended.f mext
  refine Ev.bind (ref_Extended_ev r hr) (Ev.bind (ref_Split_ev r hr) (Ev.bind (ref_Split_ev t ht) ?_))
  have sr : Small (split (bl r)) := split_small hr
  have st : Small (split (bl t)) := split_small ht
  cases ext (bl r)
  · simp only [Bool.false_eq_true, ↓reduceIte, Bool.false_and]; exact Ev.now _
  · simp only [↓reduceIte, Bool.true_and]
    cases hrs : split (bl r) with
    | nil => exact absurd hrs (split_ne _)
    | cons r0 rs =>
      cases hts : split (bl t) with
      | nil => exact absurd hts (split_ne _)
      | cons t0 ts =>
        rw [hrs] at sr; rw [hts] at st
        have g1 : (0 < (((r0 :: rs).map mk).length : Int)) := by rw [List.map_cons, List.length_cons]; omega
        have e2 : (1 ≤ (((r0 :: rs).map mk).length : Int)) := g1
        have e3 : (((r0 :: rs).map mk).drop 1) = rs.map mk := rfl
        have e4 : rdOf ByteArray.empty ((r0 :: rs).map mk) 0 = mk r0 := rfl
        have f2 : (1 ≤ (((t0 :: ts).map mk).length : Int)) := by rw [List.map_cons, List.length_cons]; omega
        have f3 : (((t0 :: ts).map mk).drop 1) = ts.map mk := rfl
        have f4 : rdOf ByteArray.empty ((t0 :: ts).map mk) 0 = mk t0 := rfl
        have f5 : (0 < (((t0 :: ts).map mk).length : Int)) := f2
        simp only [g1, e2, e3, e4, f2, f3, f4, f5, ↓reduceIte, toList_star, bl_mk]
        by_cases hs : r0 = star
        · simp only [hs, ↓reduceIte, decide_true, Bool.true_or, Bool.true_and]
          exact Ev.bind (ref_walk_ev rs ts sr.tail st.tail) (Ev.now _)
        · simp only [hs, ↓reduceIte, decide_false, Bool.false_or]
          refine Ev.bind (ref_Compare_ev (mk r0) (mk t0) sr.head st.head) ?_
          simp only [bl_mk, cmpL_zero]
          unfold same
          by_cases h9 : low r0 = low t0
          · simp only [h9, ↓reduceIte, decide_true, Bool.true_and]
            exact Ev.bind (ref_walk_ev rs ts sr.tail st.tail) (Ev.now _)
          · simp only [h9, ↓reduceIte, decide_false, Bool.false_and]; exact Ev.now _
theorem law20_tells_ev (r t : ByteArray) (hr : r.size ≤ 4398046511104) (ht : t.size ≤ 4398046511104) : Ev (fun k => isoglosslaw20_tells.f k r t) true := by
  unfold isoglosslaw20_tells.f
  refine Ev.bind (filter_Basic_ev r hr) (Ev.bind (ref_Basic_ev r hr) ?_)
  simp only [beq_self_eq_true, ↓reduceIte]
  refine Ev.bind (filter_Extended_ev r hr) (Ev.bind (ref_Extended_ev r hr) ?_)
  simp only [beq_self_eq_true, ↓reduceIte]
  refine Ev.bind (filter_Matches_ev r t hr ht) (Ev.bind (ref_Matches_ev r t hr ht) ?_)
  simp only [beq_self_eq_true, ↓reduceIte]
  refine Ev.bind (filter_MatchesExtended_ev r t hr ht) (Ev.bind (ref_MatchesExtended_ev r t hr ht) ?_)
  simp only [beq_self_eq_true]
  exact Ev.now _
end Go.Proofs.Ytanahbcdilcmoaa.Iso
