/- What the functions of the chapter filter come to, in plain words. Conditions: texts have at most 2^42 bytes. -/
import Derived.Test.YtanahbcdilcmoaaEvC
import Derived.Test.YtanahbcdilcmoaaPx1
import Derived.Test.YtanahbcdilcmoaaPx2
import Derived.Test.YtanahbcdilcmoaaPx3
namespace Go.Proofs.Ytanahbcdilcmoaa.Iso
set_option linter.unusedSimpArgs false
set_option linter.unusedVariables false
open Go Go.RowKit Go.Proofs.YtanahbcdilcmoaaW.PrintWords Go.Proofs.Ytanahbcdilcmoaa.P
def star : Str := [42]
def word (first : Bool) (p : Str) : Bool := decide (p.length ≤ 8) && (alpha p || !first && alnum p)
def word2 (first : Bool) (p : Str) : Bool := decide (p = star) || word first p
def wsG (w : Bool → Str → Bool) : Bool → List Str → Bool
  | _, [] => true
  | b, p :: t => w b p && wsG w false t
def basic (s : Str) : Bool := decide (s = star) || wsG word true (split s)
def ext (s : Str) : Bool := wsG word2 true (split s)
def mat (r t : Str) : Bool := basic r && (decide (r = star) || same r t || (decide (r.length < t.length) && same r (t.take r.length) && decide (t[r.length]? = some 45)))
def seek (r : Str) (k : List Str → Bool) : List Str → Bool
  | [] => false
  | t :: ts => if same r t then k ts else if t.length = 1 then false else seek r k ts
def walk : List Str → List Str → Bool
  | [], _ => true
  | r :: rs, ts => if r = star then walk rs ts else seek r (walk rs) ts
def mext (r t : Str) : Bool := ext r && (match split r with
  | [] => false
  | r0 :: rs => match split t with
    | [] => false
    | t0 :: ts => (decide (r0 = star) || same r0 t0) && walk rs ts)
theorem toList_star (a : ByteArray) : (a.toList = ([42] : List UInt8)) = (bl a = star) := by rw [bl_toList]; rfl
theorem beq_star (a : ByteArray) : (a.toList == ([42] : List UInt8)) = decide (bl a = star) := by
  rw [bl_toList]; by_cases h : bl a = star
  · rw [decide_eq_true h, beq_iff_eq]; exact h
  · rw [decide_eq_false h, beq_eq_false_iff_ne]; exact h
theorem word_ev (p : ByteArray) (a : Nat) (hn : p.size ≤ 140737488355328) : Ev (fun k => filter_word.f k (a : Int) p) (word (decide (a = 0)) (bl p)) := by
  unfold filter_word.f word
  rw [bl_len]
  by_cases h : p.size ≤ 8
  · simp only [h, show ((p.size : Int) ≤ 8) from by omega, ↓reduceIte, decide_true, Bool.true_and]
    refine Ev.bind (ascii_Alpha_ev p hn) ?_
    cases alpha (bl p)
    · by_cases h0 : a = 0
      · simp only [h0, show ¬ (((0 : Nat) : Int) > 0) from by omega, ↓reduceIte, Bool.false_eq_true, decide_true, Bool.not_true, Bool.false_and, Bool.or_false]; exact Ev.now _
      · simp only [h0, show (a : Int) > 0 from by omega, ↓reduceIte, Bool.false_eq_true, decide_false, Bool.not_false, Bool.true_and, Bool.false_or]
        exact Ev.bind (ascii_Alnum_ev p hn) (Ev.now _)
    · simp only [↓reduceIte, Bool.true_or]; exact Ev.now _
  · simp only [h, show ¬ ((p.size : Int) ≤ 8) from by omega, ↓reduceIte, decide_false, Bool.false_and]; exact Ev.now _
theorem word2_ev (p : ByteArray) (a : Nat) (hn : p.size ≤ 140737488355328) : Ev (fun k => filter_Extended_1.f k (a : Int) p) (word2 (decide (a = 0)) (bl p)) := by
  unfold filter_Extended_1.f word2
  simp only [toList_star]
  by_cases h : bl p = star
  · simp only [h, ↓reduceIte, decide_true, Bool.true_or]; exact Ev.now _
  · simp only [h, ↓reduceIte, decide_false, Bool.false_or]; exact word_ev p a hn
theorem allP_ev (q : Nat → Int → ByteArray → Option Bool) (p : Nat × ByteArray → Bool) : ∀ (l : List (Nat × ByteArray)), (∀ x ∈ l, Ev (fun k => q k x.1 x.2) (p x)) → Ev (fun k => allP (fun a s => q k a s) l) (l.all p)
  | [], _ => Ev.now _
  | x :: l, h => by
    simp only [allP, List.all_cons]
    exact Ev.bind (h x List.mem_cons_self) (Ev.bind (allP_ev q p l fun y hy => h y (List.mem_cons_of_mem _ hy)) (Ev.now _))
theorem eachGo_all (w : Bool → Str → Bool) : ∀ (s : Str) (a : Nat) (acc : Str), (eachGo a acc s).all (fun x => w (decide (x.1 = 0)) x.2) = wsG w (decide (a = 0)) (sp acc s)
  | [], a, acc => by simp [eachGo, sp, wsG]
  | c :: t, a, acc => by
    unfold eachGo sp
    by_cases h : c = 45
    · rw [if_pos h, if_pos h, List.all_cons, eachGo_all w t]; simp [wsG]
    · rw [if_neg h, if_neg h, eachGo_all w t]
theorem mem_join {p : Str} : ∀ {ps : List Str}, p ∈ ps → p.length ≤ (joinL ps).length ∧ p.length ≤ (tailJ ps).length
  | q :: ps, h => by
    rcases List.mem_cons.1 h with rfl | h
    · simp [joinL, tailJ]; omega
    · have := (mem_join h).2
      simp only [joinL, tailJ, List.length_append, List.length_cons]; omega
theorem split_mem {p s : Str} (h : p ∈ split s) : p.length ≤ s.length := by
  have := (mem_join h).1
  rwa [join_split] at this
theorem eachB_mem {s : ByteArray} {x : Nat × ByteArray} (h : x ∈ eachB s) : x.2.size ≤ s.size := by
  unfold eachB at h
  obtain ⟨y, hy, rfl⟩ := List.mem_map.1 h
  have : y.2 ∈ split (bl s) := List.mem_map.2 ⟨y, hy, rfl⟩
  have := split_mem this
  rwa [bl_len] at this
theorem eachB_all (w : Bool → Str → Bool) (s : ByteArray) : (eachB s).all (fun x => w (decide (x.1 = 0)) (bl x.2)) = wsG w true (split (bl s)) := by
  unfold eachB
  rw [List.all_map, split_sp]
  have := eachGo_all w (bl s) 0 []
  rw [decide_eq_true (rfl : 0 = 0)] at this
  rw [← this]; rfl
theorem filter_Basic_ev (s : ByteArray) (hn : s.size ≤ 4398046511104) : Ev (fun k => filter_Basic.f k s) (basic (bl s)) := by
  unfold filter_Basic.f basic
  simp only [toList_star]
  by_cases h : bl s = star
  · simp only [h, ↓reduceIte, decide_true, Bool.true_or]; exact Ev.now _
  · simp only [h, ↓reduceIte, decide_false, Bool.false_or, show s.size < 140737488355329 from by omega]
    rw [← eachB_all]
    exact allP_ev (fun k => filter_word.f k) _ _ fun x hx => word_ev x.2 x.1 (by have := eachB_mem hx; omega)
theorem filter_Extended_ev (s : ByteArray) (hn : s.size ≤ 4398046511104) : Ev (fun k => filter_Extended.f k s) (ext (bl s)) := by
  unfold filter_Extended.f ext
  simp only [↓reduceIte, show s.size < 140737488355329 from by omega]
  rw [← eachB_all]
  exact allP_ev (fun k => filter_Extended_1.f k) _ _ fun x hx => word2_ev x.2 x.1 (by have := eachB_mem hx; omega)
theorem split_small {s : ByteArray} (hn : s.size ≤ 4398046511104) : (split (bl s)).length ≤ 140737488355328 ∧ ∀ p ∈ split (bl s), p.length ≤ 140737488355328 := by
  have h1 := split_length (bl s)
  rw [bl_len] at h1
  refine ⟨by omega, fun p hp => ?_⟩
  have h2 := split_mem hp
  rw [bl_len] at h2
  omega
/-! ### matching -/
theorem bt_is {s : ByteArray} {i : Nat} (h : i < s.size) : ∃ c, (bl s)[i]? = some c ∧ bt s i = c.toNat := by
  have hl : i < (bl s).length := by rw [bl_len]; exact h
  refine ⟨(bl s)[i], List.getElem?_eq_getElem hl, ?_⟩
  exact (drop_at (List.drop_eq_getElem_cons hl)).2.1
theorem bt_dash {s : ByteArray} {i : Nat} (h : i < s.size) : (bt s i == 45) = decide ((bl s)[i]? = some 45) := by
  obtain ⟨c, h1, h2⟩ := bt_is h
  rw [h1, h2]
  by_cases hc : c = 45
  · subst hc; rfl
  · rw [decide_eq_false (fun h => hc (Option.some.inj h)), beq_eq_false_iff_ne]
    intro h
    exact hc (UInt8.toNat_inj.1 (by have : (45 : UInt8).toNat = 45 := rfl; omega))
theorem basic_star {s : Str} (h : basic s = false) : ¬ s = star := by
  unfold basic at h
  intro h2
  rw [decide_eq_true h2] at h; simp at h
theorem filter_Matches_ev (r t : ByteArray) (hr : r.size ≤ 4398046511104) (ht : t.size ≤ 4398046511104) : Ev (fun k => filter_Matches.f k r t) (mat (bl r) (bl t)) := by
  unfold filter_Matches.f mat
  refine Ev.bind (filter_Basic_ev r hr) ?_
  cases hb : basic (bl r)
  · simp only [Bool.false_eq_true, ↓reduceIte, Bool.false_and]
    refine Ev.succ ?_
    simp only [filter_Matches.j0, beq_star, ↓reduceIte]
    rw [decide_eq_false (basic_star hb)]
    exact Ev.now _
  · simp only [↓reduceIte, Bool.true_and]
    refine Ev.succ ?_
    simp only [filter_Matches.j0, beq_star]
    by_cases h : bl r = star
    · simp only [h, decide_true, ↓reduceIte, Bool.true_or]; exact Ev.now _
    · simp only [h, decide_false, Bool.false_or, ↓reduceIte, Bool.false_eq_true]
      refine Ev.bind (ascii_Same_ev r t (by omega) (by omega)) ?_
      cases same (bl r) (bl t)
      · simp only [Bool.false_eq_true, ↓reduceIte, Bool.false_or]
        rw [bl_len, bl_len]
        by_cases hl : r.size < t.size
        · simp only [show ((t.size : Int) > (r.size : Int)) from by omega, show (0 : Int) ≤ (r.size : Int) from by omega, show ((r.size : Int) ≤ (t.size : Int)) from by omega, show ((r.size : Int) < (t.size : Int)) from by omega, ↓reduceIte, hl, decide_true, Bool.true_and]
          have := ascii_Same_ev r (t.extract 0 r.size) (by omega) (by rw [ByteArray.size_extract]; omega)
          rw [bl_extract, List.drop_zero, Nat.sub_zero] at this
          refine Ev.bind this ?_
          cases same (bl r) ((bl t).take r.size)
          · exact Ev.now _
          · simp only [↓reduceIte, Bool.true_and, bt_dash hl]; exact Ev.now _
        · simp only [show ¬ ((t.size : Int) > (r.size : Int)) from by omega, ↓reduceIte, hl, decide_false, Bool.false_and]; exact Ev.now _
      · simp only [↓reduceIte, Bool.true_or]; exact Ev.now _
/-! ### extended matching -/
def Small (ps : List Str) : Prop := ps.length ≤ 140737488355328 ∧ ∀ p ∈ ps, p.length ≤ 140737488355328
theorem Small.tail {p : Str} {ps : List Str} (h : Small (p :: ps)) : Small ps := ⟨by have := h.1; rw [List.length_cons] at this; omega, fun q hq => h.2 q (List.mem_cons_of_mem _ hq)⟩
theorem Small.head {p : Str} {ps : List Str} (h : Small (p :: ps)) : (mk p).size ≤ 140737488355328 := h.2 p List.mem_cons_self
theorem mext_l0 : ∀ (rs ts : List Str), Small rs → Small ts → Ev (fun k => filter_MatchesExtended.l0 k (rs.map mk) (ts.map mk)) (walk rs ts) := by
  intro rs
  induction rs with
  | nil =>
    intro ts _ _
    refine Ev.succ ?_
    simp only [filter_MatchesExtended.l0, List.map_nil, List.length_nil, show ¬ (((0 : Nat) : Int) > 0) from by omega, ↓reduceIte, walk]
    exact Ev.now _
  | cons r rs ih =>
    intro ts hr ht
    have e1 : ((((r :: rs).map mk).length : Int) > 0) := by rw [List.map_cons, List.length_cons]; omega
    have e2 : (1 ≤ (((r :: rs).map mk).length : Int)) := by rw [List.map_cons, List.length_cons]; omega
    have e3 : (((r :: rs).map mk).drop (1 : Int).toNat) = rs.map mk := rfl
    have e4 : rdOf ByteArray.empty ((r :: rs).map mk) 0 = mk r := rfl
    have g1 : (0 < (((r :: rs).map mk).length : Int)) := e1
    unfold walk
    by_cases hs : r = star
    · refine Ev.succ ?_
      subst hs
      simp only [filter_MatchesExtended.l0, e1, g1, e2, e3, e4, toList_star, bl_mk, ↓reduceIte]
      exact ih ts hr.tail ht
    · simp only [hs, ↓reduceIte]
      induction ts with
      | nil =>
        refine Ev.succ ?_
        simp only [filter_MatchesExtended.l0, e1, g1, e2, e3, e4, toList_star, bl_mk, hs, ↓reduceIte, List.map_nil, List.length_nil, show (((0 : Nat) : Int) = 0) from rfl, seek]
        exact Ev.now _
      | cons t ts iht =>
        have f1 : ¬ ((((t :: ts).map mk).length : Int) = 0) := by rw [List.map_cons, List.length_cons]; omega
        have f2 : (1 ≤ (((t :: ts).map mk).length : Int)) := by rw [List.map_cons, List.length_cons]; omega
        have f3 : (((t :: ts).map mk).drop (1 : Int).toNat) = ts.map mk := rfl
        have f4 : rdOf ByteArray.empty ((t :: ts).map mk) 0 = mk t := rfl
        have f5 : (0 < (((t :: ts).map mk).length : Int)) := f2
        refine Ev.succ ?_
        simp only [filter_MatchesExtended.l0, e1, g1, e2, e3, e4, toList_star, bl_mk, hs, ↓reduceIte, f1, f2, f3, f4, f5, seek]
        refine Ev.bind (ascii_Same_ev (mk r) (mk t) hr.head ht.head) ?_
        simp only [bl_mk]
        cases same r t
        · simp only [Bool.false_eq_true, ↓reduceIte]
          rw [mk_size]
          by_cases h1 : t.length = 1
          · simp only [h1, show (((1 : Nat) : Int) = 1) from rfl, ↓reduceIte]; exact Ev.now _
          · simp only [h1, show ¬ ((t.length : Int) = 1) from by omega, ↓reduceIte]; exact iht ht.tail
        · simp only [↓reduceIte]; exact ih ts hr.tail ht.tail
theorem filter_MatchesExtended_ev (r t : ByteArray) (hr : r.size ≤ 4398046511104) (ht : t.size ≤ 4398046511104) : Ev (fun k => filter_MatchesExtended.f k r t) (mext (bl r) (bl t)) := by
  unfold filter_MatchesExtended.f mext
  simp only [split_Split_eq r (by omega), split_Split_eq t (by omega), Option.bind_some]
  refine Ev.bind (filter_Extended_ev r hr) ?_
  have sr : Small (split (bl r)) := split_small hr
  have st : Small (split (bl t)) := split_small ht
  cases ext (bl r)
  · simp only [Bool.false_eq_true, ↓reduceIte, Bool.false_and]
    refine Ev.succ ?_
    simp only [filter_MatchesExtended.j0, ↓reduceIte]; exact Ev.now _
  · simp only [↓reduceIte, Bool.true_and]
    cases hrs : split (bl r) with
    | nil => exact absurd hrs (split_ne _)
    | cons r0 rs =>
      cases hts : split (bl t) with
      | nil => exact absurd hts (split_ne _)
      | cons t0 ts =>
        rw [hrs] at sr; rw [hts] at st
        have g1 : (0 < (((r0 :: rs).map mk).length : Int)) := by rw [List.map_cons, List.length_cons]; omega
        have e2 : (1 ≤ (((r0 :: rs).map mk).length : Int)) := g1
        have e3 : (((r0 :: rs).map mk).drop (1 : Int).toNat) = rs.map mk := rfl
        have e4 : rdOf ByteArray.empty ((r0 :: rs).map mk) 0 = mk r0 := rfl
        have f2 : (1 ≤ (((t0 :: ts).map mk).length : Int)) := by rw [List.map_cons, List.length_cons]; omega
        have f3 : (((t0 :: ts).map mk).drop (1 : Int).toNat) = ts.map mk := rfl
        have f4 : rdOf ByteArray.empty ((t0 :: ts).map mk) 0 = mk t0 := rfl
        have f5 : (0 < (((t0 :: ts).map mk).length : Int)) := f2
        have rest : Ev (fun k => filter_MatchesExtended.j0 k ((r0 :: rs).map mk) ((t0 :: ts).map mk) false) (walk rs ts) := by
          refine Ev.succ ?_
          simp only [filter_MatchesExtended.j0, Bool.false_eq_true, ↓reduceIte, e2, e3, f2, f3]
          exact mext_l0 rs ts sr.tail st.tail
        simp only [g1, e4, f4, f5, ↓reduceIte, toList_star, bl_mk]
        by_cases hs : r0 = star
        · simp only [hs, ↓reduceIte, decide_true, Bool.true_or, Bool.true_and]
          rw [hs] at rest; exact rest
        · simp only [hs, ↓reduceIte, decide_false, Bool.false_or]
          refine Ev.bind (ascii_Same_ev (mk r0) (mk t0) sr.head st.head) ?_
          simp only [bl_mk]
          cases same r0 t0
          · simp only [Bool.not_false, Bool.false_and]
            refine Ev.succ ?_
            simp only [filter_MatchesExtended.j0, ↓reduceIte]; exact Ev.now _
          · simp only [Bool.not_true, Bool.true_and]; exact rest
/-! ### what the laws share -/
theorem law20_short_eq (s : ByteArray) : isoglosslaw20_short.f s = some (mk ((bl s).take 40)) := by
  unfold isoglosslaw20_short.f
  by_cases h : (s.size : Int) > 40
  · rw [if_pos h, if_pos (by omega), if_pos (by omega)]
    congr 1; apply bl_inj; rw [bl_extract, bl_mk]; simp
  · rw [if_neg h]
    congr 1; apply bl_inj; rw [bl_mk, List.take_of_length_le (by rw [bl_len]; omega)]
theorem take40 (s : Str) : (mk (s.take 40)).size ≤ 40 := by rw [mk_size, List.length_take]; omega
theorem law20_awake_ev : Ev (fun k => isoglosslaw20_awake.f k) true := by
  unfold isoglosslaw20_awake.f
  refine Ev.bind (filter_MatchesExtended_ev _ _ (by decide) (by decide)) ?_
  rw [show mext (bl ⟨#[100, 101, 45, 42, 45, 68, 69]⟩) (bl ⟨#[100, 101, 45, 76, 97, 116, 110, 45, 68, 69]⟩) = true from by decide +kernel]
  refine Ev.bind (filter_MatchesExtended_ev _ _ (by decide) (by decide)) ?_
  rw [show mext (bl ⟨#[100, 101, 45, 42, 45, 68, 69]⟩) (bl ⟨#[100, 101, 45, 68, 69, 45, 120, 45, 103, 111, 101, 116, 104, 101]⟩) = true from by decide +kernel]
  refine Ev.bind (filter_MatchesExtended_ev _ _ (by decide) (by decide)) ?_
  rw [show mext (bl ⟨#[100, 101, 45, 42, 45, 68, 69]⟩) (bl ⟨#[100, 101]⟩) = false from by decide +kernel]
  refine Ev.bind (filter_MatchesExtended_ev _ _ (by decide) (by decide)) ?_
  rw [show mext (bl ⟨#[100, 101, 45, 42, 45, 68, 69]⟩) (bl ⟨#[100, 101, 45, 120, 45, 68, 69]⟩) = false from by decide +kernel]
  exact Ev.now _
theorem size_app (a b : ByteArray) : (a ++ b).size = a.size + b.size := ByteArray.size_append
end Go.Proofs.Ytanahbcdilcmoaa.Iso
