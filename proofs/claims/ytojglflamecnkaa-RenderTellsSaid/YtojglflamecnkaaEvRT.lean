/- How tags are told, in plain words: the document's Case, and what is short. Conditions: texts have at most 2^42 bytes. -/
import Derived.Test.YtojglflamecnkaaEvR
import Derived.Test.YtojglflamecnkaaEvAll
import Derived.Test.YtojglflamecnkaaPx19
import Derived.Test.YtojglflamecnkaaPx21
import Derived.Test.YtojglflamecnkaaPx22
namespace Go.Proofs.Ytojglflamecnkaa.Iso
set_option linter.unusedSimpArgs false
set_option linter.unusedVariables false
set_option linter.unusedSectionVars false
open Go Go.RowKit Go.Proofs.YtojglflamecnkaaW.PrintWords Go.Proofs.Ytojglflamecnkaa.P
theorem ev_eq {α : Type} {g : Nat → Option α} {r : α} (h : ∀ k, g k = some r) : Ev g r := ⟨0, fun k _ => h k⟩
theorem cR_length : ∀ (s f : Bool) (ps : List Str), (cR s f ps).length = ps.length
  | _, _, [] => rfl
  | s, f, p :: ps => by simp only [cR, List.length_cons, cR_length]
theorem c1_two (s : Bool) (i : Nat) (p : Str) (h : (decide (i = 0) = false ∧ s = false) ∧ p.length = 2) : c1 s (decide (i = 0)) p = up (low p) := by
  unfold c1
  rw [h.1.1, h.1.2, h.2]
  rfl
theorem c1_four (s : Bool) (i : Nat) (p : Str) (h : (decide (i = 0) = false ∧ s = false) ∧ p.length = 4) : c1 s (decide (i = 0)) p = title (low p) := by
  unfold c1
  rw [h.1.1, h.1.2, h.2]
  rfl
theorem c1_no (s : Bool) (i : Nat) (p : Str) (h : decide (i = 0) = true ∨ s = true ∨ p.length ≠ 2 ∧ p.length ≠ 4) : c1 s (decide (i = 0)) p = low p := by
  unfold c1
  rcases h with h | h | ⟨h2, h4⟩
  · rw [h]; rfl
  · rw [h, Bool.not_true, Bool.and_false]; rfl
  · rw [if_neg h2, if_neg h4]
    split <;> rfl
section
variable (L : List Str) (hL : L.length ≤ 4398046511105) (hz : ∀ p ∈ L, p.length ≤ 4398046511104) (r : ByteArray)
include hL hz
theorem rc_put (i : Nat) (hi : i < L.length) (b : Bool) (R : List Str) (hR : R.length = i) (q : Str)
    (next : Ev (fun k => isoglossref08_Case.l0 k (L.map mk) ((R ++ [q]).map mk) b ((i + 1 : Nat) : Int)) r) :
    Ev (fun k => if (R.map mk).length < 8796093022208 then (isoglossref08_Case.l0 k (L.map mk) (R.map mk ++ [mk q]) b (wrap64 ((i : Int) + 1))) else none) r := by
  have hw : wrap64 ((i : Int) + 1) = ((i + 1 : Nat) : Int) := by unfold wrap64; omega
  have h1 : (R.map mk).length < 8796093022208 := by rw [List.length_map]; omega
  simp only [h1, ↓reduceIte, hw]
  rw [List.map_append] at next
  exact next
theorem rc_j2 (i : Nat) (p : Str) (hp : L[i]? = some p) (b : Bool) (R : List Str) (hR : R.length = i)
    (next : Ev (fun k => isoglossref08_Case.l0 k (L.map mk) ((R ++ [c1 b (decide (i = 0)) p]).map mk) b ((i + 1 : Nat) : Int)) r) :
    Ev (fun k => isoglossref08_Case.j2 k (L.map mk) (R.map mk) b (i : Int) (mk (low p)) (if (i : Int) > 0 then (if b = true then false else ((mk (low p)).size : Int) == 2) else false)) r := by
  have hi : i < L.length := (List.getElem?_eq_some_iff.1 hp).1
  have hpl := hz p (List.mem_of_getElem? hp)
  have hs : (mk (low p)).size = p.length := by rw [mk_size, low_length]
  have put := rc_put L hL hz r i hi b R hR
  refine Ev.succ ?_
  by_cases h0 : i = 0
  · have c : ¬ ((i : Int) > 0) := by omega
    simp only [isoglossref08_Case.j2, c, ↓reduceIte, Bool.false_eq_true]
    rw [c1_no b i p (Or.inl (by simp [h0]))] at next
    exact put _ next
  · have c : ((i : Int) > 0) := by omega
    have d0 : decide (i = 0) = false := by simp [h0]
    cases b with
    | true =>
      simp only [isoglossref08_Case.j2, c, ↓reduceIte, Bool.false_eq_true]
      rw [c1_no true i p (Or.inr (Or.inl rfl))] at next
      exact put _ next
    | false =>
      by_cases h2 : p.length = 2
      · have e : (((mk (low p)).size : Int) == 2) = true := by rw [hs, h2]; rfl
        rw [c1_two false i p ⟨⟨d0, rfl⟩, h2⟩] at next
        have hU := ref_Upper_ev (mk (low p)) (by rw [hs]; omega)
        rw [bl_mk] at hU
        have h4 : ¬ (((mk (up (low p))).size : Int) = 4) := by rw [mk_size, up_length, low_length, h2]; omega
        simp only [isoglossref08_Case.j2, c, e, ↓reduceIte, Bool.false_eq_true]
        refine Ev.bind hU ?_
        simp only [h4, ↓reduceIte]
        exact put _ next
      · have e : (((mk (low p)).size : Int) == 2) = false := by rw [hs, beq_eq_false_iff_ne]; omega
        simp only [isoglossref08_Case.j2, c, e, ↓reduceIte, Bool.false_eq_true]
        by_cases h4 : p.length = 4
        · have e4 : ((mk (low p)).size : Int) = 4 := by rw [hs, h4]; rfl
          rw [c1_four false i p ⟨⟨d0, rfl⟩, h4⟩] at next
          have hT := Title_ev (mk (low p)) (by rw [hs]; omega)
          rw [bl_mk] at hT
          simp only [e4, ↓reduceIte]
          exact Ev.bind hT (put _ next)
        · have e4 : ¬ (((mk (low p)).size : Int) = 4) := by rw [hs]; omega
          rw [c1_no false i p (Or.inr (Or.inr ⟨h2, h4⟩))] at next
          simp only [e4, ↓reduceIte]
          exact put _ next
theorem rc_l0 (hJ : ∀ R : List Str, R.map low = L.map low → (joinL R).length ≤ 140737488355328) : ∀ (t : List Str) (i : Nat) (b : Bool) (R : List Str), L.drop i = t → i ≤ L.length → R.length = i → R.map low = (L.take i).map low →
    Ev (fun k => isoglossref08_Case.l0 k (L.map mk) (R.map mk) b (i : Int)) (mk (joinL (R ++ cR b (decide (i = 0)) t))) := by
  intro t
  induction t with
  | nil =>
    intro i b R hd hi hR hl
    have g := List.drop_eq_nil_iff.1 hd
    have hlt : ¬ ((i : Int) < ((L.map mk).length : Int)) := by rw [List.length_map]; omega
    rw [List.take_of_length_le g] at hl
    refine Ev.succ ?_
    simp only [isoglossref08_Case.l0, hlt, ↓reduceIte]
    rw [cR, List.append_nil]
    exact Ev.bind (ref_Join_ev R (by omega) (hJ R hl)) (Ev.now _)
  | cons p t ih =>
    intro i b R hd hi hR hl
    have hp : L[i]? = some p := by
      have := congrArg (·[0]?) hd
      simpa using this
    have hlt := (List.getElem?_eq_some_iff.1 hp).1
    have hd2 : L.drop (i + 1) = t := by rw [← List.drop_drop, hd]; rfl
    have hpl := hz p (List.mem_of_getElem? hp)
    have hLow := ref_Lower_ev (mk p) (by rw [mk_size]; omega)
    rw [bl_mk] at hLow
    have hc : ((i : Int) < ((L.map mk).length : Int)) := by rw [List.length_map]; omega
    have hg := getMk L i p hp
    have ht : L.take (i + 1) = L.take i ++ [p] := by rw [List.take_add_one, hp]; rfl
    have next : ∀ b' : Bool, Ev (fun k => isoglossref08_Case.l0 k (L.map mk) ((R ++ [c1 b' (decide (i = 0)) p]).map mk) b' ((i + 1 : Nat) : Int)) (mk (joinL (R ++ c1 b' (decide (i = 0)) p :: cR b' false t))) := by
      intro b'
      have := ih (i + 1) b' (R ++ [c1 b' (decide (i = 0)) p]) hd2 (by omega) (by rw [List.length_append, hR]; rfl) (by rw [List.map_append, hl, ht, List.map_append, List.map_cons, List.map_nil, c1_low]; rfl)
      rw [show decide (i + 1 = 0) = false from by simp, List.append_assoc, List.singleton_append] at this
      exact this
    have j1 : ∀ b' : Bool, Ev (fun k => isoglossref08_Case.j1 k (L.map mk) (R.map mk) b' (i : Int)) (mk (joinL (R ++ c1 b' (decide (i = 0)) p :: cR b' false t))) := by
      intro b'
      refine Ev.succ ?_
      simp only [isoglossref08_Case.j1, show (0 : Int) ≤ (i : Int) from by omega, hc, hg, ↓reduceIte]
      refine Ev.bind hLow ?_
      have := rc_j2 L hL hz _ i p hp b' R hR (next b')
      by_cases h0 : (i : Int) > 0
      · simp only [h0, ↓reduceIte] at this ⊢
        cases b' <;> exact this
      · simp only [h0, ↓reduceIte] at this ⊢
        exact this
    refine Ev.succ ?_
    simp only [isoglossref08_Case.l0, hc, ↓reduceIte, show (0 : Int) ≤ (i : Int) from by omega, hg]
    rw [cR]
    cases b with
    | true =>
      simp only [↓reduceIte, Bool.true_or]
      exact j1 true
    | false =>
      have e : (((mk p).size : Int) == 1) = decide (p.length = 1) := by
        rw [mk_size]
        by_cases h1 : p.length = 1
        · rw [h1]; rfl
        · rw [decide_eq_false h1, beq_eq_false_iff_ne]; omega
      simp only [↓reduceIte, Bool.false_or, Bool.false_eq_true, e]
      exact j1 _
end
theorem piece_len {s : Str} {p : Str} (h : p ∈ split s) : p.length ≤ s.length := by
  obtain ⟨a, b, e⟩ := List.append_of_mem h
  have hj := join_split s
  rw [e] at hj
  have hl := congrArg List.length hj
  cases a with
  | nil => simp only [List.nil_append, joinL, List.length_append] at hl; omega
  | cons q a =>
    rw [joinL_append _ _ (by simp)] at hl
    simp only [tailJ, List.length_append, List.length_cons] at hl
    omega
theorem refCase_ev (s : ByteArray) (hn : s.size ≤ 4398046511104) : Ev (fun k => isoglossref08_Case.f k s) (mk (caseS (bl s))) := by
  unfold isoglossref08_Case.f
  refine Ev.bind (ref_Split_ev s hn) ?_
  have h1 := split_length (bl s)
  have hb := bl_len s
  have := rc_l0 (split (bl s)) (by omega) (fun p hp => by have := piece_len hp; omega) (fun R hR => ?_) (split (bl s)) 0 false [] rfl (Nat.zero_le _) rfl (by simp)
  · rw [List.nil_append] at this
    exact this
  · have e : low (joinL R) = low (bl s) := by rw [low_joinL, hR, ← low_joinL, join_split]
    have := congrArg List.length e
    rw [low_length, low_length] at this
    omega
def goS (n : Int) (L : List Str) : Nat → Nat → Nat
  | 0, i => i
  | d + 1, i => if ((joinL (L.take (i + 1))).length : Int) ≤ n then goS n L d (i + 1) else i
def backS (L : List Str) : Nat → Nat
  | 0 => 0
  | 1 => 1
  | k + 2 => if (L.getD (k + 1) []).length = 1 then backS L (k + 1) else k + 2
def cutS (n : Int) (L : List Str) : Nat := backS L (goS n L L.length 0)
def shortS (n : Int) (L : List Str) : Str := caseS (joinL (L.take (cutS n L)))
theorem backS_le (L : List Str) : ∀ k, backS L k ≤ k
  | 0 => Nat.le_refl _
  | 1 => Nat.le_refl _
  | k + 2 => by
    unfold backS
    split
    · exact Nat.le_succ_of_le (backS_le L (k + 1))
    · exact Nat.le_refl _
theorem goS_le (n : Int) (L : List Str) : ∀ d i, goS n L d i ≤ i + d
  | 0, i => Nat.le_refl _
  | d + 1, i => by
    unfold goS
    split
    · have := goS_le n L d (i + 1); omega
    · omega
section
variable (L : List Str) (hL : L.length ≤ 1000000) (hJ : (joinL L).length ≤ 4398046511104)
include hL hJ
theorem short_end (m : Nat) (hm : m ≤ L.length) : ((split_Join.f ((L.map mk).take m)).bind fun t => ((render_Case.f t).bind fun u => (some u))) = some (mk (caseS (joinL (L.take m)))) := by
  have h1 := joinL_len_take L m
  have e : (L.map mk).take m = (L.take m).map mk := by rw [List.map_take]
  rw [e, small_join _ (by omega) (by rw [List.length_take]; omega), Option.bind_some, case_eq _ (by rw [mk_size]; omega), bl_mk]
  rfl
theorem refshort_end (m : Nat) (hm : m ≤ L.length) : Ev (fun k => (isoglossref04_Join.f k ((L.map mk).take m)).bind fun t => ((isoglossref08_Case.f k t).bind fun u => (some u))) (mk (caseS (joinL (L.take m)))) := by
  have h1 := joinL_len_take L m
  have e : (L.map mk).take m = (L.take m).map mk := by rw [List.map_take]
  rw [e]
  refine Ev.bind (ref_Join_ev (L.take m) (by rw [List.length_take]; omega) (by omega)) ?_
  have := refCase_ev (mk (joinL (L.take m))) (by rw [mk_size]; omega)
  rw [bl_mk] at this
  exact Ev.bind this (Ev.now _)
theorem sz_at (i : Nat) (hi : i < L.length) : (rdOf ByteArray.empty (L.map mk) (i : Int)).size = (L.getD i []).length := by
  have hp : L[i]? = some L[i] := List.getElem?_eq_getElem hi
  rw [getMk L i _ hp, mk_size, List.getD_eq_getElem?_getD, hp]; rfl
theorem short_l1 : ∀ (m : Nat), m ≤ L.length → Ev (fun k => render_Short.l1 k (L.map mk) (m : Int)) (mk (caseS (joinL (L.take (backS L m))))) := by
  have fin : ∀ m : Nat, m ≤ L.length → (if 0 ≤ (m : Int) then (if (m : Int) ≤ ((L.map mk).length : Int) then ((split_Join.f ((L.map mk).take ((m : Int)).toNat)).bind fun t => ((render_Case.f t).bind fun u => (some u))) else none) else none) = some (mk (caseS (joinL (L.take m)))) := by
    intro m hm
    rw [if_pos (by omega), if_pos (by rw [List.length_map]; omega), Int.toNat_natCast, short_end L hL hJ m hm]
  intro m
  induction m with
  | zero =>
    intro hm
    refine Ev.succ ?_
    simp only [render_Short.l1, show ¬ (((0 : Nat) : Int) > 1) from by omega, if_false]
    exact ev_eq (fun k => fin 0 hm)
  | succ m ih =>
    intro hm
    refine Ev.succ ?_
    by_cases h1 : m = 0
    · subst h1
      simp only [render_Short.l1, show ¬ (((0 + 1 : Nat) : Int) > 1) from by omega, if_false]
      exact ev_eq (fun k => fin 1 hm)
    · have hw : wrap64 (((m + 1 : Nat) : Int) - 1) = (m : Int) := by unfold wrap64; omega
      have hz := sz_at L hL hJ m (by omega)
      obtain ⟨q, rfl⟩ : ∃ q, m = q + 1 := ⟨m - 1, by omega⟩
      simp only [render_Short.l1, show (((q + 1 + 1 : Nat) : Int) > 1) from by omega, if_true, hw, show (0 : Int) ≤ ((q + 1 : Nat) : Int) from by omega, show (((q + 1 : Nat) : Int) < ((L.map mk).length : Int)) from by rw [List.length_map]; omega, hz]
      unfold backS
      by_cases h2 : (L.getD (q + 1) []).length = 1
      · rw [if_pos h2]
        simp only [h2, show (((1 : Nat) : Int) = 1) from rfl, if_true]
        exact ih (by omega)
      · rw [if_neg h2]
        simp only [show ¬ (((L.getD (q + 1) []).length : Int) = 1) from by omega, if_false]
        exact ev_eq (fun k => fin (q + 1 + 1) hm)
theorem refshort_l1 : ∀ (m : Nat), m ≤ L.length → Ev (fun k => isoglossref08_Short.l1 k (L.map mk) (m : Int)) (mk (caseS (joinL (L.take (backS L m))))) := by
  have fin : ∀ m : Nat, m ≤ L.length → Ev (fun k => if 0 ≤ (m : Int) then (if (m : Int) ≤ ((L.map mk).length : Int) then ((isoglossref04_Join.f k ((L.map mk).take ((m : Int)).toNat)).bind fun t => ((isoglossref08_Case.f k t).bind fun u => (some u))) else none) else none) (mk (caseS (joinL (L.take m)))) := by
    intro m hm
    simp only [show (0 : Int) ≤ (m : Int) from by omega, show ((m : Int) ≤ ((L.map mk).length : Int)) from by rw [List.length_map]; omega, if_true, Int.toNat_natCast]
    exact refshort_end L hL hJ m hm
  intro m
  induction m with
  | zero =>
    intro hm
    refine Ev.succ ?_
    simp only [isoglossref08_Short.l1, show ¬ (((0 : Nat) : Int) > 1) from by omega, if_false]
    exact fin 0 hm
  | succ m ih =>
    intro hm
    refine Ev.succ ?_
    by_cases h1 : m = 0
    · subst h1
      simp only [isoglossref08_Short.l1, show ¬ (((0 + 1 : Nat) : Int) > 1) from by omega, if_false]
      exact fin 1 hm
    · have hw : wrap64 (((m + 1 : Nat) : Int) - 1) = (m : Int) := by unfold wrap64; omega
      have hz := sz_at L hL hJ m (by omega)
      obtain ⟨q, rfl⟩ : ∃ q, m = q + 1 := ⟨m - 1, by omega⟩
      simp only [isoglossref08_Short.l1, show (((q + 1 + 1 : Nat) : Int) > 1) from by omega, if_true, hw, show (0 : Int) ≤ ((q + 1 : Nat) : Int) from by omega, show (((q + 1 : Nat) : Int) < ((L.map mk).length : Int)) from by rw [List.length_map]; omega, hz]
      unfold backS
      by_cases h2 : (L.getD (q + 1) []).length = 1
      · rw [if_pos h2]
        simp only [h2, show (((1 : Nat) : Int) = 1) from rfl, if_true]
        exact ih (by omega)
      · rw [if_neg h2]
        simp only [show ¬ (((L.getD (q + 1) []).length : Int) = 1) from by omega, if_false]
        exact fin (q + 1 + 1) hm
def szI (L : List Str) (i : Nat) : Int := if i = 0 then -1 else ((joinL (L.take i)).length : Int)
theorem szI_next (i : Nat) (hi : i < L.length) : szI L (i + 1) = szI L i + (1 + ((L.getD i []).length : Int)) ∧ szI L (i + 1) = ((joinL (L.take (i + 1))).length : Int) := by
  have hp : L[i]? = some L[i] := List.getElem?_eq_getElem hi
  have ht : L.take (i + 1) = L.take i ++ [L[i]] := by rw [List.take_add_one, hp]; rfl
  have hg : L.getD i [] = L[i] := by rw [List.getD_eq_getElem?_getD, hp]; rfl
  refine ⟨?_, by unfold szI; rw [if_neg (by omega)]⟩
  unfold szI
  rw [if_neg (by omega), ht, hg]
  by_cases h0 : i = 0
  · subst h0
    simp only [List.take_zero, List.nil_append, joinL, tailJ, List.append_nil, ↓reduceIte]
    omega
  · rw [if_neg h0, joinL_append _ _ (fun hh => by have := congrArg List.length hh; rw [List.length_take, List.length_nil] at this; omega)]
    simp only [tailJ, List.append_nil, List.length_append, List.length_cons]
    omega
theorem short_l0 (n : Int) : ∀ (d i : Nat), d + i = L.length → Ev (fun k => render_Short.l0 k n (L.map mk) (i : Int) (szI L i)) (mk (caseS (joinL (L.take (backS L (goS n L d i)))))) := by
  intro d
  induction d with
  | zero =>
    intro i hi
    refine Ev.succ ?_
    simp only [render_Short.l0, show ¬ ((i : Int) < ((L.map mk).length : Int)) from by rw [List.length_map]; omega, if_false]
    refine Ev.succ ?_
    simp only [render_Short.j1]
    exact short_l1 L hL hJ i (by omega)
  | succ d ih =>
    intro i hi
    have hlt : i < L.length := by omega
    have hz := sz_at L hL hJ i hlt
    obtain ⟨h1, h2⟩ := szI_next L hL hJ i hlt
    have h3 := joinL_len_take L (i + 1)
    have h4 : -1 ≤ szI L i := by unfold szI; split <;> omega
    have hw : wrap64 ((i : Int) + 1) = ((i + 1 : Nat) : Int) := by unfold wrap64; omega
    have w1 : wrap64 (szI L i + 1) = szI L i + 1 := by unfold wrap64; omega
    have w2 : wrap64 ((szI L i + 1) + ((L.getD i []).length : Int)) = ((joinL (L.take (i + 1))).length : Int) := by unfold wrap64; omega
    have w3 : wrap64 (1 + ((L.getD i []).length : Int)) = 1 + ((L.getD i []).length : Int) := by unfold wrap64; omega
    have w4 : wrap64 (szI L i + (1 + ((L.getD i []).length : Int))) = szI L (i + 1) := by unfold wrap64; omega
    refine Ev.succ ?_
    simp only [render_Short.l0, show ((i : Int) < ((L.map mk).length : Int)) from by rw [List.length_map]; omega, show (0 : Int) ≤ (i : Int) from by omega, if_true, hz, hw, w1, w2, w3, w4]
    unfold goS
    by_cases c : ((joinL (L.take (i + 1))).length : Int) ≤ n
    · simp only [c, if_true]
      exact ih (i + 1) (by omega)
    · simp only [c, if_false]
      refine Ev.succ ?_
      simp only [render_Short.j1]
      exact short_l1 L hL hJ i (by omega)
theorem refshort_l0 (n : Int) : ∀ (d i : Nat), d + i = L.length → Ev (fun k => isoglossref08_Short.l0 k n (L.map mk) (i : Int)) (mk (caseS (joinL (L.take (backS L (goS n L d i)))))) := by
  intro d
  induction d with
  | zero =>
    intro i hi
    refine Ev.succ ?_
    simp only [isoglossref08_Short.l0, show ¬ ((i : Int) < ((L.map mk).length : Int)) from by rw [List.length_map]; omega, if_false]
    refine Ev.succ ?_
    simp only [isoglossref08_Short.j1]
    exact refshort_l1 L hL hJ i (by omega)
  | succ d ih =>
    intro i hi
    have hlt : i < L.length := by omega
    have h3 := joinL_len_take L (i + 1)
    have hw : wrap64 ((i : Int) + 1) = ((i + 1 : Nat) : Int) := by unfold wrap64; omega
    have e : (L.map mk).take (i + 1) = (L.take (i + 1)).map mk := by rw [List.map_take]
    have hj := ref_Join_ev (L.take (i + 1)) (by rw [List.length_take]; omega) (by omega)
    refine Ev.succ ?_
    simp only [isoglossref08_Short.l0, show ((i : Int) < ((L.map mk).length : Int)) from by rw [List.length_map]; omega, hw, show (0 : Int) ≤ ((i + 1 : Nat) : Int) from by omega, show (((i + 1 : Nat) : Int) ≤ ((L.map mk).length : Int)) from by rw [List.length_map]; omega, if_true, Int.toNat_natCast, e]
    refine Ev.bind hj ?_
    rw [mk_size]
    unfold goS
    by_cases c : ((joinL (L.take (i + 1))).length : Int) ≤ n
    · simp only [c, if_true]
      exact ih (i + 1) (by omega)
    · simp only [c, if_false]
      refine Ev.succ ?_
      simp only [isoglossref08_Short.j1]
      exact refshort_l1 L hL hJ i (by omega)
end
abbrev textsT (T : TG) : List Str := (subsT T).map bl
theorem textsT_mk (T : TG) : (textsT T).map mk = subsT T := map_mk_bl _
section
variable {T : TG} (f : FewS T) (h : TxtS T)
include f h
theorem texts_bound : (textsT T).length ≤ 1000000 ∧ (joinL (textsT T)).length ≤ 4398046511104 := by
  have h1 := f.small
  have h2 : (joinL ((subsT T).map bl)).length ≤ 1300000 := textT_len h f
  exact ⟨by rw [List.length_map]; omega, Nat.le_trans h2 (by decide)⟩
theorem lower_eq : render_Lower.f T.lang T.ext T.script T.region T.vars T.exts T.priv T.grand = some (mk (textT T)) := by
  obtain ⟨b1, b2⟩ := texts_bound f h
  unfold render_Lower.f
  have := small_join (textsT T) b2 (by omega)
  rw [textsT_mk] at this
  rw [f.tag, Option.bind_some, this, Option.bind_some]
theorem string_eq : render_String.f T.lang T.ext T.script T.region T.vars T.exts T.priv T.grand = some (mk (caseS (textT T))) := by
  obtain ⟨b1, b2⟩ := texts_bound f h
  unfold render_String.f
  rw [lower_eq f h, Option.bind_some, case_eq _ (by rw [mk_size]; exact b2), Option.bind_some, bl_mk]
theorem refstring_ev : Ev (fun k => isoglossref08_String.f k T.lang T.ext T.script T.region T.vars T.exts T.priv T.grand) (mk (caseS (textT T))) := by
  obtain ⟨b1, b2⟩ := texts_bound f h
  unfold isoglossref08_String.f
  refine Ev.bind f.ref (Ev.bind (fewS_joined f h) ?_)
  have := refCase_ev (mk (textT T)) (by rw [mk_size]; exact b2)
  rw [bl_mk] at this
  exact Ev.bind this (Ev.now _)
theorem short_ev (n : Int) : Ev (fun k => render_Short.f k T.lang T.ext T.script T.region T.vars T.exts T.priv T.grand n) (mk (shortS n (textsT T))) := by
  obtain ⟨b1, b2⟩ := texts_bound f h
  unfold render_Short.f
  rw [f.tag]
  have := short_l0 (textsT T) b1 b2 n (textsT T).length 0 rfl
  rw [textsT_mk] at this
  exact this
theorem refshort_ev (n : Int) : Ev (fun k => isoglossref08_Short.f k T.lang T.ext T.script T.region T.vars T.exts T.priv T.grand n) (mk (shortS n (textsT T))) := by
  obtain ⟨b1, b2⟩ := texts_bound f h
  unfold isoglossref08_Short.f
  have := refshort_l0 (textsT T) b1 b2 n (textsT T).length 0 rfl
  rw [textsT_mk] at this
  exact Ev.bind f.ref this
end
theorem string_none : render_String.f (⟨#[]⟩ : ByteArray) ([] : List ByteArray) (⟨#[]⟩ : ByteArray) (⟨#[]⟩ : ByteArray) ([] : List ByteArray) ([] : List S62) ([] : List ByteArray) (⟨#[]⟩ : ByteArray) = some (mk []) := by
  unfold render_String.f render_Lower.f
  have := small_join [] (by decide) (by decide)
  rw [List.map_nil] at this
  rw [none_sub, Option.bind_some, this, Option.bind_some, Option.bind_some, case_eq _ (by decide), Option.bind_some]
  congr 1
end Go.Proofs.Ytojglflamecnkaa.Iso
