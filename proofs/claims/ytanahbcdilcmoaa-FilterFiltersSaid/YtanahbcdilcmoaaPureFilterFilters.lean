/- The law FilterFilters, in plain words, for every input. No condition. -/
import Derived.Test.YtanahbcdilcmoaaEvFF
import Derived.Test.YtanahbcdilcmoaaPx14
namespace Go.Proofs.Ytanahbcdilcmoaa.Iso
set_option linter.unusedSimpArgs false
set_option linter.unusedVariables false
open Go Go.RowKit Go.Proofs.YtanahbcdilcmoaaW.PrintWords Go.Proofs.Ytanahbcdilcmoaa.P
def way (b : Bool) : Str → Str → Bool := if b then mext else mat
theorem ref_filter_l1 (b : Bool) (rs ts : List Str) (hr : Fits 1000000 rs) (ht : Fits 1000000 ts) (X : List ByteArray) (i : Nat) (hi : i < ts.length) (t : Str) (hti : ts[i]? = some t) (R : List ByteArray) (hX : X.length < 8796093022208)
    (E1 : rs.any (fun r => way b r t) = true → Ev (fun k => isoglossref20_Filter.l0 k (rs.map mk) (ts.map mk) b (X ++ [mk t]) ((i + 1 : Nat) : Int)) R)
    (E2 : rs.any (fun r => way b r t) = false → Ev (fun k => isoglossref20_Filter.l0 k (rs.map mk) (ts.map mk) b X ((i + 1 : Nat) : Int)) R) (q : List Str) :
    ∀ (j : Nat) (s : Bool), rs.drop j = q → j ≤ rs.length → (rs.any (fun r => way b r t) = (s || q.any (fun r => way b r t))) →
    Ev (fun k => isoglossref20_Filter.l1 k (rs.map mk) (ts.map mk) b X (i : Int) s (j : Int)) R := by
  have hr1 := hr.1
  have ht1 := ht.1
  have wi := wrap_lt (show i < ts.length from hi) (by omega)
  have et := getMk ts i t hti
  induction q with
  | nil =>
    intro j s h h2 h3
    have g := List.drop_eq_nil_iff.1 h
    refine Ev.succ ?_
    rw [List.any_nil, Bool.or_false] at h3
    simp only [isoglossref20_Filter.l1, List.length_map, show ¬ ((j : Int) < (rs.length : Int)) from by omega, show (0 : Int) ≤ (i : Int) from by omega, show ((i : Int) < (ts.length : Int)) from by omega, et, hX, ↓reduceIte, wi]
    cases s
    · simp only [Bool.false_eq_true, ↓reduceIte]; exact E2 h3
    · simp only [↓reduceIte]; exact E1 h3
  | cons p q ih =>
    intro j s h h2 h3
    have hl := congrArg List.length h
    rw [List.length_drop, List.length_cons] at hl
    have hj : j < rs.length := by omega
    have hp : rs[j]? = some p := by
      have := congrArg (·[0]?) h
      simpa using this
    have hd : rs.drop (j + 1) = q := by rw [← List.drop_drop, h]; rfl
    have eg := getMk rs j p hp
    have hpl : p.length ≤ 4398046511104 := hr.2 p (List.mem_of_getElem? hp)
    have htl : t.length ≤ 4398046511104 := ht.2 t (List.mem_of_getElem? hti)
    rw [List.any_cons] at h3
    refine Ev.succ ?_
    simp only [isoglossref20_Filter.l1, List.length_map, show ((j : Int) < (rs.length : Int)) from by omega, show (0 : Int) ≤ (j : Int) from by omega, show (0 : Int) ≤ (i : Int) from by omega, show ((i : Int) < (ts.length : Int)) from by omega, eg, et, ↓reduceIte, wrap_lt hj (by omega)]
    cases s
    · rw [Bool.false_or] at h3
      cases b
      · simp only [Bool.false_eq_true, ↓reduceIte]
        have hm := ref_Matches_ev (mk p) (mk t) hpl htl
        rw [bl_mk, bl_mk] at hm
        exact Ev.bind hm (ih (j + 1) _ hd (by omega) h3)
      · simp only [Bool.false_eq_true, ↓reduceIte]
        have hm := ref_MatchesExtended_ev (mk p) (mk t) hpl htl
        rw [bl_mk, bl_mk] at hm
        exact Ev.bind hm (ih (j + 1) _ hd (by omega) h3)
    · rw [Bool.true_or] at h3
      have := ih (j + 1) true hd (by omega) (by rw [h3]; rfl)
      simp only [↓reduceIte, ite_self]; exact this
theorem ref_filter_l0 (b : Bool) (rs ts : List Str) (hr : Fits 1000000 rs) (ht : Fits 1000000 ts) (q : List Str) : ∀ (i : Nat), ts.drop i = q → i ≤ ts.length →
    Ev (fun k => isoglossref20_Filter.l0 k (rs.map mk) (ts.map mk) b ((sieve (way b) rs (ts.take i)).map mk) (i : Int)) ((sieve (way b) rs ts).map mk) := by
  have ht1 := ht.1
  induction q with
  | nil =>
    intro i h h2
    have g := List.drop_eq_nil_iff.1 h
    refine Ev.succ ?_
    simp only [isoglossref20_Filter.l0, List.length_map, show ¬ ((i : Int) < (ts.length : Int)) from by omega, ↓reduceIte]
    rw [List.take_of_length_le g]
    exact Ev.now _
  | cons t q ih =>
    intro i h h2
    have hl := congrArg List.length h
    rw [List.length_drop, List.length_cons] at hl
    have hi : i < ts.length := by omega
    have hti : ts[i]? = some t := by
      have := congrArg (·[0]?) h
      simpa using this
    have hd : ts.drop (i + 1) = q := by rw [← List.drop_drop, h]; rfl
    have hrec := ih (i + 1) hd (by omega)
    have hs : sieve (way b) rs (ts.take (i + 1)) = sieve (way b) rs (ts.take i) ++ (if rs.any (fun r => way b r t) then [t] else []) := by
      unfold sieve
      rw [List.take_add_one, hti, List.filter_append]
      congr 1
      simp [List.filter_cons]
    have hX : ((sieve (way b) rs (ts.take i)).map mk).length < 8796093022208 := by
      rw [List.length_map]
      have := List.length_filter_le (fun t => rs.any fun r => way b r t) (ts.take i)
      rw [List.length_take] at this
      unfold sieve; omega
    refine Ev.succ ?_
    simp only [isoglossref20_Filter.l0, List.length_map, show ((i : Int) < (ts.length : Int)) from by omega, ↓reduceIte]
    refine ref_filter_l1 b rs ts hr ht _ i hi t hti _ hX (fun h1 => ?_) (fun h1 => ?_) rs 0 false rfl (by omega) (by rw [Bool.false_or])
    · rw [hs, if_pos h1, List.map_append] at hrec; exact hrec
    · rw [hs, if_neg (by rw [h1]; simp), List.append_nil] at hrec; exact hrec
theorem ref_Filter_ev (b : Bool) (rs ts : List Str) (hr : Fits 1000000 rs) (ht : Fits 1000000 ts) : Ev (fun k => isoglossref20_Filter.f k (rs.map mk) (ts.map mk) b) ((sieve (way b) rs ts).map mk) :=
  ref_filter_l0 b rs ts hr ht ts 0 rfl (by omega)
theorem mat_star (t : Str) : mat star t = true := by
  unfold mat
  rw [show basic star = true from by decide]
  simp
theorem Fits.le {m n : Nat} {ps : List Str} (h : Fits m ps) (k : m ≤ n) : Fits n ps := ⟨Nat.le_trans h.1 k, h.2⟩
theorem FilterFilters_pure (a b : List ByteArray) : Ev (fun k => isoglosslaw20_FilterFilters.f k a b) true := by
  unfold isoglosslaw20_FilterFilters.f
  refine Ev.bind law20_awake_ev ?_
  refine Ev.bind (Few_ev a 5 (by omega)) (Ev.bind (Few_ev b 8 (by omega)) ?_)
  have fr : Fits 1000000 (cut40 5 a) := (cut40_fits 5 a).le (by omega)
  have ft : Fits 1000000 (cut40 8 b) := (cut40_fits 8 b).le (by omega)
  generalize cut40 5 a = r at *
  generalize cut40 8 b = t at *
  have l1 : ∀ m : Str → Str → Bool, ∀ rs : List Str, (sieve m rs t).length ≤ 140737488355328 := fun m rs => by
    have := List.length_filter_le (fun t => rs.any fun r => m r t) t
    have h2 := ft.1
    unfold sieve; omega
  refine Ev.bind (Filter_ev r t fr ft) (Ev.bind (ref_Filter_ev false r t fr ft) (Ev.bind (Same_ev _ _ (l1 _ _)) ?_))
  refine Ev.bind (FilterExtended_ev r t fr ft) (Ev.bind (ref_Filter_ev true r t fr ft) (Ev.bind (Same_ev _ _ (l1 _ _)) ?_))
  have hs : Fits 1000000 [star] := ⟨by simp, fun p hp => by rw [List.mem_singleton.1 hp]; decide⟩
  have hn : Fits 1000000 [] := ⟨by simp, fun p hp => by cases hp⟩
  have ha : sieve mat [star] t = t := by
    unfold sieve
    simp [mat_star]
  have h1 := Filter_ev [star] t hs ft
  rw [ha] at h1
  refine Ev.bind h1 (Ev.bind (Same_ev t t (by have := ft.1; omega)) ?_)
  rw [decide_eq_true (show sieve mat r t = sieve (way false) r t from rfl), decide_eq_true (show sieve mext r t = sieve (way true) r t from rfl), decide_eq_true (rfl : t = t)]
  simp only [↓reduceIte]
  have h2 := Filter_ev [] t hn ft
  rw [show sieve mat [] t = [] from by unfold sieve; simp] at h2
  refine Ev.bind h2 ?_
  simp only [List.map_nil, List.length_nil, show (((0 : Nat) : Int) = 0) from rfl, ↓reduceIte]
  have h3 := FilterExtended_ev r [] fr hn
  exact Ev.bind h3 (Ev.now _)
end Go.Proofs.Ytanahbcdilcmoaa.Iso
namespace Go.Proofs.Ytanahbcdilcmoaa.Pure
open Go.RowKit Go.Proofs.Ytanahbcdilcmoaa.P Go.Proofs.YtanahbcdilcmoaaW.PrintWords
theorem FilterFilters (a b : List ByteArray) : ∃ k, isoglosslaw20_FilterFilters.f k a b = some true := (Iso.FilterFilters_pure a b).rounds
end Go.Proofs.Ytanahbcdilcmoaa.Pure
