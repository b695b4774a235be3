/- What filter.Filter, FilterExtended, the document's Filter, Few and Same come to, in plain words. Conditions: texts have at most 2^42 bytes, rows at most 2^40 texts. -/
import Derived.Test.YtanahbcdilcmoaaEvFR
import Derived.Test.YtanahbcdilcmoaaPx12
import Derived.Test.YtanahbcdilcmoaaPx13
namespace Go.Proofs.Ytanahbcdilcmoaa.Iso
set_option linter.unusedSimpArgs false
set_option linter.unusedVariables false
open Go Go.RowKit Go.Proofs.YtanahbcdilcmoaaW.PrintWords Go.Proofs.Ytanahbcdilcmoaa.P
theorem mkbl (l : List ByteArray) : (l.map bl).map mk = l := by
  rw [List.map_map]; conv => rhs; rw [← List.map_id l]
  exact List.map_congr_left fun s _ => mk_bl s
def cut40 (n : Nat) (l : List ByteArray) : List Str := (l.take n).map fun s => (bl s).take 40
theorem few_l0 (l : List ByteArray) (n : Nat) (hn : n ≤ 1000000) (m : Nat) : ∀ i : Nat, n ≤ i + m → i ≤ n →
    Ev (fun k => isoglossref20_Few.l0 k l (n : Int) ((cut40 i l).map mk) i) ((cut40 n l).map mk) := by
  induction m with
  | zero =>
    intro i h1 h2
    obtain rfl : i = n := by omega
    refine Ev.succ (Ev.succ ?_)
    have : Ev (fun k => isoglossref20_Few.j1 (k + 1) l (i : Int) ((cut40 i l).map mk) i false) ((cut40 i l).map mk) := by
      simp only [isoglossref20_Few.j1, Bool.false_eq_true, ↓reduceIte]; exact Ev.now _
    simp only [isoglossref20_Few.l0, show ¬ ((i : Int) < (i : Int)) from by omega, decide_false, ite_self]
    exact this
  | succ m ih =>
    intro i h1 h2
    have stop : Ev (fun k => isoglossref20_Few.j1 (k + 1) l (n : Int) ((cut40 i l).map mk) i false) ((cut40 i l).map mk) := by
      simp only [isoglossref20_Few.j1, Bool.false_eq_true, ↓reduceIte]; exact Ev.now _
    refine Ev.succ (Ev.succ ?_)
    by_cases hl : i < l.length
    · by_cases hin : i < n
      · have hg : rdOf ByteArray.empty l (i : Int) = l[i] := by
          unfold rdOf
          rw [Int.toNat_natCast, List.getD_eq_getElem?_getD, List.getElem?_eq_getElem hl]; rfl
        have hc : cut40 (i + 1) l = cut40 i l ++ [(bl l[i]).take 40] := by
          unfold cut40
          rw [List.take_add_one, List.getElem?_eq_getElem hl, List.map_append]; rfl
        have hrec := ih (i + 1) (by omega) (by omega)
        rw [hc, List.map_append] at hrec
        have hlen : ((cut40 i l).map mk).length < 8796093022208 := by
          rw [List.length_map]; unfold cut40; rw [List.length_map, List.length_take]; omega
        simp only [isoglossref20_Few.l0, isoglossref20_Few.j1, show ((i : Int) < (l.length : Int)) from by omega, show ((i : Int) < (n : Int)) from by omega, decide_true, show (0 : Int) ≤ (i : Int) from by omega, hg, hlen, ↓reduceIte, wrap_lt hin (by omega)]
        by_cases h40 : (l[i].size : Int) > 40
        · simp only [h40, show (40 : Int) ≤ (l[i].size : Int) from by omega, show (0 : Int) ≤ 40 from by omega, ↓reduceIte]
          have e : l[i].extract 0 40 = mk ((bl l[i]).take 40) := by apply bl_inj; rw [bl_extract, bl_mk]; simp
          rw [e]; exact hrec
        · simp only [h40, ↓reduceIte]
          have e : mk ((bl l[i]).take 40) = l[i] := by
            apply bl_inj; rw [bl_mk, List.take_of_length_le (by rw [bl_len]; omega)]
          simp only [List.map_cons, List.map_nil, e] at hrec
          exact hrec
      · have hc : cut40 n l = cut40 i l := by rw [show n = i from by omega]
        simp only [isoglossref20_Few.l0, show ((i : Int) < (l.length : Int)) from by omega, show ¬ ((i : Int) < (n : Int)) from by omega, decide_false, ↓reduceIte]
        rw [hc]; exact stop
    · have hc : cut40 n l = cut40 i l := by
        unfold cut40; rw [List.take_of_length_le (by omega), List.take_of_length_le (by omega)]
      simp only [isoglossref20_Few.l0, show ¬ ((i : Int) < (l.length : Int)) from by omega, ↓reduceIte]
      rw [hc]; exact stop
theorem Few_ev (l : List ByteArray) (n : Nat) (hn : n ≤ 1000000) : Ev (fun k => isoglossref20_Few.f k l (n : Int)) ((cut40 n l).map mk) := by
  have := few_l0 l n hn n 0 (by omega) (by omega)
  simpa [cut40, isoglossref20_Few.f] using this
/-- Texts in bounds. -/
def Fits (m : Nat) (ps : List Str) : Prop := ps.length ≤ m ∧ ∀ p ∈ ps, p.length ≤ 4398046511104
theorem cut40_fits (n : Nat) (l : List ByteArray) : Fits n (cut40 n l) := by
  refine ⟨by unfold cut40; rw [List.length_map, List.length_take]; omega, fun p hp => ?_⟩
  obtain ⟨s, _, rfl⟩ := List.mem_map.1 hp
  rw [List.length_take]; omega
theorem same_l0 (xs ys : List Str) (hn : xs.length ≤ 140737488355328) (hab : xs.length = ys.length) (t : List Str) : ∀ i : Nat, xs.drop i = t → i ≤ xs.length →
    Ev (fun k => isoglossref04_Same.l0 k (xs.map mk) (ys.map mk) i) (decide (xs.drop i = ys.drop i)) := by
  induction t with
  | nil =>
    intro i h h2
    have g := List.drop_eq_nil_iff.1 h
    refine Ev.succ ?_
    simp only [isoglossref04_Same.l0, List.length_map, show ¬ ((i : Int) < (xs.length : Int)) from by omega, ↓reduceIte]
    rw [List.drop_eq_nil_of_le g, List.drop_eq_nil_of_le (by omega)]
    exact Ev.now _
  | cons p t ih =>
    intro i h h2
    have hl := congrArg List.length h
    rw [List.length_drop, List.length_cons] at hl
    have ha : i < xs.length := by omega
    have hb : i < ys.length := by omega
    have hd : xs.drop (i + 1) = t := by rw [← List.drop_drop, h]; rfl
    refine Ev.succ ?_
    have ea := getMk xs i _ (List.getElem?_eq_getElem ha)
    have eb := getMk ys i _ (List.getElem?_eq_getElem hb)
    have et : ∀ x : Str, (mk x).toList = x := fun x => by rw [bl_toList, bl_mk]
    simp only [isoglossref04_Same.l0, List.length_map, show ((i : Int) < (xs.length : Int)) from by omega, show ((i : Int) < (ys.length : Int)) from by omega, show (0 : Int) ≤ (i : Int) from by omega, ea, eb, et, ↓reduceIte, wrap_lt ha hn]
    rw [List.drop_eq_getElem_cons ha, List.drop_eq_getElem_cons hb]
    by_cases he : xs[i] = ys[i]
    · simp only [he, ↓reduceIte, List.cons.injEq, true_and]; exact ih (i + 1) hd (by omega)
    · simp only [he, ↓reduceIte, List.cons.injEq, false_and, decide_false]; exact Ev.now _
theorem Same_ev (xs ys : List Str) (hn : xs.length ≤ 140737488355328) : Ev (fun k => isoglossref04_Same.f k (xs.map mk) (ys.map mk)) (decide (xs = ys)) := by
  unfold isoglossref04_Same.f
  by_cases hl : xs.length = ys.length
  · simp only [List.length_map, show ((xs.length : Int) = (ys.length : Int)) from by omega, ↓reduceIte]
    exact same_l0 xs ys hn hl xs 0 rfl (by omega)
  · simp only [List.length_map, show ¬ ((xs.length : Int) = (ys.length : Int)) from by omega, ↓reduceIte]
    rw [decide_eq_false (fun h => hl (by rw [h]))]
    exact Ev.now _
/-- The tags that some range lets through. -/
def sieve (m : Str → Str → Bool) (rs ts : List Str) : List Str := ts.filter fun t => rs.any fun r => m r t
theorem mk_len (p : Str) : (mk p).size = p.length := id rfl
theorem filter_through_string_string_l1 (rs ts : List Str) (hr : Fits 1000000 rs) (ht : Fits 1000000 ts) (X : List ByteArray) (i : Nat) (hi : i < ts.length) (t : Str) (hti : ts[i]? = some t) (R : List ByteArray) (hX : X.length < 8796093022208)
    (hyes : Ev (fun k => filter_through_string_string.l0 k (rs.map mk) (X ++ [mk t]) (ts.map mk) (ts.length : Int) ((i + 1 : Nat) : Int)) R → rs.any (fun r => mat r t) = true → True)
    (E1 : rs.any (fun r => mat r t) = true → Ev (fun k => filter_through_string_string.l0 k (rs.map mk) (X ++ [mk t]) (ts.map mk) (ts.length : Int) ((i + 1 : Nat) : Int)) R)
    (E2 : rs.any (fun r => mat r t) = false → Ev (fun k => filter_through_string_string.l0 k (rs.map mk) X (ts.map mk) (ts.length : Int) ((i + 1 : Nat) : Int)) R) (q : List Str) :
    ∀ j : Nat, rs.drop j = q → j ≤ rs.length → (rs.any (fun r => mat r t) = q.any (fun r => mat r t)) →
    Ev (fun k => filter_through_string_string.l1 k (rs.map mk) X (mk t) (ts.map mk) (ts.length : Int) (i : Int) (rs.map mk) (rs.length : Int) (j : Int)) R := by
  have hr1 := hr.1
  have ht1 := ht.1
  have wi := wrap_lt (show i < ts.length from hi) (by omega)
  induction q with
  | nil =>
    intro j h h2 h3
    have g := List.drop_eq_nil_iff.1 h
    refine Ev.succ ?_
    simp only [filter_through_string_string.l1, show ¬ ((j : Int) < (rs.length : Int)) from by omega, ↓reduceIte, wi]
    exact E2 h3
  | cons p q ih =>
    intro j h h2 h3
    have hl := congrArg List.length h
    rw [List.length_drop, List.length_cons] at hl
    have hj : j < rs.length := by omega
    have hp : rs[j]? = some p := by
      have := congrArg (·[0]?) h
      simpa using this
    have hd : rs.drop (j + 1) = q := by rw [← List.drop_drop, h]; rfl
    have eg := getMk rs j p hp
    have hpl : p.length ≤ 4398046511104 := hr.2 p (List.mem_of_getElem? hp)
    have htl : t.length ≤ 4398046511104 := ht.2 t (List.mem_of_getElem? hti)
    refine Ev.succ ?_
    simp only [filter_through_string_string.l1, List.length_map, show ((j : Int) < (rs.length : Int)) from by omega, show (0 : Int) ≤ (j : Int) from by omega, eg, ↓reduceIte, wi, hX, wrap_lt hj (by omega)]
    have hm := filter_Matches_ev (mk p) (mk t) hpl htl
    rw [bl_mk, bl_mk] at hm
    refine Ev.bind hm ?_
    rw [List.any_cons] at h3
    cases hb : mat p t
    · simp only [Bool.false_eq_true, ↓reduceIte]
      rw [hb, Bool.false_or] at h3
      exact ih (j + 1) hd (by omega) h3
    · simp only [↓reduceIte]
      rw [hb, Bool.true_or] at h3
      exact E1 h3
theorem filter_through_string_string_l0 (rs ts : List Str) (hr : Fits 1000000 rs) (ht : Fits 1000000 ts) (q : List Str) : ∀ (i : Nat), ts.drop i = q → i ≤ ts.length →
    Ev (fun k => filter_through_string_string.l0 k (rs.map mk) ((sieve mat rs (ts.take i)).map mk) (ts.map mk) (ts.length : Int) (i : Int)) ((sieve mat rs ts).map mk) := by
  have ht1 := ht.1
  induction q with
  | nil =>
    intro i h h2
    have g := List.drop_eq_nil_iff.1 h
    refine Ev.succ ?_
    simp only [filter_through_string_string.l0, show ¬ ((i : Int) < (ts.length : Int)) from by omega, ↓reduceIte]
    rw [List.take_of_length_le g]
    exact Ev.now _
  | cons t q ih =>
    intro i h h2
    have hl := congrArg List.length h
    rw [List.length_drop, List.length_cons] at hl
    have hi : i < ts.length := by omega
    have hti : ts[i]? = some t := by
      have := congrArg (·[0]?) h
      simpa using this
    have hd : ts.drop (i + 1) = q := by rw [← List.drop_drop, h]; rfl
    have hrec := ih (i + 1) hd (by omega)
    have hs : sieve mat rs (ts.take (i + 1)) = sieve mat rs (ts.take i) ++ (if rs.any (fun r => mat r t) then [t] else []) := by
      unfold sieve
      rw [List.take_add_one, hti, List.filter_append]
      congr 1
      simp [List.filter_cons]
    have hX : ((sieve mat rs (ts.take i)).map mk).length < 8796093022208 := by
      rw [List.length_map]
      have := List.length_filter_le (fun t => rs.any fun r => mat r t) (ts.take i)
      rw [List.length_take] at this
      unfold sieve; omega
    refine Ev.succ ?_
    simp only [filter_through_string_string.l0, List.length_map, show ((i : Int) < (ts.length : Int)) from by omega, show (0 : Int) ≤ (i : Int) from by omega, getMk ts i t hti, ↓reduceIte]
    refine filter_through_string_string_l1 rs ts hr ht _ i hi t hti _ hX (fun _ _ => trivial) (fun h1 => ?_) (fun h1 => ?_) rs 0 rfl (by omega) rfl
    · rw [hs, if_pos h1, List.map_append] at hrec; exact hrec
    · rw [hs, if_neg (by rw [h1]; simp), List.append_nil] at hrec; exact hrec
theorem filter_through_string_string_ev (rs ts : List Str) (hr : Fits 1000000 rs) (ht : Fits 1000000 ts) (b : Bool) : Ev (fun k => filter_through_string_string.f k (ts.map mk) (rs.map mk) b) ((sieve mat rs ts).map mk) := by
  have := filter_through_string_string_l0 rs ts hr ht ts 0 rfl (by omega)
  unfold filter_through_string_string.f
  rw [List.length_map]
  exact this
theorem filter_through2_l1 (rs ts : List Str) (hr : Fits 1000000 rs) (ht : Fits 1000000 ts) (X : List ByteArray) (i : Nat) (hi : i < ts.length) (t : Str) (hti : ts[i]? = some t) (R : List ByteArray) (hX : X.length < 8796093022208)
    (hyes : Ev (fun k => filter_through2.l0 k (rs.map mk) (X ++ [mk t]) (ts.map mk) (ts.length : Int) ((i + 1 : Nat) : Int)) R → rs.any (fun r => mext r t) = true → True)
    (E1 : rs.any (fun r => mext r t) = true → Ev (fun k => filter_through2.l0 k (rs.map mk) (X ++ [mk t]) (ts.map mk) (ts.length : Int) ((i + 1 : Nat) : Int)) R)
    (E2 : rs.any (fun r => mext r t) = false → Ev (fun k => filter_through2.l0 k (rs.map mk) X (ts.map mk) (ts.length : Int) ((i + 1 : Nat) : Int)) R) (q : List Str) :
    ∀ j : Nat, rs.drop j = q → j ≤ rs.length → (rs.any (fun r => mext r t) = q.any (fun r => mext r t)) →
    Ev (fun k => filter_through2.l1 k (rs.map mk) X (mk t) (ts.map mk) (ts.length : Int) (i : Int) (rs.map mk) (rs.length : Int) (j : Int)) R := by
  have hr1 := hr.1
  have ht1 := ht.1
  have wi := wrap_lt (show i < ts.length from hi) (by omega)
  induction q with
  | nil =>
    intro j h h2 h3
    have g := List.drop_eq_nil_iff.1 h
    refine Ev.succ ?_
    simp only [filter_through2.l1, show ¬ ((j : Int) < (rs.length : Int)) from by omega, ↓reduceIte, wi]
    exact E2 h3
  | cons p q ih =>
    intro j h h2 h3
    have hl := congrArg List.length h
    rw [List.length_drop, List.length_cons] at hl
    have hj : j < rs.length := by omega
    have hp : rs[j]? = some p := by
      have := congrArg (·[0]?) h
      simpa using this
    have hd : rs.drop (j + 1) = q := by rw [← List.drop_drop, h]; rfl
    have eg := getMk rs j p hp
    have hpl : p.length ≤ 4398046511104 := hr.2 p (List.mem_of_getElem? hp)
    have htl : t.length ≤ 4398046511104 := ht.2 t (List.mem_of_getElem? hti)
    refine Ev.succ ?_
    simp only [filter_through2.l1, List.length_map, show ((j : Int) < (rs.length : Int)) from by omega, show (0 : Int) ≤ (j : Int) from by omega, eg, ↓reduceIte, wi, hX, wrap_lt hj (by omega)]
    have hm := filter_MatchesExtended_ev (mk p) (mk t) hpl htl
    rw [bl_mk, bl_mk] at hm
    refine Ev.bind hm ?_
    rw [List.any_cons] at h3
    cases hb : mext p t
    · simp only [Bool.false_eq_true, ↓reduceIte]
      rw [hb, Bool.false_or] at h3
      exact ih (j + 1) hd (by omega) h3
    · simp only [↓reduceIte]
      rw [hb, Bool.true_or] at h3
      exact E1 h3
theorem filter_through2_l0 (rs ts : List Str) (hr : Fits 1000000 rs) (ht : Fits 1000000 ts) (q : List Str) : ∀ (i : Nat), ts.drop i = q → i ≤ ts.length →
    Ev (fun k => filter_through2.l0 k (rs.map mk) ((sieve mext rs (ts.take i)).map mk) (ts.map mk) (ts.length : Int) (i : Int)) ((sieve mext rs ts).map mk) := by
  have ht1 := ht.1
  induction q with
  | nil =>
    intro i h h2
    have g := List.drop_eq_nil_iff.1 h
    refine Ev.succ ?_
    simp only [filter_through2.l0, show ¬ ((i : Int) < (ts.length : Int)) from by omega, ↓reduceIte]
    rw [List.take_of_length_le g]
    exact Ev.now _
  | cons t q ih =>
    intro i h h2
    have hl := congrArg List.length h
    rw [List.length_drop, List.length_cons] at hl
    have hi : i < ts.length := by omega
    have hti : ts[i]? = some t := by
      have := congrArg (·[0]?) h
      simpa using this
    have hd : ts.drop (i + 1) = q := by rw [← List.drop_drop, h]; rfl
    have hrec := ih (i + 1) hd (by omega)
    have hs : sieve mext rs (ts.take (i + 1)) = sieve mext rs (ts.take i) ++ (if rs.any (fun r => mext r t) then [t] else []) := by
      unfold sieve
      rw [List.take_add_one, hti, List.filter_append]
      congr 1
      simp [List.filter_cons]
    have hX : ((sieve mext rs (ts.take i)).map mk).length < 8796093022208 := by
      rw [List.length_map]
      have := List.length_filter_le (fun t => rs.any fun r => mext r t) (ts.take i)
      rw [List.length_take] at this
      unfold sieve; omega
    refine Ev.succ ?_
    simp only [filter_through2.l0, List.length_map, show ((i : Int) < (ts.length : Int)) from by omega, show (0 : Int) ≤ (i : Int) from by omega, getMk ts i t hti, ↓reduceIte]
    refine filter_through2_l1 rs ts hr ht _ i hi t hti _ hX (fun _ _ => trivial) (fun h1 => ?_) (fun h1 => ?_) rs 0 rfl (by omega) rfl
    · rw [hs, if_pos h1, List.map_append] at hrec; exact hrec
    · rw [hs, if_neg (by rw [h1]; simp), List.append_nil] at hrec; exact hrec
theorem filter_through2_ev (rs ts : List Str) (hr : Fits 1000000 rs) (ht : Fits 1000000 ts) (b : Bool) : Ev (fun k => filter_through2.f k (ts.map mk) (rs.map mk) b) ((sieve mext rs ts).map mk) := by
  have := filter_through2_l0 rs ts hr ht ts 0 rfl (by omega)
  unfold filter_through2.f
  rw [List.length_map]
  exact this
theorem Filter_ev (rs ts : List Str) (hr : Fits 1000000 rs) (ht : Fits 1000000 ts) : Ev (fun k => filter_Filter.f k (rs.map mk) (ts.map mk)) ((sieve mat rs ts).map mk) :=
  Ev.bind (filter_through_string_string_ev rs ts hr ht true) (Ev.now _)
theorem FilterExtended_ev (rs ts : List Str) (hr : Fits 1000000 rs) (ht : Fits 1000000 ts) : Ev (fun k => filter_FilterExtended.f k (rs.map mk) (ts.map mk)) ((sieve mext rs ts).map mk) :=
  Ev.bind (filter_through2_ev rs ts hr ht true) (Ev.now _)
end Go.Proofs.Ytanahbcdilcmoaa.Iso
