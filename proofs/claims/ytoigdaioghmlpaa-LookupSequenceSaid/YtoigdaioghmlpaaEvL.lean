/- What split.Trim, the functions of the chapter lookup and of the document's answer come to, in plain words. Conditions: texts have at most 2^40 bytes, rows at most 2^20 texts. -/
import Derived.Test.YtoigdaioghmlpaaPlainL
import Derived.Test.YtoigdaioghmlpaaEvFF
import Derived.Test.YtoigdaioghmlpaaPx1
import Derived.Test.YtoigdaioghmlpaaPx2
import Derived.Test.YtoigdaioghmlpaaPx3
import Derived.Test.YtoigdaioghmlpaaPx4
import Derived.Test.YtoigdaioghmlpaaPx5
import Derived.Test.YtoigdaioghmlpaaPx8
namespace Go.Proofs.Ytoigdaioghmlpaa.Iso
set_option linter.unusedSimpArgs false
set_option linter.unusedVariables false
open Go Go.RowKit Go.Proofs.YtoigdaioghmlpaaW.PrintWords Go.Proofs.Ytoigdaioghmlpaa.P
/-! ### the last dash -/
def lastGo (s : Str) : Nat → Int
  | 0 => -1
  | n + 1 => if s[n]? = some 45 then (n : Int) else lastGo s n
theorem lastGo_spec (s : Str) : ∀ n, n ≤ s.length → (lastGo s n = -1 ∧ ∀ j, j < n → s[j]? ≠ some 45) ∨ ∃ m : Nat, m < n ∧ lastGo s n = m ∧ s[m]? = some 45 ∧ ∀ j, m < j → j < n → s[j]? ≠ some 45
  | 0, _ => .inl ⟨rfl, fun j h => by omega⟩
  | n + 1, hn => by
    unfold lastGo
    by_cases h : s[n]? = some 45
    · rw [if_pos h]
      exact .inr ⟨n, by omega, rfl, h, fun j h1 h2 => by omega⟩
    · rw [if_neg h]
      rcases lastGo_spec s n (by omega) with ⟨h1, h2⟩ | ⟨m, h1, h2, h3, h4⟩
      · refine .inl ⟨h1, fun j hj => ?_⟩
        by_cases e : j = n
        · rw [e]; exact h
        · exact h2 j (by omega)
      · refine .inr ⟨m, by omega, h2, h3, fun j hj1 hj2 => ?_⟩
        by_cases e : j = n
        · rw [e]; exact h
        · exact h4 j hj1 (by omega)
/-- A text has no dash, or is parted at its last one. -/
theorem last_cases (s : Str) : (lastGo s s.length = -1 ∧ noDash s) ∨ ∃ a b : Str, s = a ++ 45 :: b ∧ noDash b ∧ lastGo s s.length = a.length := by
  rcases lastGo_spec s s.length (Nat.le_refl _) with ⟨h1, h2⟩ | ⟨m, h1, h2, h3, h4⟩
  · left
    refine ⟨h1, fun c hc e => ?_⟩
    obtain ⟨i, hi, rfl⟩ := List.getElem_of_mem hc
    exact h2 i hi (by rw [List.getElem?_eq_getElem hi, e])
  · right
    refine ⟨s.take m, s.drop (m + 1), ?_, fun c hc e => ?_, ?_⟩
    · have h5 : s[m] = 45 := by rw [List.getElem?_eq_getElem h1] at h3; exact Option.some.inj h3
      rw [← h5, ← List.drop_eq_getElem_cons h1, List.take_append_drop]
    · obtain ⟨i, hi, rfl⟩ := List.getElem_of_mem hc
      rw [List.length_drop] at hi
      rw [List.getElem_drop] at e
      exact h4 (m + 1 + i) (by omega) (by omega) (by rw [List.getElem?_eq_getElem (by omega), e])
    · rw [h2, List.length_take, Nat.min_eq_left (by omega)]
theorem lastIndexByte_l0 (s : ByteArray) (hn : s.size ≤ 4398046511104) : ∀ i : Nat, i ≤ s.size → Ev (fun k => bytealg_LastIndexByteString.l0 k s 45 ((i : Int) - 1)) (lastGo (bl s) i)
  | 0, _ => by
    refine Ev.succ ?_
    simp only [bytealg_LastIndexByteString.l0, show ¬ (((0 : Nat) : Int) - 1 ≥ 0) from by omega, ↓reduceIte, lastGo]
    exact Ev.now _
  | i + 1, hi => by
    have h := lastIndexByte_l0 s hn i (by omega)
    have e : (((i + 1 : Nat) : Int) - 1) = (i : Int) := by omega
    rw [e]
    have hw : wrap64 ((i : Int) - 1) = (i : Int) - 1 := by unfold wrap64; omega
    obtain ⟨c, h1, h2⟩ := bt_is (s := s) (i := i) (by omega)
    refine Ev.succ ?_
    simp only [bytealg_LastIndexByteString.l0, show ((i : Int) ≥ 0) from by omega, show (0 : Int) ≤ (i : Int) from by omega, show ((i : Int) < (s.size : Int)) from by omega, h2, hw, ↓reduceIte, lastGo, h1]
    by_cases hc : c = 45
    · subst hc
      simp only [show (((45 : UInt8).toNat : Int) = 45) from rfl, ↓reduceIte]
      exact Ev.now _
    · have : ¬ ((c.toNat : Int) = 45) := fun h => hc (UInt8.toNat_inj.1 (by have : (45 : UInt8).toNat = 45 := rfl; omega))
      simp only [this, ↓reduceIte, show ¬ (some c = some (45 : UInt8)) from fun h => hc (Option.some.inj h)]
      exact h
theorem lastIndex_ev (s : ByteArray) (hn : s.size ≤ 4398046511104) : Ev (fun k => strings_LastIndex.f k s (⟨#[45]⟩ : ByteArray)) (lastGo (bl s) s.size) := by
  have h := lastIndexByte_l0 s hn s.size (Nat.le_refl _)
  unfold strings_LastIndex.f
  simp only [↓reduceIte, bytealg_LastIndexByteString.f]
  rw [show wrap64 ((s.size : Int) - 1) = (s.size : Int) - 1 from by unfold wrap64; omega]
  exact h
theorem lastIndex_mk (s : Str) (hn : s.length ≤ 4398046511104) : Ev (fun k => strings_LastIndex.f k (mk s) (⟨#[45]⟩ : ByteArray)) (lastGo s s.length) := by
  have := lastIndex_ev (mk s) hn
  rwa [bl_mk, mk_size] at this
/-! ### trimming -/
theorem split_one {s : Str} (h : noDash s) : split s = [s] := by rw [split_sp, sp_noDash _ _ h, List.nil_append]
theorem trim_none {s : Str} (h : noDash s) : trim s = [] := by
  unfold trim trimP; rw [split_one h]; rfl
theorem trimP_snoc (ps : List Str) (b : Str) : trimP (ps ++ [b]) = (dropR ps.reverse).reverse := by
  unfold trimP
  rw [List.reverse_append]; rfl
theorem split_last {a b : Str} (h : noDash b) : split (a ++ 45 :: b) = split a ++ [b] := by rw [split_append, split_one h]
theorem trim_l0 : ∀ (n : Nat) (s : Str), s.length ≤ n → n ≤ 4398046511104 → Ev (fun k => split_Trim.l0 k (mk s)) (mk (trim s))
  | n, s, hs, hn => by
    refine Ev.succ ?_
    simp only [split_Trim.l0]
    refine Ev.bind (lastIndex_mk s (by omega)) ?_
    rcases last_cases s with ⟨h1, h2⟩ | ⟨a, b, rfl, h2, h1⟩
    · rw [h1, trim_none h2]
      exact Ev.now _
    · rw [h1]
      have hl : (a ++ 45 :: b).length = a.length + b.length + 1 := by simp; omega
      have ex : (mk (a ++ 45 :: b)).extract 0 (a.length : Int).toNat = mk a := by
        refine bl_inj ?_
        rw [bl_extract, bl_mk, bl_mk]; simp
      simp only [show ¬ ((a.length : Int) < 0) from by omega, show (0 : Int) ≤ (a.length : Int) from by omega, mk_size, hl, show ((a.length : Int) ≤ ((a.length + b.length + 1 : Nat) : Int)) from by omega, ex, ↓reduceIte]
      refine Ev.bind (lastIndex_mk a (by omega)) ?_
      have ht : trim (a ++ 45 :: b) = joinL (dropR (split a).reverse).reverse := by
        unfold trim; rw [split_last h2, trimP_snoc]
      rcases last_cases a with ⟨g1, g2⟩ | ⟨a', c, rfl, g2, g1⟩
      · rw [g1, ht, split_one g2]
        simp only [show ((-1 : Int) < 0) from by omega, ↓reduceIte, List.reverse_singleton, dropR, joinL, tailJ, List.append_nil]
        exact Ev.now _
      · rw [g1, ht]
        have hl2 : (a' ++ 45 :: c).length = a'.length + c.length + 1 := by simp; omega
        have hw : wrap64 ((wrap64 (((a'.length + c.length + 1 : Nat) : Int) - (a'.length : Int))) - 1) = (c.length : Int) := by unfold wrap64; omega
        simp only [show ¬ ((a'.length : Int) < 0) from by omega, hl2, hw, ↓reduceIte]
        have hsp := split_last (a := a') g2
        have hne := split_ne a'
        obtain ⟨q, l, hq⟩ : ∃ q l, (split a').reverse = q :: l := by
          cases hr : (split a').reverse with
          | nil => exact absurd (List.reverse_eq_nil_iff.1 hr) hne
          | cons q l => exact ⟨q, l, rfl⟩
        rw [hsp, List.reverse_append, List.reverse_singleton, List.singleton_append, hq]
        unfold dropR
        by_cases h1 : c.length = 1
        · simp only [h1, show (((1 : Nat) : Int) = 1) from rfl, ↓reduceIte]
          have ih := trim_l0 (a' ++ 45 :: c).length (a' ++ 45 :: c) (Nat.le_refl _) (by omega)
          have e : trim (a' ++ 45 :: c) = joinL (dropR (q :: l)).reverse := by unfold trim; rw [hsp, trimP_snoc, hq]
          rw [← e]; exact ih
        · simp only [h1, show ¬ ((c.length : Int) = 1) from by omega, ↓reduceIte]
          have e : joinL (c :: q :: l).reverse = a' ++ 45 :: c := by
            rw [← hq, ← List.singleton_append, ← List.reverse_singleton, ← List.reverse_append, List.reverse_reverse, ← hsp, join_split]
          rw [e]; exact Ev.now _
termination_by _ s => s.length
decreasing_by simp_all; omega
theorem Trim_ev (s : Str) (hn : s.length ≤ 4398046511104) : Ev (fun k => split_Trim.f k (mk s)) (mk (trim s)) := trim_l0 _ s (Nat.le_refl _) hn
theorem ref_trim_l0 : ∀ (l : List Str), l.length ≤ 4398046511105 → (joinL l.reverse).length ≤ 4398046511104 → Ev (fun k => isoglossref04_Trim.l0 k (l.reverse.map mk)) (mk (joinL (dropR l).reverse))
  | [], _, hj => by
    refine Ev.succ ?_
    simp only [isoglossref04_Trim.l0, List.reverse_nil, List.map_nil, List.length_nil, show ¬ (((0 : Nat) : Int) > 1) from by omega, ↓reduceIte, dropR]
    exact Ev.bind (ref_Join_ev [] (by simp) (by simp [joinL])) (Ev.now _)
  | [p], _, hj => by
    refine Ev.succ ?_
    simp only [isoglossref04_Trim.l0, List.reverse_singleton, List.map_cons, List.map_nil, List.length_cons, List.length_nil, show ¬ (((0 + 1 : Nat) : Int) > 1) from by omega, ↓reduceIte, dropR]
    exact Ev.bind (ref_Join_ev [p] (by simp) (by rw [List.reverse_singleton] at hj; omega)) (Ev.now _)
  | p :: q :: l, hl, hj => by
    have hlen : (((p :: q :: l).reverse.map mk).length : Int) = (l.length : Int) + 2 := by rw [List.length_map, List.length_reverse, List.length_cons, List.length_cons]; omega
    simp only [List.length_cons] at hl
    have hw : wrap64 ((l.length : Int) + 2 - 1) = ((l.length + 1 : Nat) : Int) := by unfold wrap64; omega
    have hg : rdOf ByteArray.empty ((p :: q :: l).reverse.map mk) ((l.length + 1 : Nat) : Int) = mk p := by
      refine getMk _ _ _ ?_
      rw [List.reverse_cons, List.getElem?_append_right (by simp)]
      simp
    have htk : ((p :: q :: l).reverse.map mk).take (((l.length + 1 : Nat) : Int)).toNat = (q :: l).reverse.map mk := by
      rw [Int.toNat_natCast, List.reverse_cons, List.map_append, List.take_append_of_le_length (by simp), List.take_of_length_le (by simp)]
    refine Ev.succ ?_
    simp only [isoglossref04_Trim.l0, hlen, hw, hg, htk, show ((l.length : Int) + 2 > 1) from by omega, show (0 : Int) ≤ ((l.length + 1 : Nat) : Int) from by omega, show (((l.length + 1 : Nat) : Int) < (l.length : Int) + 2) from by omega, show (((l.length + 1 : Nat) : Int) ≤ (l.length : Int) + 2) from by omega, mk_size, ↓reduceIte]
    unfold dropR
    have hj2 : (joinL (q :: l).reverse).length ≤ (joinL (p :: q :: l).reverse).length := by
      rw [List.reverse_cons (a := p), joinL_append _ _ (by simp), List.length_append]; omega
    by_cases h1 : p.length = 1
    · simp only [h1, show (((1 : Nat) : Int) = 1) from rfl, ↓reduceIte]
      exact ref_trim_l0 (q :: l) (by simp; omega) (by omega)
    · simp only [h1, show ¬ ((p.length : Int) = 1) from by omega, ↓reduceIte]
      exact Ev.bind (ref_Join_ev _ (by simp; omega) (by omega)) (Ev.now _)
theorem prefix_join_le {a ps : List Str} (h : a <+: ps) : (joinL a).length ≤ (joinL ps).length := by
  by_cases ha : a = []
  · rw [ha]; simp [joinL]
  · rw [prefix_join h ha, List.length_append]; omega
theorem ref_Trim_ev (s : Str) (hn : s.length ≤ 4398046511104) : Ev (fun k => isoglossref04_Trim.f k (mk s)) (mk (trim s)) := by
  unfold isoglossref04_Trim.f
  have h1 := ref_Split_ev (mk s) hn
  rw [bl_mk] at h1
  refine Ev.bind h1 ?_
  have hl := split_length s
  have hne := split_ne s
  obtain ⟨b, l, hq⟩ : ∃ b l, (split s).reverse = b :: l := by
    cases hr : (split s).reverse with
    | nil => exact absurd (List.reverse_eq_nil_iff.1 hr) hne
    | cons q l => exact ⟨q, l, rfl⟩
  have hsp : split s = l.reverse ++ [b] := by rw [← List.reverse_reverse (split s), hq, List.reverse_cons]
  have hln : (split s).length = l.length + 1 := by rw [hsp]; simp
  have hw : wrap64 (((l.length + 1 : Nat) : Int) - 1) = (l.length : Int) := by unfold wrap64; omega
  have htk : ((split s).map mk).take ((l.length : Int)).toNat = l.reverse.map mk := by
    rw [Int.toNat_natCast, hsp, List.map_append, List.take_append_of_le_length (by simp), List.take_of_length_le (by simp)]
  simp only [List.length_map, hln, hw, htk, show (0 : Int) ≤ (l.length : Int) from by omega, show ((l.length : Int) ≤ ((l.length + 1 : Nat) : Int)) from by omega, ↓reduceIte]
  have hj : (joinL l.reverse).length ≤ s.length := by
    have := prefix_join_le (a := l.reverse) (ps := split s) (by rw [hsp]; exact List.prefix_append _ _)
    rwa [join_split] at this
  have h2 := ref_trim_l0 l (by omega) (by omega)
  have e : trim s = joinL (dropR l).reverse := by unfold trim; rw [hsp, trimP_snoc, List.reverse_reverse]
  rw [e]; exact h2
/-! ### sequences -/
theorem toList_nil (s : Str) : ((mk s).toList = ([] : List UInt8)) = (s = []) := by rw [bl_toList, bl_mk]
theorem seq_ev : ∀ (n : Nat) (s : Str), s.length ≤ n → n ≤ 4398046511104 → Ev (fun k => lookup_seq.f k (mk s)) ((seq s).map mk)
  | 0, s, hs, _ => by
    obtain rfl : s = [] := List.length_eq_zero_iff.1 (by omega)
    refine Ev.succ ?_
    simp only [lookup_seq.f, toList_nil, ↓reduceIte, seq_nil, List.map_nil]
    exact Ev.now _
  | n + 1, s, hs, hn => by
    refine Ev.succ ?_
    by_cases h : s = []
    · subst h
      simp only [lookup_seq.f, toList_nil, ↓reduceIte, seq_nil, List.map_nil]
      exact Ev.now _
    · have ht := trim_lt s h
      simp only [lookup_seq.f, toList_nil, h, mk_size, show s.length ≤ 140737488355328 from by omega, ↓reduceIte]
      refine Ev.bind (Trim_ev s (by omega)) ?_
      simp only [mk_size, ht, ↓reduceIte]
      rw [seq_cons s h, List.map_cons]
      exact Ev.bind (seq_ev n (trim s) (by omega) (by omega)) (Ev.now _)
theorem Seq_ev (s : Str) (hn : s.length ≤ 4398046511104) : Ev (fun k => lookup_seq.f k (mk s)) ((seq s).map mk) := seq_ev _ s (Nat.le_refl _) hn
theorem ref_seq_l0 : ∀ (n : Nat) (s : Str) (X : List ByteArray), s.length ≤ n → n + X.length ≤ 4398046511104 → Ev (fun k => isoglossref21_Sequence.l0 k (mk s) X) (X ++ (seq s).map mk)
  | 0, s, X, hs, _ => by
    obtain rfl : s = [] := List.length_eq_zero_iff.1 (by omega)
    refine Ev.succ ?_
    simp only [isoglossref21_Sequence.l0, toList_nil, ↓reduceIte, seq_nil, List.map_nil, List.append_nil]
    exact Ev.now _
  | n + 1, s, X, hs, hn => by
    refine Ev.succ ?_
    by_cases h : s = []
    · subst h
      simp only [isoglossref21_Sequence.l0, toList_nil, ↓reduceIte, seq_nil, List.map_nil, List.append_nil]
      exact Ev.now _
    · have ht := trim_lt s h
      simp only [isoglossref21_Sequence.l0, toList_nil, h, show X.length < 8796093022208 from by omega, ↓reduceIte]
      refine Ev.bind (ref_Trim_ev s (by omega)) ?_
      have := ref_seq_l0 n (trim s) (X ++ [mk s]) (by omega) (by simp; omega)
      rw [seq_cons s h]
      simpa using this
theorem ref_Seq_ev (s : Str) (hn : s.length ≤ 4398046511104) : Ev (fun k => isoglossref21_Sequence.f k (mk s)) ((seq s).map mk) := ref_seq_l0 s.length s [] (Nat.le_refl _) (by simpa using hn)
/-! ### which -/
def encW : Option (Nat × Nat) → Int × Int × Bool
  | none => (0, 0, false)
  | some (i, k) => ((i : Int), (k : Int), true)
theorem bl_lowL (p : ByteArray) : (lowL p).data.toList = low (bl p) := by
  unfold lowL
  show bl (mk _) = _
  rw [bl_mk]
  unfold low
  refine List.ext_getElem? fun i => ?_
  rw [List.getElem?_mapIdx, List.getElem?_map]
theorem findT_mk (ts : List Str) (x : Str) : findT (ts.map mk) (mk x) = findTag ts x := by
  unfold findT findTag
  rw [List.findIdx?_map]
  congr 1
  funext t
  simp only [Function.comp, bl_lowL, bl_mk, same]
  by_cases h : low t = low x
  · rw [decide_eq_true h, decide_eq_true h.symm]
  · rw [decide_eq_false h, decide_eq_false fun e => h e.symm]
theorem lookSeq_mk (ts xs : List Str) : (xs.map mk).findSome? (findT (ts.map mk)) = lookSeq ts xs := by
  unfold lookSeq
  rw [List.findSome?_map]
  congr 1
  funext x
  exact findT_mk ts x
theorem which_go (ts : List Str) : ∀ (rs : List Str) (i : Nat), (∀ r ∈ rs, r.length ≤ 4398046511104) → Ev (fun k => lookup_Which.go k (ts.map mk) i (rs.map mk)) (encW (whichI ts i rs))
  | [], i, _ => Ev.now _
  | r :: rs, i, hr => by
    have hr0 := hr r List.mem_cons_self
    have ih := which_go ts rs (i + 1) fun q hq => hr q (List.mem_cons_of_mem _ hq)
    simp only [List.map_cons, lookup_Which.go, toList_star, bl_mk]
    unfold whichI usable
    by_cases hs : r = star
    · subst hs
      simp only [↓reduceIte, ne_eq, not_true_eq_false, decide_false, Bool.and_false, Bool.false_eq_true]
      exact ih
    · simp only [hs, ↓reduceIte, ne_eq, not_false_eq_true, decide_true, Bool.and_true]
      have hb := filter_Basic_ev (mk r) hr0
      rw [bl_mk] at hb
      refine Ev.bind hb ?_
      cases basic r
      · simp only [Bool.false_eq_true, ↓reduceIte]; exact ih
      · simp only [↓reduceIte]
        refine Ev.bind (Seq_ev r hr0) ?_
        simp only [lookSeq_mk]
        cases lookSeq ts (seq r) with
        | some k => exact Ev.now _
        | none => exact ih
theorem Which_ev (rs ts : List Str) (hr : Fits 1000000 rs) (ht : Fits 1000000 ts) : Ev (fun k => lookup_Which.f k (rs.map mk) (ts.map mk)) (encW (which rs ts)) := by
  unfold lookup_Which.f
  have h1 := hr.1
  have h2 := ht.1
  have c : (∀ t ∈ ts.map mk, t.size ≤ 140737488355328) ∧ (ts.map mk).length ≤ 140737488355328 ∧ (rs.map mk).length ≤ 140737488355328 := by
    refine ⟨fun t h => ?_, by rw [List.length_map]; omega, by rw [List.length_map]; omega⟩
    obtain ⟨p, hp, rfl⟩ := List.mem_map.1 h
    have := ht.2 p hp
    rw [mk_size]; omega
  simp only [if_pos c]
  exact which_go ts rs 0 hr.2
theorem getD_mk (ts : List Str) (k : Nat) : rdOf ByteArray.empty (ts.map mk) (k : Int) = mk (ts.getD k []) := by
  unfold rdOf
  rw [Int.toNat_natCast, List.getD_eq_getElem?_getD, List.getElem?_map, List.getD_eq_getElem?_getD]
  cases ts[k]? <;> rfl
theorem which_lt {rs ts : List Str} {i k : Nat} (h : which rs ts = some (i, k)) : i < rs.length ∧ k < ts.length := by
  unfold which at h
  obtain ⟨_, r, h2, _, h4, _⟩ := whichI_some ts rs 0 i k h
  obtain ⟨x, _, hx⟩ := lookSeq_some h4
  obtain ⟨t, h5, _⟩ := findTag_some hx
  exact ⟨(List.getElem?_eq_some_iff.1 h2).1, (List.getElem?_eq_some_iff.1 h5).1⟩
theorem Lookup_ev (rs ts : List Str) (hr : Fits 1000000 rs) (ht : Fits 1000000 ts) (o : Str) : Ev (fun k => lookup_Lookup.f k (rs.map mk) (ts.map mk) (mk o)) (mk (lookup rs ts o)) := by
  unfold lookup_Lookup.f lookup
  refine Ev.bind (Which_ev rs ts hr ht) ?_
  cases h : which rs ts with
  | none => exact Ev.now _
  | some p =>
    obtain ⟨i, k⟩ := p
    obtain ⟨_, h2⟩ := which_lt h
    simp only [encW, ↓reduceIte, List.length_map, show (0 : Int) ≤ (k : Int) from by omega, show ((k : Int) < (ts.length : Int)) from by omega, getD_mk]
    exact Ev.now _
/-! ### the document's answer -/
theorem cmpSame (a b : Str) : (cmpL (low a) (low b) = 0) = (low a = low b) := propext (cmpL_zero _ _)
/-- The tags from place m on. -/
theorem ref_which_l2 (rs ts : List Str) (i : Nat) (L : List Str) (n : Nat) (x : Str) (hx : L[n]? = some x) (ht : Fits 1000000 ts) (hxl : x.length ≤ 4398046511104) (R : Int × Int × Bool)
    (hno : findTag ts x = none → Ev (fun k => isoglossref21_Which.l1 k (rs.map mk) (ts.map mk) i (L.map mk) (wrap64 ((n : Int) + 1))) R)
    (hyes : ∀ j, findTag ts x = some j → R = ((i : Int), (j : Int), true)) :
    ∀ (q : List Str) (m : Nat), ts.drop m = q → m ≤ ts.length → (∀ j, j < m → ∀ t, ts[j]? = some t → low x ≠ low t) → Ev (fun k => isoglossref21_Which.l2 k (rs.map mk) (ts.map mk) i (L.map mk) n m) R := by
  intro q
  have h1 := ht.1
  induction q with
  | nil =>
    intro m h hm hb
    have g := List.drop_eq_nil_iff.1 h
    refine Ev.succ ?_
    simp only [isoglossref21_Which.l2, List.length_map, show ¬ ((m : Int) < (ts.length : Int)) from by omega, ↓reduceIte]
    refine hno ?_
    unfold findTag
    refine List.findIdx?_eq_none_iff.2 fun t htm => ?_
    obtain ⟨j, hj, rfl⟩ := List.getElem_of_mem htm
    unfold same
    exact decide_eq_false (hb j (by omega) _ (List.getElem?_eq_getElem hj))
  | cons t q ih =>
    intro m h hm hb
    have hl := congrArg List.length h
    rw [List.length_drop, List.length_cons] at hl
    have htm : ts[m]? = some t := by
      have := congrArg (·[0]?) h
      simpa using this
    have hd : ts.drop (m + 1) = q := by rw [← List.drop_drop, h]; rfl
    have hn : n < L.length := (List.getElem?_eq_some_iff.1 hx).1
    refine Ev.succ ?_
    simp only [isoglossref21_Which.l2, List.length_map, show ((m : Int) < (ts.length : Int)) from by omega, show (0 : Int) ≤ (m : Int) from by omega, show (0 : Int) ≤ (n : Int) from by omega, show ((n : Int) < (L.length : Int)) from by omega, getMk ts m t htm, getMk L n x hx, ↓reduceIte]
    have htl := ht.2 t (List.mem_of_getElem? htm)
    have hc := ref_Compare_ev (mk t) (mk x) (by rw [mk_size]; omega) (by rw [mk_size]; omega)
    rw [bl_mk, bl_mk] at hc
    refine Ev.bind hc ?_
    simp only [cmpSame]
    by_cases e : low t = low x
    · simp only [e, ↓reduceIte]
      have hf : findTag ts x = some m := by
        unfold findTag
        refine List.findIdx?_eq_some_iff_getElem.2 ⟨by omega, ?_, fun j hj => ?_⟩
        · have : ts[m] = t := by have := htm; rw [List.getElem?_eq_getElem (by omega)] at this; exact Option.some.inj this
          rw [this]; unfold same; exact decide_eq_true e.symm
        · unfold same
          have := hb j hj _ (List.getElem?_eq_getElem (by omega))
          simpa using this
      rw [hyes m hf]
      exact Ev.now _
    · simp only [e, ↓reduceIte, wrap_lt (show m < ts.length from by omega) (by omega)]
      refine ih (m + 1) hd (by omega) fun j hj u hu => ?_
      by_cases e2 : j = m
      · rw [e2, htm] at hu
        rw [← Option.some.inj hu]; exact fun e3 => e e3.symm
      · exact hb j (by omega) u hu
theorem ref_which_l1 (rs ts : List Str) (i : Nat) (L : List Str) (ht : Fits 1000000 ts) (hL : ∀ x ∈ L, x.length ≤ 4398046511104) (hLn : L.length ≤ 4398046511104) (R : Int × Int × Bool)
    (hno : lookSeq ts L = none → Ev (fun k => isoglossref21_Which.l0 k (rs.map mk) (ts.map mk) (wrap64 ((i : Int) + 1))) R)
    (hyes : ∀ j, lookSeq ts L = some j → R = ((i : Int), (j : Int), true)) :
    ∀ (q : List Str) (n : Nat), L.drop n = q → n ≤ L.length → lookSeq ts (L.take n) = none → Ev (fun k => isoglossref21_Which.l1 k (rs.map mk) (ts.map mk) i (L.map mk) n) R := by
  intro q
  induction q with
  | nil =>
    intro n h hn hb
    have g := List.drop_eq_nil_iff.1 h
    refine Ev.succ ?_
    simp only [isoglossref21_Which.l1, List.length_map, show ¬ ((n : Int) < (L.length : Int)) from by omega, ↓reduceIte]
    rw [List.take_of_length_le g] at hb
    exact hno hb
  | cons x q ih =>
    intro n h hn hb
    have hl := congrArg List.length h
    rw [List.length_drop, List.length_cons] at hl
    have hx : L[n]? = some x := by
      have := congrArg (·[0]?) h
      simpa using this
    have hd : L.drop (n + 1) = q := by rw [← List.drop_drop, h]; rfl
    have htk : L.take (n + 1) = L.take n ++ [x] := by rw [List.take_add_one, hx]; rfl
    have hone : lookSeq ts (L.take (n + 1)) = findTag ts x := by
      rw [htk]
      unfold lookSeq at hb ⊢
      rw [List.findSome?_append, hb]
      simp only [List.findSome?_cons, List.findSome?_nil, Option.none_or]
      cases findTag ts x <;> rfl
    refine Ev.succ ?_
    simp only [isoglossref21_Which.l1, List.length_map, show ((n : Int) < (L.length : Int)) from by omega, ↓reduceIte]
    refine ref_which_l2 rs ts i L n x hx ht (hL x (List.mem_of_getElem? hx)) R (fun hf => ?_) (fun j hj => hyes j ?_) ts 0 rfl (by omega) (fun j hj => by omega)
    · have := ih (n + 1) hd (by omega) (hone.trans hf)
      rw [wrap_lt (show n < L.length from by omega) (by omega)]
      exact this
    · rw [← hj, ← hone]
      conv => lhs; rw [← List.take_append_drop (n + 1) L]
      unfold lookSeq at hone ⊢
      rw [List.findSome?_append, hone, hj]; rfl
theorem ref_which_l0 (rs ts : List Str) (hr : Fits 1000000 rs) (ht : Fits 1000000 ts) : ∀ (q : List Str) (i : Nat), rs.drop i = q → i ≤ rs.length → Ev (fun k => isoglossref21_Which.l0 k (rs.map mk) (ts.map mk) i) (encW (whichI ts i q)) := by
  intro q
  have h1 := hr.1
  induction q with
  | nil =>
    intro i h hi
    have g := List.drop_eq_nil_iff.1 h
    refine Ev.succ ?_
    simp only [isoglossref21_Which.l0, List.length_map, show ¬ ((i : Int) < (rs.length : Int)) from by omega, ↓reduceIte, whichI, encW]
    exact Ev.now _
  | cons r q ih =>
    intro i h hi
    have hl := congrArg List.length h
    rw [List.length_drop, List.length_cons] at hl
    have hri : rs[i]? = some r := by
      have := congrArg (·[0]?) h
      simpa using this
    have hd : rs.drop (i + 1) = q := by rw [← List.drop_drop, h]; rfl
    have hrl := hr.2 r (List.mem_of_getElem? hri)
    have hrec := ih (i + 1) hd (by omega)
    have hw := wrap_lt (show i < rs.length from by omega) (by omega)
    refine Ev.succ ?_
    simp only [isoglossref21_Which.l0, List.length_map, show ((i : Int) < (rs.length : Int)) from by omega, show (0 : Int) ≤ (i : Int) from by omega, getMk rs i r hri, ↓reduceIte]
    have hb := ref_Basic_ev (mk r) hrl
    rw [bl_mk] at hb
    refine Ev.bind hb ?_
    unfold whichI usable
    have skip : Ev (fun k => isoglossref21_Which.j1 k (rs.map mk) (ts.map mk) i true) (encW (whichI ts (i + 1) q)) := by
      refine Ev.succ ?_
      simp only [isoglossref21_Which.j1, ↓reduceIte, hw]
      exact hrec
    cases hbr : basic r
    · simp only [Bool.false_eq_true, ↓reduceIte, Bool.false_and]; exact skip
    · simp only [↓reduceIte, Bool.true_and, beq_star, bl_mk]
      by_cases hs : r = star
      · simp only [hs, decide_true, ne_eq, not_true_eq_false, decide_false, Bool.false_eq_true, ↓reduceIte]; exact skip
      · simp only [hs, decide_false, ne_eq, not_false_eq_true, decide_true, ↓reduceIte]
        refine Ev.succ ?_
        simp only [isoglossref21_Which.j1, Bool.false_eq_true, ↓reduceIte, List.length_map, show ((i : Int) < (rs.length : Int)) from by omega, show (0 : Int) ≤ (i : Int) from by omega, getMk rs i r hri]
        refine Ev.bind (ref_Seq_ev r hrl) ?_
        refine ref_which_l1 rs ts i (seq r) ht (fun x hx => by have := seq_le hx; omega) (by have := seq_length r.length r (Nat.le_refl _); omega) _ (fun hn => ?_) (fun j hj => ?_) (seq r) 0 rfl (by omega) rfl
        · rw [hn, hw]; exact hrec
        · rw [hj]; rfl
theorem ref_Which_ev (rs ts : List Str) (hr : Fits 1000000 rs) (ht : Fits 1000000 ts) : Ev (fun k => isoglossref21_Which.f k (rs.map mk) (ts.map mk)) (encW (which rs ts)) := ref_which_l0 rs ts hr ht rs 0 rfl (by omega)
/-! ### what the laws share -/
theorem law21_short_eq (s : ByteArray) : isoglosslaw21_short.f s = some (mk ((bl s).take 40)) := by
  unfold isoglosslaw21_short.f
  by_cases h : (s.size : Int) > 40
  · rw [if_pos h, if_pos (by omega), if_pos (by omega)]
    congr 1; apply bl_inj; rw [bl_extract, bl_mk]; simp
  · rw [if_neg h]
    congr 1; apply bl_inj; rw [bl_mk, List.take_of_length_le (by rw [bl_len]; omega)]
/-- A number's rest, from 0 on. -/
theorem law21_rest_eq (x : Int) (n : Nat) (h0 : 0 < n) (hn : n ≤ 4398046511104) : ∃ m : Nat, m < n ∧ isoglosslaw21_rest.f x (n : Int) = some (m : Int) := by
  have hp : (0 : Int) < (n : Int) := by omega
  have hne : ¬ ((n : Int) = 0) := by omega
  have h1 : Int.tmod x (n : Int) < (n : Int) := Int.tmod_lt_of_pos x hp
  have h2 : -(n : Int) < Int.tmod x (n : Int) := by
    have := Int.tmod_lt_of_pos (-x) hp
    rw [Int.neg_tmod] at this; omega
  have hw : wrap64 (Int.tmod x (n : Int) + (n : Int)) = Int.tmod x (n : Int) + (n : Int) := by unfold wrap64; omega
  unfold isoglosslaw21_rest.f
  rw [if_neg hne, hw]
  have h3 : 0 ≤ Int.tmod (Int.tmod x (n : Int) + (n : Int)) (n : Int) := Int.tmod_nonneg _ (by omega)
  have h4 : Int.tmod (Int.tmod x (n : Int) + (n : Int)) (n : Int) < (n : Int) := Int.tmod_lt_of_pos _ hp
  exact ⟨(Int.tmod (Int.tmod x (n : Int) + (n : Int)) (n : Int)).toNat, by omega, by congr 1; omega⟩
theorem Fits.of (ps : List Str) (h1 : ps.length ≤ 1000000) (h2 : ∀ p ∈ ps, p.length ≤ 4398046511104) : Fits 1000000 ps := ⟨h1, h2⟩
theorem fits_one {p : Str} (h : p.length ≤ 4398046511104) : Fits 1000000 [p] := ⟨by simp, fun q hq => by rw [List.mem_singleton.1 hq]; exact h⟩
theorem law21_awake_ev : Ev (fun k => isoglosslaw21_awake.f k) true := by
  unfold isoglosslaw21_awake.f
  have h1 := Lookup_ev [[122, 104, 45, 72, 97, 110, 116, 45, 67, 78, 45, 120, 45, 112, 114, 105, 118, 97, 116, 101, 49]] [[122, 104], [122, 104, 45, 104, 97, 110, 116]] (fits_one (by decide)) ⟨by simp, fun q hq => by
    rcases List.mem_cons.1 hq with rfl | hq
    · decide
    · rw [List.mem_singleton.1 hq]; decide⟩ [101, 110]
  rw [show lookup [[122, 104, 45, 72, 97, 110, 116, 45, 67, 78, 45, 120, 45, 112, 114, 105, 118, 97, 116, 101, 49]] [[122, 104], [122, 104, 45, 104, 97, 110, 116]] [101, 110] = [122, 104, 45, 104, 97, 110, 116] from by decide +kernel] at h1
  refine Ev.bind h1 ?_
  have h2 := Lookup_ev [star] [[122, 104]] (fits_one (by decide)) (fits_one (by decide)) [101, 110]
  rw [show lookup [star] [[122, 104]] [101, 110] = [101, 110] from by decide +kernel] at h2
  simp only [bl_toList, bl_mk, ↓reduceIte]
  exact Ev.bind h2 (Ev.now _)
end Go.Proofs.Ytoigdaioghmlpaa.Iso
