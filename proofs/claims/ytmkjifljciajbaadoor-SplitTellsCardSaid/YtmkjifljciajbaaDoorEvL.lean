/- What split.Trim, the functions of the chapter lookup and of the document's answer come to, in plain words. Conditions: texts have at most 2^40 bytes, rows at most 2^20 texts. -/
import Derived.Test.YtmkjifljciajbaaDoorPlainL
import Derived.Test.YtmkjifljciajbaaDoorEvFF
import Derived.Test.YtmkjifljciajbaaDoorPx1
import Derived.Test.YtmkjifljciajbaaDoorPx7
namespace Go.Proofs.YtmkjifljciajbaaDoor.Iso
set_option linter.unusedSimpArgs false
set_option linter.unusedVariables false
open Go Go.RowKit Go.Proofs.YtmkjifljciajbaaDoorW.PrintWords Go.Proofs.YtmkjifljciajbaaDoor.P
/-! ### the last dash -/
def lastGo (s : Str) : Nat → Int
  | 0 => -1
  | n + 1 => if s[n]? = some 45 then (n : Int) else lastGo s n
theorem lastGo_spec (s : Str) : ∀ n, n ≤ s.length → (lastGo s n = -1 ∧ ∀ j, j < n → s[j]? ≠ some 45) ∨ ∃ m : Nat, m < n ∧ lastGo s n = m ∧ s[m]? = some 45 ∧ ∀ j, m < j → j < n → s[j]? ≠ some 45
  | 0, _ => .inl ⟨rfl, fun j h => by omega⟩
  | n + 1, hn => by
    unfold lastGo
    by_cases h : s[n]? = some 45
    · rw [if_pos h]
      exact .inr ⟨n, by omega, rfl, h, fun j h1 h2 => by omega⟩
    · rw [if_neg h]
      rcases lastGo_spec s n (by omega) with ⟨h1, h2⟩ | ⟨m, h1, h2, h3, h4⟩
      · refine .inl ⟨h1, fun j hj => ?_⟩
        by_cases e : j = n
        · rw [e]; exact h
        · exact h2 j (by omega)
      · refine .inr ⟨m, by omega, h2, h3, fun j hj1 hj2 => ?_⟩
        by_cases e : j = n
        · rw [e]; exact h
        · exact h4 j hj1 (by omega)
/-- A text has no dash, or is parted at its last one. -/
theorem last_cases (s : Str) : (lastGo s s.length = -1 ∧ noDash s) ∨ ∃ a b : Str, s = a ++ 45 :: b ∧ noDash b ∧ lastGo s s.length = a.length := by
  rcases lastGo_spec s s.length (Nat.le_refl _) with ⟨h1, h2⟩ | ⟨m, h1, h2, h3, h4⟩
  · left
    refine ⟨h1, fun c hc e => ?_⟩
    obtain ⟨i, hi, rfl⟩ := List.getElem_of_mem hc
    exact h2 i hi (by rw [List.getElem?_eq_getElem hi, e])
  · right
    refine ⟨s.take m, s.drop (m + 1), ?_, fun c hc e => ?_, ?_⟩
    · have h5 : s[m] = 45 := by rw [List.getElem?_eq_getElem h1] at h3; exact Option.some.inj h3
      rw [← h5, ← List.drop_eq_getElem_cons h1, List.take_append_drop]
    · obtain ⟨i, hi, rfl⟩ := List.getElem_of_mem hc
      rw [List.length_drop] at hi
      rw [List.getElem_drop] at e
      exact h4 (m + 1 + i) (by omega) (by omega) (by rw [List.getElem?_eq_getElem (by omega), e])
    · rw [h2, List.length_take, Nat.min_eq_left (by omega)]
theorem lastIndexByte_l0 (s : ByteArray) (hn : s.size ≤ 4398046511104) : ∀ i : Nat, i ≤ s.size → Ev (fun k => bytealg_LastIndexByteString.l0 k s 45 ((i : Int) - 1)) (lastGo (bl s) i)
  | 0, _ => by
    refine Ev.succ ?_
    simp only [bytealg_LastIndexByteString.l0, show ¬ (((0 : Nat) : Int) - 1 ≥ 0) from by omega, ↓reduceIte, lastGo]
    exact Ev.now _
  | i + 1, hi => by
    have h := lastIndexByte_l0 s hn i (by omega)
    have e : (((i + 1 : Nat) : Int) - 1) = (i : Int) := by omega
    rw [e]
    have hw : wrap64 ((i : Int) - 1) = (i : Int) - 1 := by unfold wrap64; omega
    obtain ⟨c, h1, h2⟩ := bt_is (s := s) (i := i) (by omega)
    refine Ev.succ ?_
    simp only [bytealg_LastIndexByteString.l0, show ((i : Int) ≥ 0) from by omega, show (0 : Int) ≤ (i : Int) from by omega, show ((i : Int) < (s.size : Int)) from by omega, h2, hw, ↓reduceIte, lastGo, h1]
    by_cases hc : c = 45
    · subst hc
      simp only [show (((45 : UInt8).toNat : Int) = 45) from rfl, ↓reduceIte]
      exact Ev.now _
    · have : ¬ ((c.toNat : Int) = 45) := fun h => hc (UInt8.toNat_inj.1 (by have : (45 : UInt8).toNat = 45 := rfl; omega))
      simp only [this, ↓reduceIte, show ¬ (some c = some (45 : UInt8)) from fun h => hc (Option.some.inj h)]
      exact h
theorem lastIndex_ev (s : ByteArray) (hn : s.size ≤ 4398046511104) : Ev (fun k => strings_LastIndex.f k s (⟨#[45]⟩ : ByteArray)) (lastGo (bl s) s.size) := by
  have h := lastIndexByte_l0 s hn s.size (Nat.le_refl _)
  unfold strings_LastIndex.f
  simp only [↓reduceIte, bytealg_LastIndexByteString.f]
  rw [show wrap64 ((s.size : Int) - 1) = (s.size : Int) - 1 from by unfold wrap64; omega]
  exact h
theorem lastIndex_mk (s : Str) (hn : s.length ≤ 4398046511104) : Ev (fun k => strings_LastIndex.f k (mk s) (⟨#[45]⟩ : ByteArray)) (lastGo s s.length) := by
  have := lastIndex_ev (mk s) hn
  rwa [bl_mk, mk_size] at this
/-! ### trimming -/
theorem split_one {s : Str} (h : noDash s) : split s = [s] := by rw [split_sp, sp_noDash _ _ h, List.nil_append]
theorem trim_none {s : Str} (h : noDash s) : trim s = [] := by
  unfold trim trimP; rw [split_one h]; rfl
theorem trimP_snoc (ps : List Str) (b : Str) : trimP (ps ++ [b]) = (dropR ps.reverse).reverse := by
  unfold trimP
  rw [List.reverse_append]; rfl
theorem split_last {a b : Str} (h : noDash b) : split (a ++ 45 :: b) = split a ++ [b] := by rw [split_append, split_one h]
theorem trim_l0 : ∀ (n : Nat) (s : Str), s.length ≤ n → n ≤ 4398046511104 → Ev (fun k => split_Trim.l0 k (mk s)) (mk (trim s))
  | n, s, hs, hn => by
    refine Ev.succ ?_
    simp only [split_Trim.l0]
    refine Ev.bind (lastIndex_mk s (by omega)) ?_
    rcases last_cases s with ⟨h1, h2⟩ | ⟨a, b, rfl, h2, h1⟩
    · rw [h1, trim_none h2]
      exact Ev.now _
    · rw [h1]
      have hl : (a ++ 45 :: b).length = a.length + b.length + 1 := by simp; omega
      have ex : (mk (a ++ 45 :: b)).extract 0 (a.length : Int).toNat = mk a := by
        refine bl_inj ?_
        rw [bl_extract, bl_mk, bl_mk]; simp
      simp only [show ¬ ((a.length : Int) < 0) from by omega, show (0 : Int) ≤ (a.length : Int) from by omega, mk_size, hl, show ((a.length : Int) ≤ ((a.length + b.length + 1 : Nat) : Int)) from by omega, ex, ↓reduceIte]
      refine Ev.bind (lastIndex_mk a (by omega)) ?_
      have ht : trim (a ++ 45 :: b) = joinL (dropR (split a).reverse).reverse := by
        unfold trim; rw [split_last h2, trimP_snoc]
      rcases last_cases a with ⟨g1, g2⟩ | ⟨a', c, rfl, g2, g1⟩
      · rw [g1, ht, split_one g2]
        simp only [show ((-1 : Int) < 0) from by omega, ↓reduceIte, List.reverse_singleton, dropR, joinL, tailJ, List.append_nil]
        exact Ev.now _
      · rw [g1, ht]
        have hl2 : (a' ++ 45 :: c).length = a'.length + c.length + 1 := by simp; omega
        have hw : wrap64 ((wrap64 (((a'.length + c.length + 1 : Nat) : Int) - (a'.length : Int))) - 1) = (c.length : Int) := by unfold wrap64; omega
        simp only [show ¬ ((a'.length : Int) < 0) from by omega, hl2, hw, ↓reduceIte]
        have hsp := split_last (a := a') g2
        have hne := split_ne a'
        obtain ⟨q, l, hq⟩ : ∃ q l, (split a').reverse = q :: l := by
          cases hr : (split a').reverse with
          | nil => exact absurd (List.reverse_eq_nil_iff.1 hr) hne
          | cons q l => exact ⟨q, l, rfl⟩
        rw [hsp, List.reverse_append, List.reverse_singleton, List.singleton_append, hq]
        unfold dropR
        by_cases h1 : c.length = 1
        · simp only [h1, show (((1 : Nat) : Int) = 1) from rfl, ↓reduceIte]
          have ih := trim_l0 (a' ++ 45 :: c).length (a' ++ 45 :: c) (Nat.le_refl _) (by omega)
          have e : trim (a' ++ 45 :: c) = joinL (dropR (q :: l)).reverse := by unfold trim; rw [hsp, trimP_snoc, hq]
          rw [← e]; exact ih
        · simp only [h1, show ¬ ((c.length : Int) = 1) from by omega, ↓reduceIte]
          have e : joinL (c :: q :: l).reverse = a' ++ 45 :: c := by
            rw [← hq, ← List.singleton_append, ← List.reverse_singleton, ← List.reverse_append, List.reverse_reverse, ← hsp, join_split]
          rw [e]; exact Ev.now _
termination_by _ s => s.length
decreasing_by simp_all; omega
theorem Trim_ev (s : Str) (hn : s.length ≤ 4398046511104) : Ev (fun k => split_Trim.f k (mk s)) (mk (trim s)) := trim_l0 _ s (Nat.le_refl _) hn
theorem ref_trim_l0 : ∀ (l : List Str), l.length ≤ 4398046511105 → (joinL l.reverse).length ≤ 4398046511104 → Ev (fun k => isoglossref04_Trim.l0 k (l.reverse.map mk)) (mk (joinL (dropR l).reverse))
  | [], _, hj => by
    refine Ev.succ ?_
    simp only [isoglossref04_Trim.l0, List.reverse_nil, List.map_nil, List.length_nil, show ¬ (((0 : Nat) : Int) > 1) from by omega, ↓reduceIte, dropR]
    exact Ev.bind (ref_Join_ev [] (by simp) (by simp [joinL])) (Ev.now _)
  | [p], _, hj => by
    refine Ev.succ ?_
    simp only [isoglossref04_Trim.l0, List.reverse_singleton, List.map_cons, List.map_nil, List.length_cons, List.length_nil, show ¬ (((0 + 1 : Nat) : Int) > 1) from by omega, ↓reduceIte, dropR]
    exact Ev.bind (ref_Join_ev [p] (by simp) (by rw [List.reverse_singleton] at hj; omega)) (Ev.now _)
  | p :: q :: l, hl, hj => by
    have hlen : (((p :: q :: l).reverse.map mk).length : Int) = (l.length : Int) + 2 := by rw [List.length_map, List.length_reverse, List.length_cons, List.length_cons]; omega
    simp only [List.length_cons] at hl
    have hw : wrap64 ((l.length : Int) + 2 - 1) = ((l.length + 1 : Nat) : Int) := by unfold wrap64; omega
    have hg : rdOf ByteArray.empty ((p :: q :: l).reverse.map mk) ((l.length + 1 : Nat) : Int) = mk p := by
      refine getMk _ _ _ ?_
      rw [List.reverse_cons, List.getElem?_append_right (by simp)]
      simp
    have htk : ((p :: q :: l).reverse.map mk).take (((l.length + 1 : Nat) : Int)).toNat = (q :: l).reverse.map mk := by
      rw [Int.toNat_natCast, List.reverse_cons, List.map_append, List.take_append_of_le_length (by simp), List.take_of_length_le (by simp)]
    refine Ev.succ ?_
    simp only [isoglossref04_Trim.l0, hlen, hw, hg, htk, show ((l.length : Int) + 2 > 1) from by omega, show (0 : Int) ≤ ((l.length + 1 : Nat) : Int) from by omega, show (((l.length + 1 : Nat) : Int) < (l.length : Int) + 2) from by omega, show (((l.length + 1 : Nat) : Int) ≤ (l.length : Int) + 2) from by omega, mk_size, ↓reduceIte]
    unfold dropR
    have hj2 : (joinL (q :: l).reverse).length ≤ (joinL (p :: q :: l).reverse).length := by
      rw [List.reverse_cons (a := p), joinL_append _ _ (by simp), List.length_append]; omega
    by_cases h1 : p.length = 1
    · simp only [h1, show (((1 : Nat) : Int) = 1) from rfl, ↓reduceIte]
      exact ref_trim_l0 (q :: l) (by simp; omega) (by omega)
    · simp only [h1, show ¬ ((p.length : Int) = 1) from by omega, ↓reduceIte]
      exact Ev.bind (ref_Join_ev _ (by simp; omega) (by omega)) (Ev.now _)
theorem prefix_join_le {a ps : List Str} (h : a <+: ps) : (joinL a).length ≤ (joinL ps).length := by
  by_cases ha : a = []
  · rw [ha]; simp [joinL]
  · rw [prefix_join h ha, List.length_append]; omega
theorem ref_Trim_ev (s : Str) (hn : s.length ≤ 4398046511104) : Ev (fun k => isoglossref04_Trim.f k (mk s)) (mk (trim s)) := by
  unfold isoglossref04_Trim.f
  have h1 := ref_Split_ev (mk s) hn
  rw [bl_mk] at h1
  refine Ev.bind h1 ?_
  have hl := split_length s
  have hne := split_ne s
  obtain ⟨b, l, hq⟩ : ∃ b l, (split s).reverse = b :: l := by
    cases hr : (split s).reverse with
    | nil => exact absurd (List.reverse_eq_nil_iff.1 hr) hne
    | cons q l => exact ⟨q, l, rfl⟩
  have hsp : split s = l.reverse ++ [b] := by rw [← List.reverse_reverse (split s), hq, List.reverse_cons]
  have hln : (split s).length = l.length + 1 := by rw [hsp]; simp
  have hw : wrap64 (((l.length + 1 : Nat) : Int) - 1) = (l.length : Int) := by unfold wrap64; omega
  have htk : ((split s).map mk).take ((l.length : Int)).toNat = l.reverse.map mk := by
    rw [Int.toNat_natCast, hsp, List.map_append, List.take_append_of_le_length (by simp), List.take_of_length_le (by simp)]
  simp only [List.length_map, hln, hw, htk, show (0 : Int) ≤ (l.length : Int) from by omega, show ((l.length : Int) ≤ ((l.length + 1 : Nat) : Int)) from by omega, ↓reduceIte]
  have hj : (joinL l.reverse).length ≤ s.length := by
    have := prefix_join_le (a := l.reverse) (ps := split s) (by rw [hsp]; exact List.prefix_append _ _)
    rwa [join_split] at this
  have h2 := ref_trim_l0 l (by omega) (by omega)
  have e : trim s = joinL (dropR l).reverse := by unfold trim; rw [hsp, trimP_snoc, List.reverse_reverse]
  rw [e]; exact h2
/-! ### sequences -/
theorem toList_nil (s : Str) : ((mk s).toList = ([] : List UInt8)) = (s = []) := by rw [bl_toList, bl_mk]
/-! ### which -/
def encW : Option (Nat × Nat) → Int × Int × Bool
  | none => (0, 0, false)
  | some (i, k) => ((i : Int), (k : Int), true)
theorem getD_mk (ts : List Str) (k : Nat) : rdOf ByteArray.empty (ts.map mk) (k : Int) = mk (ts.getD k []) := by
  unfold rdOf
  rw [Int.toNat_natCast, List.getD_eq_getElem?_getD, List.getElem?_map, List.getD_eq_getElem?_getD]
  cases ts[k]? <;> rfl
theorem which_lt {rs ts : List Str} {i k : Nat} (h : which rs ts = some (i, k)) : i < rs.length ∧ k < ts.length := by
  unfold which at h
  obtain ⟨_, r, h2, _, h4, _⟩ := whichI_some ts rs 0 i k h
  obtain ⟨x, _, hx⟩ := lookSeq_some h4
  obtain ⟨t, h5, _⟩ := findTag_some hx
  exact ⟨(List.getElem?_eq_some_iff.1 h2).1, (List.getElem?_eq_some_iff.1 h5).1⟩
/-! ### the document's answer -/
theorem cmpSame (a b : Str) : (cmpL (low a) (low b) = 0) = (low a = low b) := propext (cmpL_zero _ _)
/-! ### what the laws share -/
theorem Fits.of (ps : List Str) (h1 : ps.length ≤ 1000000) (h2 : ∀ p ∈ ps, p.length ≤ 4398046511104) : Fits 1000000 ps := ⟨h1, h2⟩
theorem fits_one {p : Str} (h : p.length ≤ 4398046511104) : Fits 1000000 [p] := ⟨by simp, fun q hq => by rw [List.mem_singleton.1 hq]; exact h⟩
end Go.Proofs.YtmkjifljciajbaaDoor.Iso
