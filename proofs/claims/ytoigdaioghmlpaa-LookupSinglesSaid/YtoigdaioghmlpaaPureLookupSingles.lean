/- The law LookupSingles, in plain words: no tag that ends with a subtag of one byte is looked up by a longer range. No condition. -/
import Derived.Test.YtoigdaioghmlpaaEvL
import Derived.Test.YtoigdaioghmlpaaPx10
namespace Go.Proofs.Ytoigdaioghmlpaa.Iso
set_option linter.unusedSimpArgs false
set_option linter.unusedVariables false
open Go Go.RowKit Go.Proofs.YtoigdaioghmlpaaW.PrintWords Go.Proofs.Ytoigdaioghmlpaa.P
theorem word_ne {f : Bool} {p : Str} (h : word f p = true) : p ≠ [] := by
  rintro rfl
  cases f <;> revert h <;> decide
theorem wsG_ne : ∀ (f : Bool) (ps : List Str), wsG word f ps = true → ∀ p ∈ ps, p ≠ []
  | _, [], _, p, hp => by cases hp
  | f, q :: ps, h, p, hp => by
    simp only [wsG, Bool.and_eq_true] at h
    rcases List.mem_cons.1 hp with rfl | hp
    · exact word_ne h.1
    · exact wsG_ne false ps h.2 p hp
theorem usable_pieces {s : Str} (h : usable s = true) : ∀ p ∈ split s, noDash p ∧ p ≠ [] := by
  unfold usable basic at h
  simp only [Bool.and_eq_true, Bool.or_eq_true, decide_eq_true_eq] at h
  have h2 := h.1.resolve_left h.2
  exact fun p hp => ⟨split_noDash s p hp, wsG_ne true _ h2 p hp⟩
/-- The tag ends with a piece of one byte, ahead of the range's end, and is no single piece. -/
def isSingle (ps : List Str) (j : Nat) : Bool := decide (j + 1 < ps.length) && decide (0 < j) && decide ((ps.getD j []).length = 1)
theorem take_join {ps : List Str} (hp : ∀ p ∈ ps, noDash p) {i j : Nat} (hi : ps.take i ≠ []) (hj : ps.take j ≠ []) (h : joinL (ps.take i) = joinL (ps.take j)) : ps.take i = ps.take j := by
  have h1 := split_joinL (ps.take i) hi (fun p q => hp p (List.mem_of_mem_take q))
  have h2 := split_joinL (ps.take j) hj (fun p q => hp p (List.mem_of_mem_take q))
  rw [← h1, ← h2, h]
theorem single_mem {s : Str} (hu : usable s = true) {j : Nat} (hj : j < (split s).length) : joinL ((split s).take (j + 1)) ∈ seq s ↔ isSingle (split s) j = false := by
  have hp := usable_pieces hu
  have hne := split_ne s
  have hs : seq s = (iterR (split s).length (split s).reverse).map (fun m => joinL m.reverse) := by
    have := seq_pieces (split s).length (split s) (Nat.le_refl _) hp hne
    rwa [join_split] at this
  have htk : (split s).take (j + 1) ≠ [] := by
    intro e
    have := congrArg List.length e
    rw [List.length_take, List.length_nil] at this; omega
  have hmem : ∀ m, m ∈ iterR (split s).length (split s).reverse ↔ m <:+ (split s).reverse ∧ m ≠ [] ∧ (m = (split s).reverse ∨ GoodR m) := fun m => iterR_mem _ _ m (by simp)
  have hsuf : ((split s).take (j + 1)).reverse <:+ (split s).reverse := List.reverse_suffix.2 (List.take_prefix _ _)
  have hgood : (((split s).take (j + 1)).reverse = (split s).reverse ∨ GoodR ((split s).take (j + 1)).reverse) ↔ isSingle (split s) j = false := by
    have hx : (split s).take (j + 1) = (split s).take j ++ [(split s).getD j []] := by
      rw [List.take_add_one, List.getD_eq_getElem?_getD, List.getElem?_eq_getElem hj]; rfl
    unfold isSingle
    by_cases h1 : j + 1 < (split s).length
    · by_cases h2 : 0 < j
      · obtain ⟨q, l, hq⟩ : ∃ q l, ((split s).take j).reverse = q :: l := by
          cases hr : ((split s).take j).reverse with
          | nil =>
            have := congrArg List.length hr
            rw [List.length_reverse, List.length_take, List.length_nil] at this; omega
          | cons q l => exact ⟨q, l, rfl⟩
        have e : ((split s).take (j + 1)).reverse = (split s).getD j [] :: q :: l := by rw [hx, List.reverse_append, List.reverse_singleton, List.singleton_append, hq]
        have hnl : ¬ ((split s).take (j + 1)).reverse = (split s).reverse := fun h => by
          have := congrArg List.length h
          rw [List.length_reverse, List.length_reverse, List.length_take] at this; omega
        rw [e] at hnl
        simp only [e, hnl, false_or, GoodR, h1, h2, decide_true, Bool.true_and, decide_eq_false_iff_not, ne_eq]
      · have h0 : j = 0 := by omega
        have e : ((split s).take (j + 1)).reverse = [(split s).getD j []] := by rw [hx, h0]; rfl
        simp only [e, GoodR, or_true, h2, decide_false, Bool.and_false, Bool.false_and]
    · have e : (split s).take (j + 1) = split s := List.take_of_length_le (by omega)
      simp only [e, true_or, h1, decide_false, Bool.false_and]
  rw [← hgood, hs, List.mem_map]
  constructor
  · rintro ⟨m, hm, e⟩
    obtain ⟨h1, h2, h3⟩ := (hmem m).1 hm
    have hpre : m.reverse <+: split s := by
      have := List.reverse_prefix.2 h1
      rwa [List.reverse_reverse] at this
    have hmi : m.reverse = (split s).take m.reverse.length := List.prefix_iff_eq_take.1 hpre
    have hmn : (split s).take m.reverse.length ≠ [] := by rw [← hmi]; simpa using h2
    rw [hmi] at e
    have := take_join (fun p q => (hp p q).1) hmn htk e
    rw [← hmi] at this
    have e2 : m = ((split s).take (j + 1)).reverse := by rw [← this, List.reverse_reverse]
    rw [← e2]; exact h3
  · intro h
    refine ⟨((split s).take (j + 1)).reverse, (hmem _).2 ⟨hsuf, by simpa using htk, h⟩, by rw [List.reverse_reverse]⟩
theorem prefix_of {s x : Str} (h : x = s ∨ ∃ t, s = x ++ 45 :: t) : x = s.take x.length := by
  rcases h with rfl | ⟨t, rfl⟩
  · rw [List.take_length]
  · simp
theorem singles (s : Str) (j : Nat) (hj : j < (split s).length) : lookup [s] [joinL ((split s).take (j + 1))] (joinL ((split s).take (j + 1)) ++ [33]) = if usable s && !isSingle (split s) j then joinL ((split s).take (j + 1)) else joinL ((split s).take (j + 1)) ++ [33] := by
  have htk : (split s).take (j + 1) ≠ [] := by
    intro e
    have := congrArg List.length e
    rw [List.length_take, List.length_nil] at this; omega
  have htp : joinL ((split s).take (j + 1)) = s.take (joinL ((split s).take (j + 1))).length := by
    have := prefix_join (List.take_prefix (j + 1) (split s)) htk
    rw [join_split] at this
    exact List.prefix_iff_eq_take.1 ⟨_, this.symm⟩
  generalize ht : joinL ((split s).take (j + 1)) = t at *
  cases hu : usable s
  · have : lookup [s] [t] (t ++ [33]) = t ++ [33] := by unfold lookup which whichI; rw [hu]; rfl
    rw [this]; rfl
  · have hm := single_mem hu hj
    rw [ht] at hm
    have hl : lookup [s] [t] (t ++ [33]) = (lookSeq [t] (seq s)).elim (t ++ [33]) fun k => [t].getD k [] := by
      unfold lookup which whichI
      rw [hu]
      cases lookSeq [t] (seq s) <;> rfl
    rw [hl]
    cases hs : isSingle (split s) j
    · have hin := hm.2 hs
      cases hk : lookSeq [t] (seq s) with
      | none =>
        have := lookSeq_none.1 hk t hin
        exact absurd rfl (findTag_none this t (by simp))
      | some k =>
        obtain ⟨x, hx, hf⟩ := lookSeq_some hk
        obtain ⟨u, hu2, _⟩ := findTag_some hf
        have hk0 : k = 0 := by have := (List.getElem?_eq_some_iff.1 hu2).1; simpa using this
        subst hk0
        rfl
    · have hk : lookSeq [t] (seq s) = none := by
        refine lookSeq_none.2 fun x hx => ?_
        unfold findTag
        refine List.findIdx?_eq_none_iff.2 fun z hz => ?_
        rw [List.mem_singleton.1 hz]
        unfold same
        refine decide_eq_false fun e => ?_
        have hlen : x.length = t.length := by have := congrArg List.length e; rwa [low_length, low_length] at this
        have e1 := prefix_of (seq_mem hx).2
        have : x = t := by rw [e1, htp, hlen]
        rw [this] at hx
        have := hm.1 hx
        rw [hs] at this; cases this
      rw [hk]; rfl
theorem Ev.pos {α : Type} {c : Prop} [Decidable c] {f g : Nat → Option α} {r : α} (h : c) (H : Ev f r) : Ev (fun k => if c then f k else g k) r := by
  obtain ⟨K, hK⟩ := H
  exact ⟨K, fun k hk => (if_pos h).trans (hK k hk)⟩
theorem Ev.neg {α : Type} {c : Prop} [Decidable c] {f g : Nat → Option α} {r : α} (h : ¬ c) (H : Ev g r) : Ev (fun k => if c then f k else g k) r := by
  obtain ⟨K, hK⟩ := H
  exact ⟨K, fun k hk => (if_neg h).trans (hK k hk)⟩
theorem fin (t X : Str) (B : Bool) (h : X = t ∧ B = true ∨ X = t ++ [33] ∧ B = false) : Ev (fun _ : Nat => if (((mk X).toList == (mk t).toList) == B) = true then (if (mk X).toList = (mk t).toList then some true else some ((mk X).toList == (mk t ++ (⟨#[33]⟩ : ByteArray)).toList)) else some false) true := by
  have e33 : mk t ++ (⟨#[33]⟩ : ByteArray) = mk (t ++ [33]) := by rw [show (⟨#[33]⟩ : ByteArray) = mk [33] from rfl, mk_append]
  have hne : ¬ (t ++ [33] = t) := fun e => by have := congrArg List.length e; rw [List.length_append, List.length_singleton] at this; omega
  rw [e33]
  simp only [bl_toList, bl_mk]
  rcases h with ⟨rfl, rfl⟩ | ⟨rfl, rfl⟩
  · simp only [beq_self_eq_true, ↓reduceIte]; exact Ev.now _
  · have : ((t ++ [33]) == t) = false := beq_eq_false_iff_ne.2 hne
    simp only [this, beq_self_eq_true, ↓reduceIte, hne]; exact Ev.now _
theorem LookupSingles_pure (a : ByteArray) (n : Int) : Ev (fun k => isoglosslaw21_LookupSingles.f k a n) true := by
  unfold isoglosslaw21_LookupSingles.f
  refine Ev.bind law21_awake_ev ?_
  rw [law21_short_eq]
  refine Ev.bind (g := fun _ => some (mk ((bl a).take 40))) (Ev.now _) ?_
  have hs40 : ((bl a).take 40).length ≤ 40 := by rw [List.length_take]; omega
  generalize (bl a).take 40 = s at *
  have h1 := ref_Split_ev (mk s) (by rw [mk_size]; omega)
  rw [bl_mk] at h1
  refine Ev.bind h1 ?_
  have hsl := split_length s
  have hsp : 0 < (split s).length := List.length_pos_iff.2 (split_ne s)
  obtain ⟨j, hj, hjr⟩ := law21_rest_eq n (split s).length hsp (by omega)
  have hlm : (((split s).map mk).length : Int) = ((split s).length : Int) := by rw [List.length_map]
  rw [hlm, hjr]
  refine Ev.bind (g := fun _ => some (j : Int)) (Ev.now _) ?_
  have hw := wrap_lt (i := j) (n := 100) (by omega) (by omega)
  have hw2 : wrap64 (((j + 1 : Nat) : Int) - 1) = (j : Int) := by unfold wrap64; omega
  have htk : ((split s).map mk).take (((j + 1 : Nat) : Int)).toNat = ((split s).take (j + 1)).map mk := by rw [Int.toNat_natCast, List.map_take]
  rw [hw, hw2, htk]
  refine Ev.pos (by omega) (Ev.pos (by omega) ?_)
  have hjl := joinL_len_take (split s) (j + 1)
  rw [join_split] at hjl
  refine Ev.bind (ref_Join_ev ((split s).take (j + 1)) (by rw [List.length_take]; omega) (by omega)) ?_
  have hsing := singles s j hj
  have htl : (joinL ((split s).take (j + 1))).length ≤ 40 := by omega
  have hget : (split s)[j]? = some ((split s).getD j []) := by rw [List.getD_eq_getElem?_getD, List.getElem?_eq_getElem hj]; rfl
  have hgm := getMk (split s) j _ hget
  generalize ht : joinL ((split s).take (j + 1)) = t at *
  refine Ev.pos (by rw [mk_size]; omega) ?_
  have hL := Lookup_ev [s] [t] (fits_one (by omega)) (fits_one (by omega)) (t ++ [33])
  have e33 : mk t ++ (⟨#[33]⟩ : ByteArray) = mk (t ++ [33]) := by rw [show (⟨#[33]⟩ : ByteArray) = mk [33] from rfl, mk_append]
  rw [← e33] at hL
  refine Ev.bind hL ?_
  have hb := ref_Basic_ev (mk s) (by rw [mk_size]; omega)
  rw [bl_mk] at hb
  refine Ev.bind hb ?_
  rw [hsing, hgm, mk_size]
  have hst : ((mk s).toList = ([42] : List UInt8)) = (s = star) := by rw [bl_toList, bl_mk]; rfl
  unfold usable isSingle
  cases basic s with
  | false =>
    have fx := fin t (t ++ [33]) false (.inr ⟨rfl, rfl⟩)
    refine Ev.neg (by decide) ?_
    by_cases h3 : j + 1 < (split s).length
    · refine Ev.pos (by omega) ?_
      by_cases h4 : 0 < j
      · exact Ev.pos (by omega) (Ev.pos (by omega) (Ev.pos (by omega) (Ev.pos rfl fx)))
      · exact Ev.neg (by omega) (Ev.pos rfl fx)
    · exact Ev.neg (by omega) (Ev.pos rfl fx)
  | true =>
    refine Ev.pos rfl ?_
    by_cases h2 : s = star
    · have fx := fin t (t ++ [33]) false (.inr ⟨rfl, rfl⟩)
      rw [decide_eq_false (show ¬ (s ≠ star) from fun h => h h2)]
      by_cases h3 : j + 1 < (split s).length
      · refine Ev.pos (by omega) ?_
        by_cases h4 : 0 < j
        · exact Ev.pos (by omega) (Ev.pos (by omega) (Ev.pos (by omega) (Ev.pos rfl (Ev.pos (hst.mpr h2) fx))))
        · exact Ev.neg (by omega) (Ev.pos rfl (Ev.pos (hst.mpr h2) fx))
      · exact Ev.neg (by omega) (Ev.pos rfl (Ev.pos (hst.mpr h2) fx))
    · rw [decide_eq_true (show s ≠ star from h2)]
      by_cases h3 : j + 1 < (split s).length
      · rw [decide_eq_true h3]
        refine Ev.pos (by omega) ?_
        by_cases h4 : 0 < j
        · rw [decide_eq_true h4]
          refine Ev.pos (by omega) (Ev.pos (by omega) (Ev.pos (by omega) (Ev.pos rfl (Ev.neg (fun h => h2 (hst.mp h)) ?_))))
          by_cases h5 : ((split s).getD j []).length = 1
          · rw [decide_eq_true h5]
            exact fin t (t ++ [33]) _ (.inr ⟨rfl, by rw [h5]; rfl⟩)
          · rw [decide_eq_false h5]
            refine fin t t _ (.inl ⟨rfl, ?_⟩)
            have : ((((split s).getD j []).length : Int) == 1) = false := beq_eq_false_iff_ne.2 (by omega)
            rw [this]; rfl
        · rw [decide_eq_false h4]
          exact Ev.neg (by omega) (Ev.pos rfl (Ev.neg (fun h => h2 (hst.mp h)) (fin t t _ (.inl ⟨rfl, rfl⟩))))
      · rw [decide_eq_false h3]
        exact Ev.neg (by omega) (Ev.pos rfl (Ev.neg (fun h => h2 (hst.mp h)) (fin t t _ (.inl ⟨rfl, rfl⟩))))
end Go.Proofs.Ytoigdaioghmlpaa.Iso
namespace Go.Proofs.Ytoigdaioghmlpaa.Pure
open Go.RowKit Go.Proofs.Ytoigdaioghmlpaa.P Go.Proofs.YtoigdaioghmlpaaW.PrintWords
theorem LookupSingles : isoglosslaw21_LookupSingles.Pure := fun a n _ _ => (Iso.LookupSingles_pure a n).rounds
end Go.Proofs.Ytoigdaioghmlpaa.Pure
