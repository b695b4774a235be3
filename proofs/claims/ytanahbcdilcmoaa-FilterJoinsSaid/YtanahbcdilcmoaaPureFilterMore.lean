/- The law FilterMore, in plain words, for every input. Condition: as every argument, texts have at most 2^47 - 4096 bytes. -/
import Derived.Test.YtanahbcdilcmoaaEvF
import Derived.Test.YtanahbcdilcmoaaPx10
namespace Go.Proofs.Ytanahbcdilcmoaa.Iso
set_option linter.unusedSimpArgs false
set_option linter.unusedVariables false
open Go Go.RowKit Go.Proofs.YtanahbcdilcmoaaW.PrintWords Go.Proofs.Ytanahbcdilcmoaa.P
theorem word_star (b : Bool) {p : Str} (h : word b p = true) : ¬ p = star := by
  rintro rfl
  unfold word alpha alnum at h
  rw [show cls star = 0 from by decide] at h
  simp at h
theorem wsG_append (w : Bool → Str → Bool) : ∀ (b : Bool) (ps qs : List Str), ps ≠ [] → wsG w b (ps ++ qs) = (wsG w b ps && wsG w false qs)
  | b, [], _, h => absurd rfl h
  | b, [p], qs, _ => by simp [wsG]
  | b, p :: q :: ps, qs, _ => by
    have := wsG_append w false (q :: ps) qs (by simp)
    simp only [List.cons_append, wsG, Bool.and_assoc] at this ⊢
    rw [this]
theorem wsG_word2 : ∀ (b : Bool) (ps : List Str), wsG word b ps = true → wsG word2 b ps = true
  | _, [], _ => rfl
  | b, p :: ps, h => by
    simp only [wsG, Bool.and_eq_true, word2, Bool.or_eq_true] at h ⊢
    exact ⟨.inr h.1, wsG_word2 false ps h.2⟩
theorem basic_ext {s : Str} (h : basic s = true) : ext s = true := by
  unfold basic at h
  rw [Bool.or_eq_true] at h
  rcases h with h | h
  · have := of_decide_eq_true h; subst this; decide
  · exact wsG_word2 _ _ h
theorem seek_congr (r : Str) (a b : List Str → Bool) (h : ∀ ts, a ts = b ts) : ∀ ts, seek r a ts = seek r b ts := by
  have : a = b := funext h
  rw [this]; exact fun _ => rfl
theorem walk_star_end : ∀ (rs ts : List Str), walk (rs ++ [star]) ts = walk rs ts
  | [], ts => by simp [walk]
  | r :: rs, ts => by
    simp only [List.cons_append, walk]
    rw [walk_star_end rs, seek_congr r _ _ (walk_star_end rs)]
theorem ext_star_end (s : Str) : ext (s ++ 45 :: star) = ext s := by
  unfold ext
  rw [split_append, wsG_append _ _ _ _ (split_ne s)]
  rw [show wsG word2 false (split star) = true from by decide, Bool.and_true]
theorem mext_star_end (s t : Str) : mext (s ++ 45 :: star) t = mext s t := by
  unfold mext
  rw [ext_star_end, split_append, show split star = [star] from by decide]
  cases hq : split s with
  | nil => exact absurd hq (split_ne s)
  | cons r rs =>
    simp only [List.cons_append]
    cases split t with
    | nil => rfl
    | cons q qs => simp only [walk_star_end]
theorem noDash_star : noDash star := by intro c hc; rw [List.mem_singleton.1 hc]; decide
theorem mext_star_second (s t : Str) {r : Str} {rs : List Str} (h : split s = r :: rs) : mext (joinL (r :: star :: rs)) t = mext s t := by
  have hd := split_noDash s
  rw [h] at hd
  have hj : split (joinL (r :: star :: rs)) = r :: star :: rs := by
    refine split_joinL _ (by simp) fun p hp => ?_
    rcases List.mem_cons.1 hp with rfl | hp
    · exact hd _ List.mem_cons_self
    · rcases List.mem_cons.1 hp with rfl | hp
      · exact noDash_star
      · exact hd _ (List.mem_cons_of_mem _ hp)
  unfold mext ext
  rw [hj, h]
  have e : wsG word2 true (r :: star :: rs) = wsG word2 true (r :: rs) := by simp [wsG, word2]
  rw [e]
  cases split t with
  | nil => rfl
  | cons q qs => simp [walk]
theorem same_split {s t : Str} (h : same s t = true) : (split s).map low = (split t).map low := by
  have := of_decide_eq_true h
  rw [← split_low, ← split_low, this]
theorem walk_same : ∀ (rs ts us : List Str), rs.map low = ts.map low → wsG word false rs = true → walk rs (ts ++ us) = true
  | [], _, _, _, _ => rfl
  | r :: rs, [], _, h, _ => by simp at h
  | r :: rs, t :: ts, us, h, hw => by
    simp only [wsG, Bool.and_eq_true] at hw
    simp only [List.map_cons, List.cons.injEq] at h
    simp only [walk, List.cons_append, seek, word_star _ hw.1, ↓reduceIte]
    rw [if_pos (show same r t = true from decide_eq_true h.1)]
    exact walk_same rs ts us h.2 hw.2
theorem mext_of {s : Str} (t : Str) {a : Str} (us : List Str) (hb : wsG word true (split s) = true) (hs : same s a = true) (ht : split t = split a ++ us) : mext s t = true := by
  have he : ext s = true := wsG_word2 _ _ hb
  have hm := same_split hs
  unfold mext
  rw [he, ht]
  cases h1 : split s with
  | nil => exact absurd h1 (split_ne s)
  | cons r rs =>
    cases h2 : split a with
    | nil => exact absurd h2 (split_ne a)
    | cons q qs =>
      rw [h1, h2] at hm
      rw [h1] at hb
      simp only [List.map_cons, List.cons.injEq] at hm
      simp only [wsG, Bool.and_eq_true] at hb
      simp only [List.cons_append, Bool.true_and, Bool.and_eq_true, Bool.or_eq_true]
      exact ⟨.inr (decide_eq_true hm.1), walk_same rs qs us hm.2 hb.2⟩
theorem mext_star (t : Str) : mext star t = true := by
  unfold mext
  rw [show ext star = true from by decide, show split star = [star] from by decide]
  cases h : split t with
  | nil => exact absurd h (split_ne t)
  | cons q qs => simp [walk]
theorem mat_mext {s t : Str} (h : mat s t = true) : mext s t = true := by
  unfold mat at h
  simp only [Bool.and_eq_true, Bool.or_eq_true, decide_eq_true_eq] at h
  obtain ⟨hb, h⟩ := h
  by_cases hs : s = star
  · rw [hs]; exact mext_star t
  · have hw : wsG word true (split s) = true := by
      unfold basic at hb
      rw [decide_eq_false hs, Bool.false_or] at hb; exact hb
    rcases h with (h | h) | ⟨⟨h1, h2⟩, h3⟩
    · exact absurd h hs
    · exact mext_of t [] hw h (by simp)
    · refine mext_of t (split (t.drop (s.length + 1))) hw h2 ?_
      rw [← split_append]
      congr 1
      have h4 := List.take_append_drop s.length t
      rw [List.drop_eq_getElem_cons h1] at h4
      rw [List.getElem?_eq_getElem h1] at h3
      rw [Option.some.inj h3] at h4
      exact h4.symm
theorem FilterMore_pure (a b : ByteArray) : Ev (fun k => isoglosslaw20_FilterMore.f k a b) true := by
  unfold isoglosslaw20_FilterMore.f
  refine Ev.bind law20_awake_ev ?_
  simp only [law20_short_eq, Option.bind_some, ↓reduceIte]
  have ha := take40 (bl a); have hb := take40 (bl b)
  generalize mk ((bl a).take 40) = s at *
  generalize mk ((bl b).take 40) = t at *
  refine Ev.bind (ref_Split_ev s (by omega)) ?_
  have hl := split_length (bl s)
  have hj := join_split (bl s)
  have hm0 := mext_star_end (bl s) (bl t)
  cases hsp : split (bl s) with
  | nil => exact absurd hsp (split_ne _)
  | cons r rs =>
    have hm1 := mext_star_second (bl s) (bl t) hsp
    rw [hsp] at hl hj
    rw [bl_len, List.length_cons] at hl
    have e1 : (0 < (((r :: rs).map mk).length : Int)) := by rw [List.map_cons, List.length_cons]; omega
    have e2 : (1 ≤ (((r :: rs).map mk).length : Int)) := e1
    have e3 : rdOf ByteArray.empty ((r :: rs).map mk) 0 = mk r := rfl
    have e4 : ((r :: rs).map mk).drop 1 = rs.map mk := rfl
    have e5 : ([mk r, (⟨#[42]⟩ : ByteArray)] : List ByteArray).length + (rs.map mk).length < 8796093022208 := by
      rw [List.length_map]; simp only [List.length_cons, List.length_nil]; omega
    have e6 : ([mk r, (⟨#[42]⟩ : ByteArray)] : List ByteArray) ++ rs.map mk = (r :: star :: rs).map mk := rfl
    simp only [e1, e2, e3, e4, e5, e6, ↓reduceIte, Option.bind_some]
    refine Ev.bind (filter_MatchesExtended_ev s t (by omega) (by omega)) ?_
    refine Ev.bind (filter_Matches_ev s t (by omega) (by omega)) ?_
    have h2 : (⟨#[45, 42]⟩ : ByteArray).size = 2 := rfl
    have hA : bl (s ++ (⟨#[45, 42]⟩ : ByteArray)) = bl s ++ 45 :: star := by
      show (s ++ (⟨#[45, 42]⟩ : ByteArray)).data.toList = _
      rw [ByteArray.data_append, Array.toList_append]; rfl
    have hAs : (s ++ (⟨#[45, 42]⟩ : ByteArray)).size ≤ 4398046511104 := by rw [ByteArray.size_append]; omega
    have hJ : (joinL (r :: star :: rs)).length ≤ 43 := by
      have h3 := congrArg List.length hj
      rw [bl_len] at h3
      simp only [joinL, tailJ, star, List.length_append, List.length_cons, List.length_nil] at h3 ⊢
      omega
    have rest : Ev (fun k => (filter_MatchesExtended.f k (s ++ (⟨#[45, 42]⟩ : ByteArray)) t).bind fun t286 => (if (t286 == mext (bl s) (bl t)) = true then ((isoglossref04_Join.f k ((r :: star :: rs).map mk)).bind fun t287 => ((filter_MatchesExtended.f k t287 t).bind fun t288 => (if (t288 == mext (bl s) (bl t)) = true then ((filter_Basic.f k s).bind fun t289 => (if t289 = true then ((filter_Extended.f k s).bind fun t290 => (some t290)) else (some true))) else (some false)))) else (some false))) true := by
      refine Ev.bind (filter_MatchesExtended_ev _ t hAs (by omega)) ?_
      rw [hA, hm0]
      simp only [beq_self_eq_true, ↓reduceIte]
      refine Ev.bind (ref_Join_ev (r :: star :: rs) (by simp only [List.length_cons]; omega) (by omega)) ?_
      refine Ev.bind (filter_MatchesExtended_ev _ t (by rw [mk_size]; omega) (by omega)) ?_
      rw [bl_mk, hm1]
      simp only [beq_self_eq_true, ↓reduceIte]
      refine Ev.bind (filter_Basic_ev s (by omega)) ?_
      cases hbs : basic (bl s)
      · exact Ev.now _
      · simp only [↓reduceIte]
        have := filter_Extended_ev s (by omega)
        rw [basic_ext hbs] at this
        exact Ev.bind this (Ev.now _)
    simp only [show s.size + 2 ≤ 9223372036854775807 from by omega, ↓reduceIte]
    cases hmat : mat (bl s) (bl t)
    · simp only [Bool.false_eq_true, ↓reduceIte]; exact rest
    · rw [mat_mext hmat] at rest ⊢
      simp only [↓reduceIte]; exact rest
end Go.Proofs.Ytanahbcdilcmoaa.Iso
namespace Go.Proofs.Ytanahbcdilcmoaa.Pure
open Go.RowKit Go.Proofs.Ytanahbcdilcmoaa.P Go.Proofs.YtanahbcdilcmoaaW.PrintWords
theorem FilterMore : isoglosslaw20_FilterMore.Pure := fun s t _ _ => (Iso.FilterMore_pure s t).rounds
end Go.Proofs.Ytanahbcdilcmoaa.Pure
