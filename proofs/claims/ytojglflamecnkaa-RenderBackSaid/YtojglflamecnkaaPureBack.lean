/- What is right is parsed of its texts, and what is parsed is right. Plain words. -/
import Derived.Test.YtojglflamecnkaaEvRight
namespace Go.Proofs.Ytojglflamecnkaa.P
open Go.RowKit Go.Proofs.YtojglflamecnkaaW.PrintWords Go.Proofs.Ytojglflamecnkaa.Iso
set_option linter.unusedVariables false
set_option linter.unusedSimpArgs false
theorem eachGo_low : ∀ (s : Str) (a : Nat) (acc : Str), eachGo a (low acc) (low s) = (eachGo a acc s).map fun p => (p.1, low p.2)
  | [], a, acc => rfl
  | c :: t, a, acc => by
    show eachGo a (low acc) (lowC c :: low t) = _
    rw [eachGo, eachGo]
    by_cases h : c = 45
    · rw [if_pos h, if_pos ((lowC_dash c).2 h), List.map_cons, ← eachGo_low t _ [], low_length]; rfl
    · rw [if_neg h, if_neg (fun e => h ((lowC_dash c).1 e)), ← eachGo_low t a (acc ++ [c])]
      unfold low
      rw [List.map_append]; rfl
theorem offP_low (a : Nat) (t : Str) : offP a (low t) = offP a t := by
  unfold offP
  have := eachGo_low t a []
  rw [show low [] = [] from rfl] at this
  rw [this, List.map_map]
  apply List.map_congr_left
  intro p _
  show (⟨(p.1 : Int), mk (low (low p.2))⟩ : PieceR) = ⟨(p.1 : Int), mk (low p.2)⟩
  rw [low_low]
theorem isGrand_low {s u : ByteArray} (h : low (bl s) = low (bl u)) : isGrand s = isGrand u := by
  have hf : findP s = findP u := by funext i; unfold findP; rw [h]
  unfold isGrand findI same
  rw [hf, h]
theorem parseR_low {s u : ByteArray} (h : low (bl s) = low (bl u)) : parseR s = parseR u := by
  have hl : s.size = u.size := by
    have := congrArg List.length h
    rwa [low_length, low_length, bl_len, bl_len] at this
  unfold parseR
  rw [isGrand_low h, h, hl, piecesOf_off, piecesOf_off, ← offP_low 0 (bl s), h, offP_low]
theorem names_low : ∀ n ∈ nameL, low n = n := by decide +kernel
theorem names_grand : (nameL.all fun n => isGrand (mk n)) = true := by decide +kernel
theorem isGrand_name (s : ByteArray) : isGrand s = isName (bl s) := by
  rw [Bool.eq_iff_iff]
  unfold isName
  rw [List.contains_iff_mem]
  constructor
  · intro c
    unfold isGrand at c
    rw [Bool.and_eq_true, decide_eq_true_eq] at c
    obtain ⟨h1, h2⟩ := c
    unfold same at h2
    have e := of_decide_eq_true h2
    have hl : findI s < nameL.length := h1
    have hm : nameL.getD (findI s) [] ∈ nameL := by
      rw [List.getD_eq_getElem?_getD, List.getElem?_eq_getElem hl]
      exact List.getElem_mem hl
    unfold nm at e
    rw [bl_mk, names_low _ hm] at e
    rw [← e]; exact hm
  · intro hm
    have h1 := List.all_eq_true.1 names_grand _ hm
    rw [← h1]
    exact isGrand_low (by rw [bl_mk, low_low])
theorem ok_of {s : ByteArray} (h1 : s.size ≤ 8) (h2 : cls (bl s) ≠ 0) : okB s = true := by
  unfold okB Iso.alnum
  rw [decide_eq_true h1, decide_eq_true h2]; rfl
theorem ok_alpha {s : ByteArray} (h1 : s.size ≤ 8) (h2 : alpha (bl s) = true) : okB s = true := ok_of h1 (by rw [of_decide_eq_true h2]; decide)
theorem ok_lang {s : ByteArray} (h : Iso.isLang (bl s) = true) : okB s = true := by
  unfold Iso.isLang at h
  rw [Bool.and_eq_true, decide_eq_true_eq, bl_len] at h
  exact ok_alpha h.2.2 h.1
theorem ok_extl {s : ByteArray} (h : isExtl (bl s) = true) : okB s = true := by
  unfold isExtl at h
  rw [Bool.and_eq_true, decide_eq_true_eq, bl_len] at h
  exact ok_alpha (by omega) h.1
theorem ok_scr {s : ByteArray} (h : Iso.isScr (bl s) = true) : okB s = true := by
  unfold Iso.isScr at h
  rw [Bool.and_eq_true, decide_eq_true_eq, bl_len] at h
  exact ok_alpha (by omega) h.1
theorem ok_reg {s : ByteArray} (h : Iso.isReg (bl s) = true) : okB s = true := by
  unfold Iso.isReg at h
  rw [Bool.or_eq_true, Bool.and_eq_true, Bool.and_eq_true, decide_eq_true_eq, decide_eq_true_eq, bl_len] at h
  rcases h with h | h
  · exact ok_alpha (by omega) h.1
  · exact ok_of (by omega) (by rw [of_decide_eq_true h.1]; decide)
theorem ok_var {s : ByteArray} (h : Iso.isVar (bl s) = true) : okB s = true := by
  unfold Iso.isVar at h
  rw [Bool.and_eq_true, Bool.or_eq_true, Bool.and_eq_true, decide_eq_true_eq, decide_eq_true_eq, bl_len] at h
  exact ok_of (by omega) (of_decide_eq_true h.1)
theorem ok_sing {s : ByteArray} (h : Iso.isSing (bl s) = true) : okB s = true := by
  unfold Iso.isSing at h
  rw [Bool.and_eq_true, Bool.and_eq_true, decide_eq_true_eq, bl_len] at h
  exact ok_of (by omega) (of_decide_eq_true h.1.1)
theorem okB_sub (s : ByteArray) : okB s = isSub (bl s) := by
  unfold okB isSub Iso.alnum
  rw [bl_len, Bool.and_comm]
theorem sub_two (s : ByteArray) : subOk 2 s = (okB s && qTwo s) := by
  unfold subOk; rw [okB_sub]; rfl
theorem sub_one {s : ByteArray} : subOk 1 s = okB s := by
  unfold subOk
  rw [← okB_sub]
  cases c : okB s with
  | false => rfl
  | true =>
    rw [Bool.true_and]
    refine decide_eq_true ?_
    rcases Nat.eq_zero_or_pos s.size with h | h
    · exfalso
      have := okB_ne c
      rw [Go.ByteArray.toList_eq] at this
      have e : bl s = [] := List.eq_nil_of_length_eq_zero (by rw [bl_len]; exact h)
      rw [show s.data.toList = [] from e] at this
      cases this
    · exact h
theorem okB_dash {s : ByteArray} (h : okB s = true) : (bl s).all (fun c => decide (c ≠ 45)) = true := by
  unfold okB Iso.alnum at h
  rw [Bool.and_eq_true] at h
  have h2 := of_decide_eq_true h.2
  unfold cls at h2
  split at h2
  · exact absurd rfl h2
  · split at h2
    · rename_i c
      rw [List.all_eq_true] at c ⊢
      intro x hx
      have := c x hx
      refine decide_eq_true (fun e => ?_)
      rw [e] at this
      revert this; decide
    · exact absurd rfl h2
theorem plain_of {s : ByteArray} (h : okB s = true) (hl : lowOk s = true) : plainB s = true := by
  unfold plainB
  rw [okB_dash h, decide_eq_true (of_decide_eq_true hl).symm]; rfl
theorem varsB_is : ∀ (l pre : List ByteArray), varsB pre l = true ↔ (∀ s ∈ l, Iso.isVar (bl s) = true) ∧ (l.map bl).Nodup ∧ ∀ u ∈ pre, ∀ v ∈ l, bl u ≠ bl v
  | [], pre => by simp [varsB]
  | v :: t, pre => by
    unfold varsB
    rw [Bool.and_eq_true, Bool.and_eq_true, varsB_is t (pre ++ [v]), List.all_eq_true]
    simp only [decide_eq_true_eq, List.map_cons, List.nodup_cons, List.mem_map, not_exists, not_and, List.mem_cons, forall_eq_or_imp, List.mem_append, List.not_mem_nil, or_false]
    constructor
    · rintro ⟨⟨h1, h2⟩, h3, h4, h5⟩
      exact ⟨⟨h1, h3⟩, ⟨fun x hx e => h5 v (.inr rfl) x hx e.symm, h4⟩, fun u hu => ⟨h2 u hu, fun a ha => h5 u (.inl hu) a ha⟩⟩
    · rintro ⟨⟨h1, h3⟩, ⟨h6, h4⟩, h7⟩
      refine ⟨⟨h1, fun u hu => (h7 u hu).1⟩, h3, h4, fun u hu a ha => ?_⟩
      rcases hu with hu | rfl
      · exact (h7 u hu).2 a ha
      · exact fun e => h6 a ha e.symm
theorem keysB_is : ∀ (l pre : List S62), keysB pre l = true ↔ (∀ x ∈ l, Iso.isSing (bl x.f0) = true ∧ x.f1 ≠ [] ∧ ∀ s ∈ x.f1, okB s = true ∧ qTwo s = true) ∧ (keysOf l).Nodup ∧ ∀ u ∈ pre, ∀ v ∈ l, bl u.f0 ≠ bl v.f0
  | [], pre => by simp [keysB, keysOf]
  | v :: t, pre => by
    unfold keysB keysOf
    rw [Bool.and_eq_true, Bool.and_eq_true, Bool.and_eq_true, Bool.and_eq_true, keysB_is t (pre ++ [v]), List.all_eq_true, List.all_eq_true, Bool.not_eq_true', List.isEmpty_eq_false_iff]
    unfold keysOf
    simp only [sub_two, Bool.and_eq_true, decide_eq_true_eq, List.map_cons, List.nodup_cons, List.mem_map, not_exists, not_and, List.mem_cons, forall_eq_or_imp, List.mem_append, List.not_mem_nil, or_false]
    constructor
    · rintro ⟨⟨⟨h1, h2⟩, h8, h9⟩, h3, h4, h5⟩
      exact ⟨⟨⟨h1, h9, h8⟩, h3⟩, ⟨fun x hx e => h5 v (.inr rfl) x hx e.symm, h4⟩, fun u hu => ⟨h2 u hu, fun a ha => h5 u (.inl hu) a ha⟩⟩
    · rintro ⟨⟨⟨h1, h9, h8⟩, h3⟩, ⟨h6, h4⟩, h7⟩
      refine ⟨⟨⟨h1, fun u hu => (h7 u hu).1⟩, h8, h9⟩, h3, h4, fun u hu a ha => ?_⟩
      rcases hu with hu | rfl
      · exact (h7 u hu).2 a ha
      · exact fun e => h6 a ha e.symm
theorem body_is {T : TG} (h : bodyT T = true) : ShapeT T ∧ (∀ s ∈ T.priv, okB s = true) ∧ isName (textT T) = false := by
  unfold bodyT rowsT extFit at h
  simp only [Bool.and_eq_true] at h
  obtain ⟨⟨⟨⟨⟨h1, h2⟩, h3⟩, h4, h5, h6⟩, h7, h8⟩, h9, h10⟩ := h
  have hv := (varsB_is _ _).1 h4
  have hk := (keysB_is _ _).1 h5
  rw [List.all_eq_true] at h6
  have h9' : ∀ s ∈ T.ext, isExtl (bl s) = true := List.all_eq_true.1 h9
  refine ⟨⟨⟨ok_lang h1, h1⟩, ⟨of_decide_eq_true h7, fun s hs => ⟨ok_extl (h9' s hs), h9' s hs⟩, fun hne => ?_⟩, ?_, ?_, ⟨fun s hs => ⟨ok_var (hv.1 s hs), hv.1 s hs⟩, hv.2.1⟩, ⟨fun x hx => ⟨ok_sing (hk.1 x hx).1, (hk.1 x hx).1, (hk.1 x hx).2⟩, hk.2.1⟩⟩, fun s hs => by have := h6 s hs; rwa [sub_one] at this, by simpa using h10⟩
  · rcases Bool.or_eq_true _ _ ▸ h8 with h8 | h8
    · exact absurd (List.isEmpty_iff.1 h8) hne
    · exact of_decide_eq_true h8
  · unfold scrOk at h2
    rw [Bool.or_eq_true, decide_eq_true_eq] at h2
    exact h2.imp id fun c => ⟨ok_scr c, c⟩
  · unfold regOk at h3
    rw [Bool.or_eq_true, decide_eq_true_eq] at h3
    exact h3.imp id fun c => ⟨ok_reg c, c⟩
theorem low_sub {T : TG} (h : smallT T = true) : ∀ s ∈ subsT T, lowOk s = true := by
  unfold smallT at h
  rw [Bool.and_eq_true, List.all_eq_true] at h
  exact fun s hs => h.1 s (List.mem_append_left _ hs)
theorem low_grand {T : TG} (h : smallT T = true) : low (bl T.grand) = bl T.grand := by
  unfold smallT at h
  rw [Bool.and_eq_true] at h
  exact (of_decide_eq_true h.2).symm
abbrev privL' (l : List ByteArray) : List ByteArray := if l = [] then [] else ⟨#[120]⟩ :: l
theorem subsT_head {T : TG} (hg : T.grand = ⟨#[]⟩) (h : T.lang ≠ ⟨#[]⟩) : subsT T = headL T ++ privL' T.priv := by
  show subsL T.lang T.ext T.script T.region T.vars T.exts T.priv T.grand = _
  unfold subsL
  rw [hg, if_pos (by rw [Go.ByteArray.toList_eq]), subL_head h]
theorem head_ok {T : TG} (h : ShapeT T) : ∀ s ∈ headL T, okB s = true := by
  intro s hs
  unfold headL at hs
  rcases List.mem_cons.1 hs with rfl | hs
  · exact h.lang.1
  rcases List.mem_append.1 hs with hs | hs
  · exact (h.ext.2.1 s hs).1
  rcases List.mem_append.1 hs with hs | hs
  · obtain ⟨rfl, hn⟩ := opt1_mem hs
    exact (h.script.resolve_left hn).1
  rcases List.mem_append.1 hs with hs | hs
  · obtain ⟨rfl, hn⟩ := opt1_mem hs
    exact (h.region.resolve_left hn).1
  rcases List.mem_append.1 hs with hs | hs
  · exact (h.vars.1 s hs).1
  · obtain ⟨x, hx, hs⟩ := List.mem_flatMap.1 hs
    rcases List.mem_cons.1 hs with rfl | hs
    · exact (h.exts.1 x hx).1
    · exact ((h.exts.1 x hx).2.2.2 s hs).1
theorem x_ok : okB ⟨#[120]⟩ = true := by decide
theorem tail_priv {E : Int} {T : TG} {R : List PieceR} {l : List ByteArray} (hR : txs R = privL' l) (hl : ∀ s ∈ l, okB s = true) (ht : T.priv = []) : EndR R ∧ tailR E T R = .good { T with priv := l } := by
  by_cases c : l = []
  · rw [privL', if_pos c] at hR
    have : R = [] := by simpa using hR
    subst this
    refine ⟨.inl rfl, ?_⟩
    rw [tailR, if_neg (by decide), c, ← ht]
    rfl
  · rw [privL', if_neg c] at hR
    obtain ⟨X, P, rfl, hX, hP⟩ := List.map_eq_cons_iff.1 hR
    have hx : bl (hereB (X :: P)) = [120] := by rw [hereB_ok (by rw [hX]; exact x_ok), hX]; rfl
    refine ⟨.inr hx, ?_⟩
    have hne : P ≠ [] := fun e => c (by rw [← hP, e]; rfl)
    obtain ⟨n, hn⟩ : ∃ n : Int, ∀ p ∈ P, n ≤ p.f0 := by
      clear hne hP hx hX hR
      induction P with
      | nil => exact ⟨0, fun p hp => by cases hp⟩
      | cons q t ih =>
        obtain ⟨n, hn⟩ := ih
        refine ⟨min n q.f0, fun p hp => ?_⟩
        rcases List.mem_cons.1 hp with rfl | hp
        · exact Int.min_le_right _ _
        · exact Int.le_trans (Int.min_le_left _ _) (hn p hp)
    rw [(tail_x hx hne hn).1 (fun p hp => hl _ (by rw [← hP]; exact List.mem_map_of_mem hp)), show txs P = l from hP]
theorem right_parse {T : TG} (h : rightT T = true) : parseR (mk (textT T)) = .good T := by
  unfold rightT at h
  rw [Bool.and_eq_true] at h
  obtain ⟨hs, h⟩ := h
  have hlow := low_sub hs
  by_cases hg : T.grand = ⟨#[]⟩
  · rw [if_pos hg] at h
    by_cases hl : T.lang = ⟨#[]⟩
    · rw [if_pos hl] at h
      unfold plainT at h
      simp only [Bool.and_eq_true, decide_eq_true_eq, List.isEmpty_iff, Bool.not_eq_true', List.isEmpty_eq_false_iff, List.all_eq_true, sub_one] at h
      obtain ⟨⟨⟨h0, h1, h2, h3, h4, h5⟩, h6⟩, h7⟩ := h
      have hsub : subsT T = ⟨#[120]⟩ :: T.priv := by
        show subsL T.lang T.ext T.script T.region T.vars T.exts T.priv T.grand = _
        unfold subsL subL
        rw [hg, if_pos (by rw [Go.ByteArray.toList_eq]), h0, h1, h2, h3, h4, h5, some1_opt, if_neg h6]
        rfl
      have hpl : ∀ s ∈ subsT T, plainB s = true := fun s hm => plain_of (by
        rw [hsub] at hm
        rcases List.mem_cons.1 hm with rfl | hm
        · exact x_ok
        · exact h7 s hm) (hlow s hm)
      have ht := txs_join (l := subsT T) (by rw [hsub]; simp) hpl 0
      have ht2 : txs (offP 0 (textT T)) = privL' T.priv := by rw [privL', if_neg h6, ← hsub]; exact ht
      have hng : isGrand (mk (textT T)) = false := not_grand (p := [120]) (by
        rw [bl_mk, split_low]
        have : (⟨#[120]⟩ : ByteArray) ∈ txs (offP 0 (textT T)) := by rw [ht2, privL', if_neg h6]; exact List.mem_cons_self
        rw [txs_off] at this
        obtain ⟨q, hq, e⟩ := List.mem_map.1 this
        refine List.mem_map.2 ⟨q, hq, ?_⟩
        have := congrArg bl e
        rwa [bl_mk] at this) (by decide +kernel)
      obtain ⟨hE, hp⟩ := tail_priv (E := ((mk (textT T)).size : Int)) (T := T0) ht2 h7 rfl
      unfold parseR
      rw [hng, if_neg (by decide), piecesOf_off, bl_mk, allR]
      have hx : bl (hereB (offP 0 (textT T))) = [120] := by
        rcases hE with e | e
        · rw [e] at ht2
          rw [privL', if_neg h6] at ht2; cases ht2
        · exact e
      rw [if_pos hx, hp]
      show PRes.good { T0 with priv := T.priv } = _
      cases T
      dsimp only at h0 h1 h2 h3 h4 h5 hg
      subst h0 h1 h2 h3 h4 h5 hg
      rfl
    · rw [if_neg hl] at h
      obtain ⟨hT, hp, hn⟩ := body_is h
      have hsub := subsT_head hg hl
      have hpl : ∀ s ∈ subsT T, plainB s = true := fun s hm => plain_of (by
        rw [hsub] at hm
        rcases List.mem_append.1 hm with hm | hm
        · exact head_ok hT s hm
        · unfold privL' at hm
          split at hm
          · cases hm
          · rcases List.mem_cons.1 hm with rfl | hm
            · exact x_ok
            · exact hp s hm) (hlow s hm)
      have ht := txs_join (l := subsT T) (by rw [hsub]; unfold headL; simp) hpl 0
      have ht2 : txs (offP 0 (textT T)) = headL T ++ privL' T.priv := by rw [← hsub]; exact ht
      obtain ⟨H, R, e, hH, hR⟩ := List.map_eq_append_iff.1 ht2
      obtain ⟨hE, htl⟩ := tail_priv (E := ((mk (textT T)).size : Int)) (T := { T with priv := [], grand := ⟨#[]⟩ }) hR hp rfl
      unfold parseR
      rw [isGrand_name, bl_mk, hn, if_neg (by decide), piecesOf_off, bl_mk, e, all_head hT _ H R hH hE, htl]
      show PRes.good { T with grand := ⟨#[]⟩ } = _
      rw [← hg]
  · rw [if_neg hg] at h
    unfold plainT at h
    simp only [Bool.and_eq_true, decide_eq_true_eq, List.isEmpty_iff] at h
    obtain ⟨⟨⟨h0, h1, h2, h3, h4, h5⟩, h6⟩, h7⟩ := h
    have hlg := low_grand hs
    have htx : textT T = bl T.grand := by
      show joinL ((subsL T.lang T.ext T.script T.region T.vars T.exts T.priv T.grand).map bl) = _
      unfold subsL
      rw [if_neg (fun e => hg (bl_inj (by rw [Go.ByteArray.toList_eq] at e; exact e))), map_bl_mk, join_split]
    unfold parseR
    rw [isGrand_name, bl_mk, htx, h7, if_pos rfl, hlg, mk_bl]
    cases T
    dsimp only at h0 h1 h2 h3 h4 h5 h6
    subst h0 h1 h2 h3 h4 h5 h6
    rfl
end Go.Proofs.Ytojglflamecnkaa.P
