/- What is right is parsed of its texts, and what is parsed is right. Plain words. -/
import Derived.Test.YtljadeeoaoiilaaGreatDoorEvRight
namespace Go.Proofs.YtljadeeoaoiilaaGreatDoor.P
open Go.RowKit Go.Proofs.YtljadeeoaoiilaaGreatDoorW.PrintWords Go.Proofs.YtljadeeoaoiilaaGreatDoor.Iso
set_option linter.unusedVariables false
set_option linter.unusedSimpArgs false
theorem isGrand_low {s u : ByteArray} (h : low (bl s) = low (bl u)) : isGrand s = isGrand u := by
  have hf : findP s = findP u := by funext i; unfold findP; rw [h]
  unfold isGrand findI same
  rw [hf, h]
theorem names_low : ∀ n ∈ nameL, low n = n := by decide +kernel
theorem names_grand : (nameL.all fun n => isGrand (mk n)) = true := by decide +kernel
theorem isGrand_name (s : ByteArray) : isGrand s = isName (bl s) := by
  rw [Bool.eq_iff_iff]
  unfold isName
  rw [List.contains_iff_mem]
  constructor
  · intro c
    unfold isGrand at c
    rw [Bool.and_eq_true, decide_eq_true_eq] at c
    obtain ⟨h1, h2⟩ := c
    unfold same at h2
    have e := of_decide_eq_true h2
    have hl : findI s < nameL.length := h1
    have hm : nameL.getD (findI s) [] ∈ nameL := by
      rw [List.getD_eq_getElem?_getD, List.getElem?_eq_getElem hl]
      exact List.getElem_mem hl
    unfold nm at e
    rw [bl_mk, names_low _ hm] at e
    rw [← e]; exact hm
  · intro hm
    have h1 := List.all_eq_true.1 names_grand _ hm
    rw [← h1]
    exact isGrand_low (by rw [bl_mk, low_low])
theorem ok_of {s : ByteArray} (h1 : s.size ≤ 8) (h2 : cls (bl s) ≠ 0) : okB s = true := by
  unfold okB Iso.alnum
  rw [decide_eq_true h1, decide_eq_true h2]; rfl
theorem ok_alpha {s : ByteArray} (h1 : s.size ≤ 8) (h2 : alpha (bl s) = true) : okB s = true := ok_of h1 (by rw [of_decide_eq_true h2]; decide)
theorem ok_lang {s : ByteArray} (h : Iso.isLang (bl s) = true) : okB s = true := by
  unfold Iso.isLang at h
  rw [Bool.and_eq_true, decide_eq_true_eq, bl_len] at h
  exact ok_alpha h.2.2 h.1
theorem ok_extl {s : ByteArray} (h : isExtl (bl s) = true) : okB s = true := by
  unfold isExtl at h
  rw [Bool.and_eq_true, decide_eq_true_eq, bl_len] at h
  exact ok_alpha (by omega) h.1
theorem ok_scr {s : ByteArray} (h : Iso.isScr (bl s) = true) : okB s = true := by
  unfold Iso.isScr at h
  rw [Bool.and_eq_true, decide_eq_true_eq, bl_len] at h
  exact ok_alpha (by omega) h.1
theorem ok_reg {s : ByteArray} (h : Iso.isReg (bl s) = true) : okB s = true := by
  unfold Iso.isReg at h
  rw [Bool.or_eq_true, Bool.and_eq_true, Bool.and_eq_true, decide_eq_true_eq, decide_eq_true_eq, bl_len] at h
  rcases h with h | h
  · exact ok_alpha (by omega) h.1
  · exact ok_of (by omega) (by rw [of_decide_eq_true h.1]; decide)
theorem ok_var {s : ByteArray} (h : Iso.isVar (bl s) = true) : okB s = true := by
  unfold Iso.isVar at h
  rw [Bool.and_eq_true, Bool.or_eq_true, Bool.and_eq_true, decide_eq_true_eq, decide_eq_true_eq, bl_len] at h
  exact ok_of (by omega) (of_decide_eq_true h.1)
theorem ok_sing {s : ByteArray} (h : Iso.isSing (bl s) = true) : okB s = true := by
  unfold Iso.isSing at h
  rw [Bool.and_eq_true, Bool.and_eq_true, decide_eq_true_eq, bl_len] at h
  exact ok_of (by omega) (of_decide_eq_true h.1.1)
theorem okB_sub (s : ByteArray) : okB s = isSub (bl s) := by
  unfold okB isSub Iso.alnum
  rw [bl_len, Bool.and_comm]
theorem sub_two (s : ByteArray) : subOk 2 s = (okB s && qTwo s) := by
  unfold subOk; rw [okB_sub]; rfl
theorem sub_one {s : ByteArray} : subOk 1 s = okB s := by
  unfold subOk
  rw [← okB_sub]
  cases c : okB s with
  | false => rfl
  | true =>
    rw [Bool.true_and]
    refine decide_eq_true ?_
    rcases Nat.eq_zero_or_pos s.size with h | h
    · exfalso
      have := okB_ne c
      rw [Go.ByteArray.toList_eq] at this
      have e : bl s = [] := List.eq_nil_of_length_eq_zero (by rw [bl_len]; exact h)
      rw [show s.data.toList = [] from e] at this
      cases this
    · exact h
theorem varsB_is : ∀ (l pre : List ByteArray), varsB pre l = true ↔ (∀ s ∈ l, Iso.isVar (bl s) = true) ∧ (l.map bl).Nodup ∧ ∀ u ∈ pre, ∀ v ∈ l, bl u ≠ bl v
  | [], pre => by simp [varsB]
  | v :: t, pre => by
    unfold varsB
    rw [Bool.and_eq_true, Bool.and_eq_true, varsB_is t (pre ++ [v]), List.all_eq_true]
    simp only [decide_eq_true_eq, List.map_cons, List.nodup_cons, List.mem_map, not_exists, not_and, List.mem_cons, forall_eq_or_imp, List.mem_append, List.not_mem_nil, or_false]
    constructor
    · rintro ⟨⟨h1, h2⟩, h3, h4, h5⟩
      exact ⟨⟨h1, h3⟩, ⟨fun x hx e => h5 v (.inr rfl) x hx e.symm, h4⟩, fun u hu => ⟨h2 u hu, fun a ha => h5 u (.inl hu) a ha⟩⟩
    · rintro ⟨⟨h1, h3⟩, ⟨h6, h4⟩, h7⟩
      refine ⟨⟨h1, fun u hu => (h7 u hu).1⟩, h3, h4, fun u hu a ha => ?_⟩
      rcases hu with hu | rfl
      · exact (h7 u hu).2 a ha
      · exact fun e => h6 a ha e.symm
theorem keysB_is : ∀ (l pre : List S40), keysB pre l = true ↔ (∀ x ∈ l, Iso.isSing (bl x.f0) = true ∧ x.f1 ≠ [] ∧ ∀ s ∈ x.f1, okB s = true ∧ qTwo s = true) ∧ (keysOf l).Nodup ∧ ∀ u ∈ pre, ∀ v ∈ l, bl u.f0 ≠ bl v.f0
  | [], pre => by simp [keysB, keysOf]
  | v :: t, pre => by
    unfold keysB keysOf
    rw [Bool.and_eq_true, Bool.and_eq_true, Bool.and_eq_true, Bool.and_eq_true, keysB_is t (pre ++ [v]), List.all_eq_true, List.all_eq_true, Bool.not_eq_true', List.isEmpty_eq_false_iff]
    unfold keysOf
    simp only [sub_two, Bool.and_eq_true, decide_eq_true_eq, List.map_cons, List.nodup_cons, List.mem_map, not_exists, not_and, List.mem_cons, forall_eq_or_imp, List.mem_append, List.not_mem_nil, or_false]
    constructor
    · rintro ⟨⟨⟨h1, h2⟩, h8, h9⟩, h3, h4, h5⟩
      exact ⟨⟨⟨h1, h9, h8⟩, h3⟩, ⟨fun x hx e => h5 v (.inr rfl) x hx e.symm, h4⟩, fun u hu => ⟨h2 u hu, fun a ha => h5 u (.inl hu) a ha⟩⟩
    · rintro ⟨⟨⟨h1, h9, h8⟩, h3⟩, ⟨h6, h4⟩, h7⟩
      refine ⟨⟨⟨h1, fun u hu => (h7 u hu).1⟩, h8, h9⟩, h3, h4, fun u hu a ha => ?_⟩
      rcases hu with hu | rfl
      · exact (h7 u hu).2 a ha
      · exact fun e => h6 a ha e.symm
theorem body_is {T : TG} (h : bodyT T = true) : ShapeT T ∧ (∀ s ∈ T.priv, okB s = true) ∧ isName (textT T) = false := by
  unfold bodyT rowsT extFit at h
  simp only [Bool.and_eq_true] at h
  obtain ⟨⟨⟨⟨⟨h1, h2⟩, h3⟩, h4, h5, h6⟩, h7, h8⟩, h9, h10⟩ := h
  have hv := (varsB_is _ _).1 h4
  have hk := (keysB_is _ _).1 h5
  rw [List.all_eq_true] at h6
  have h9' : ∀ s ∈ T.ext, isExtl (bl s) = true := List.all_eq_true.1 h9
  refine ⟨⟨⟨ok_lang h1, h1⟩, ⟨of_decide_eq_true h7, fun s hs => ⟨ok_extl (h9' s hs), h9' s hs⟩, fun hne => ?_⟩, ?_, ?_, ⟨fun s hs => ⟨ok_var (hv.1 s hs), hv.1 s hs⟩, hv.2.1⟩, ⟨fun x hx => ⟨ok_sing (hk.1 x hx).1, (hk.1 x hx).1, (hk.1 x hx).2⟩, hk.2.1⟩⟩, fun s hs => by have := h6 s hs; rwa [sub_one] at this, by simpa using h10⟩
  · rcases Bool.or_eq_true _ _ ▸ h8 with h8 | h8
    · exact absurd (List.isEmpty_iff.1 h8) hne
    · exact of_decide_eq_true h8
  · unfold scrOk at h2
    rw [Bool.or_eq_true, decide_eq_true_eq] at h2
    exact h2.imp id fun c => ⟨ok_scr c, c⟩
  · unfold regOk at h3
    rw [Bool.or_eq_true, decide_eq_true_eq] at h3
    exact h3.imp id fun c => ⟨ok_reg c, c⟩
end Go.Proofs.YtljadeeoaoiilaaGreatDoor.P
