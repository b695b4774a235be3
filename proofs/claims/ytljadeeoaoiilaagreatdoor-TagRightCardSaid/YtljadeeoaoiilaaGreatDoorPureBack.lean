/- What is right is parsed of its texts, and what is parsed is right. Plain words. -/
import Derived.Test.YtljadeeoaoiilaaGreatDoorEvRight
namespace Go.Proofs.YtljadeeoaoiilaaGreatDoor.P
open Go.RowKit Go.Proofs.YtljadeeoaoiilaaGreatDoorW.PrintWords Go.Proofs.YtljadeeoaoiilaaGreatDoor.Iso
set_option linter.unusedVariables false
set_option linter.unusedSimpArgs false
theorem isGrand_low {s u : ByteArray} (h : low (bl s) = low (bl u)) : isGrand s = isGrand u := by
  have hf : findP s = findP u := by funext i; unfold findP; rw [h]
  unfold isGrand findI same
  rw [hf, h]
theorem names_low : ∀ n ∈ nameL, low n = n := by decide +kernel
theorem names_grand : (nameL.all fun n => isGrand (mk n)) = true := by decide +kernel
theorem isGrand_name (s : ByteArray) : isGrand s = isName (bl s) := by
  rw [Bool.eq_iff_iff]
  unfold isName
  rw [List.contains_iff_mem]
  constructor
  · intro c
    unfold isGrand at c
    rw [Bool.and_eq_true, decide_eq_true_eq] at c
    obtain ⟨h1, h2⟩ := c
    unfold same at h2
    have e := of_decide_eq_true h2
    have hl : findI s < nameL.length := h1
    have hm : nameL.getD (findI s) [] ∈ nameL := by
      rw [List.getD_eq_getElem?_getD, List.getElem?_eq_getElem hl]
      exact List.getElem_mem hl
    unfold nm at e
    rw [bl_mk, names_low _ hm] at e
    rw [← e]; exact hm
  · intro hm
    have h1 := List.all_eq_true.1 names_grand _ hm
    rw [← h1]
    exact isGrand_low (by rw [bl_mk, low_low])
theorem okB_sub (s : ByteArray) : okB s = isSub (bl s) := by
  unfold okB isSub Iso.alnum
  rw [bl_len, Bool.and_comm]
theorem sub_two (s : ByteArray) : subOk 2 s = (okB s && qTwo s) := by
  unfold subOk; rw [okB_sub]; rfl
theorem varsB_is : ∀ (l pre : List ByteArray), varsB pre l = true ↔ (∀ s ∈ l, Iso.isVar (bl s) = true) ∧ (l.map bl).Nodup ∧ ∀ u ∈ pre, ∀ v ∈ l, bl u ≠ bl v
  | [], pre => by simp [varsB]
  | v :: t, pre => by
    unfold varsB
    rw [Bool.and_eq_true, Bool.and_eq_true, varsB_is t (pre ++ [v]), List.all_eq_true]
    simp only [decide_eq_true_eq, List.map_cons, List.nodup_cons, List.mem_map, not_exists, not_and, List.mem_cons, forall_eq_or_imp, List.mem_append, List.not_mem_nil, or_false]
    constructor
    · rintro ⟨⟨h1, h2⟩, h3, h4, h5⟩
      exact ⟨⟨h1, h3⟩, ⟨fun x hx e => h5 v (.inr rfl) x hx e.symm, h4⟩, fun u hu => ⟨h2 u hu, fun a ha => h5 u (.inl hu) a ha⟩⟩
    · rintro ⟨⟨h1, h3⟩, ⟨h6, h4⟩, h7⟩
      refine ⟨⟨h1, fun u hu => (h7 u hu).1⟩, h3, h4, fun u hu a ha => ?_⟩
      rcases hu with hu | rfl
      · exact (h7 u hu).2 a ha
      · exact fun e => h6 a ha e.symm
theorem keysB_is : ∀ (l pre : List S40), keysB pre l = true ↔ (∀ x ∈ l, Iso.isSing (bl x.f0) = true ∧ x.f1 ≠ [] ∧ ∀ s ∈ x.f1, okB s = true ∧ qTwo s = true) ∧ (keysOf l).Nodup ∧ ∀ u ∈ pre, ∀ v ∈ l, bl u.f0 ≠ bl v.f0
  | [], pre => by simp [keysB, keysOf]
  | v :: t, pre => by
    unfold keysB keysOf
    rw [Bool.and_eq_true, Bool.and_eq_true, Bool.and_eq_true, Bool.and_eq_true, keysB_is t (pre ++ [v]), List.all_eq_true, List.all_eq_true, Bool.not_eq_true', List.isEmpty_eq_false_iff]
    unfold keysOf
    simp only [sub_two, Bool.and_eq_true, decide_eq_true_eq, List.map_cons, List.nodup_cons, List.mem_map, not_exists, not_and, List.mem_cons, forall_eq_or_imp, List.mem_append, List.not_mem_nil, or_false]
    constructor
    · rintro ⟨⟨⟨h1, h2⟩, h8, h9⟩, h3, h4, h5⟩
      exact ⟨⟨⟨h1, h9, h8⟩, h3⟩, ⟨fun x hx e => h5 v (.inr rfl) x hx e.symm, h4⟩, fun u hu => ⟨h2 u hu, fun a ha => h5 u (.inl hu) a ha⟩⟩
    · rintro ⟨⟨⟨h1, h9, h8⟩, h3⟩, ⟨h6, h4⟩, h7⟩
      refine ⟨⟨⟨h1, fun u hu => (h7 u hu).1⟩, h8, h9⟩, h3, h4, fun u hu a ha => ?_⟩
      rcases hu with hu | rfl
      · exact (h7 u hu).2 a ha
      · exact fun e => h6 a ha e.symm
end Go.Proofs.YtljadeeoaoiilaaGreatDoor.P
