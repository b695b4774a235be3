/- The tags made of numbers are right, but for what is spoilt; the document's Check. Plain words. -/
import Derived.Test.YtejnfbfikadpdaaGreatDoorPurePriv
namespace Go.Proofs.YtejnfbfikadpdaaGreatDoor.P
open Go.RowKit Go.Proofs.YtejnfbfikadpdaaGreatDoorW.PrintWords Go.Proofs.YtejnfbfikadpdaaGreatDoor.Iso
set_option linter.unusedVariables false
set_option linter.unusedSimpArgs false
theorem langs_ok : ∀ s ∈ langsL, okB s = true ∧ Iso.isLang (bl s) = true ∧ plainB s = true := by decide +kernel
theorem scripts_ok : ∀ s ∈ scriptsL, s = ⟨#[]⟩ ∨ okB s = true ∧ Iso.isScr (bl s) = true ∧ plainB s = true := by decide +kernel
theorem regions_ok : ∀ s ∈ regionsL, s = ⟨#[]⟩ ∨ okB s = true ∧ Iso.isReg (bl s) = true ∧ plainB s = true := by decide +kernel
theorem variants_ok : ∀ s ∈ variantsL, okB s = true ∧ Iso.isVar (bl s) = true ∧ plainB s = true := by decide +kernel
theorem words_ok : ∀ s ∈ wordsL, okB s = true ∧ qTwo s = true ∧ plainB s = true := by decide +kernel
theorem extl_ok : ∀ s ∈ extlL, okB s = true ∧ isExtl (bl s) = true ∧ plainB s = true := by decide +kernel
theorem priv_ok : ∀ s ∈ privL, okB s = true ∧ plainB s = true := by decide +kernel
theorem keys_ok : ∀ s ∈ keysL, okB s = true ∧ Iso.isSing (bl s) = true ∧ plainB s = true := by decide +kernel
theorem base_ext {B : TG} {l6 : List Int} (h : BaseT B l6) : B.ext.length ≤ 1 ∧ (∀ s ∈ B.ext, s ∈ extlL) ∧ (B.ext ≠ [] → B.lang.size ≤ 3) := by
  rcases h.ext with e | ⟨hl, s, hs, e⟩
  · rw [e]; simp
  · rw [e]
    exact ⟨by simp, fun x hx => by rw [List.mem_singleton.1 hx]; exact hs, fun _ => hl⟩
theorem base_exts {B : TG} {l6 : List Int} (h : BaseT B l6) : ∀ x ∈ B.exts, x.f0 ∈ keysL ∧ SubsOk x.f1 := fun x hx => by
  obtain ⟨j, hj⟩ := List.getElem?_of_mem hx
  exact ⟨List.mem_of_getElem? (h.exts.2 j x hj).1, (h.exts.2 j x hj).2⟩
theorem base_keys {B : TG} {l6 : List Int} (h : BaseT B l6) : keysOf B.exts = (keysL.map bl).take B.exts.length := by
  apply List.ext_getElem?
  intro j
  unfold keysOf
  rw [List.getElem?_map, List.getElem?_take]
  cases hj : B.exts[j]? with
  | none =>
    rw [if_neg (by have := List.getElem?_eq_none_iff.1 hj; omega)]; rfl
  | some x =>
    have := (h.exts.2 j x hj).1
    obtain ⟨hlt, _⟩ := List.getElem?_eq_some_iff.1 hj
    rw [if_pos hlt, List.getElem?_map, this]; rfl
theorem nodup_map_bl {l : List ByteArray} (h : l.Nodup) : (l.map bl).Nodup := by
  rw [List.nodup_iff_pairwise_ne] at *
  rw [List.pairwise_map]
  exact h.imp (fun hne e => hne (bl_inj e))
theorem base_shape {B : TG} {l6 : List Int} (h : BaseT B l6) : ShapeT B := by
  obtain ⟨e1, e2, e3⟩ := base_ext h
  refine ⟨⟨(langs_ok _ h.lang).1, (langs_ok _ h.lang).2.1⟩, ⟨by omega, fun s hs => ⟨(extl_ok _ (e2 s hs)).1, (extl_ok _ (e2 s hs)).2.1⟩, e3⟩, ?_, ?_, ⟨fun s hs => ⟨(variants_ok _ (h.vars.2.2 s hs)).1, (variants_ok _ (h.vars.2.2 s hs)).2.1⟩, nodup_map_bl h.vars.1⟩, fun x hx => ?_, ?_⟩
  · exact (scripts_ok _ h.script).imp id fun c => ⟨c.1, c.2.1⟩
  · exact (regions_ok _ h.region).imp id fun c => ⟨c.1, c.2.1⟩
  · obtain ⟨k, s⟩ := base_exts h x hx
    exact ⟨(keys_ok _ k).1, (keys_ok _ k).2.1, s.1, fun t ht => ⟨(words_ok _ (s.2.2 t ht)).1, (words_ok _ (s.2.2 t ht)).2.1⟩⟩
  · rw [base_keys h]
    exact List.Nodup.sublist (List.take_sublist _ _) (by decide)
theorem opt1_mem {s x : ByteArray} (h : x ∈ opt1 s) : x = s ∧ s ≠ ⟨#[]⟩ := by
  unfold opt1 at h
  split at h
  · cases h
  · rename_i c
    exact ⟨List.mem_singleton.1 h, c⟩
theorem base_plain {B : TG} {l6 : List Int} (h : BaseT B l6) : ∀ s ∈ headL B, plainB s = true := by
  intro s hs
  unfold headL at hs
  rcases List.mem_cons.1 hs with rfl | hs
  · exact (langs_ok _ h.lang).2.2
  rcases List.mem_append.1 hs with hs | hs
  · exact (extl_ok _ ((base_ext h).2.1 s hs)).2.2
  rcases List.mem_append.1 hs with hs | hs
  · obtain ⟨rfl, hn⟩ := opt1_mem hs
    exact ((scripts_ok _ h.script).resolve_left hn).2.2
  rcases List.mem_append.1 hs with hs | hs
  · obtain ⟨rfl, hn⟩ := opt1_mem hs
    exact ((regions_ok _ h.region).resolve_left hn).2.2
  rcases List.mem_append.1 hs with hs | hs
  · exact (variants_ok _ (h.vars.2.2 s hs)).2.2
  · obtain ⟨x, hx, hs⟩ := List.mem_flatMap.1 hs
    obtain ⟨k, q⟩ := base_exts h x hx
    rcases List.mem_cons.1 hs with rfl | hs
    · exact (keys_ok _ k).2.2
    · exact (words_ok _ (q.2.2 s hs)).2.2
structure Small (T : TG) : Prop where
  ext : T.ext.length ≤ 1
  vars : T.vars.length ≤ 6
  exts : T.exts.length ≤ 5
  priv : T.priv.length ≤ 4
  subs : ∀ x ∈ T.exts, x.f1.length ≤ 4
theorem flat5 (l : List S47) (h : ∀ x ∈ l, x.f1.length ≤ 4) : (l.flatMap fun x => x.f0 :: x.f1).length ≤ l.length * 5 := by
  induction l with
  | nil => simp
  | cons x t ih =>
    have h1 := h x List.mem_cons_self
    have h2 := ih fun y hy => h y (List.mem_cons_of_mem _ hy)
    simp only [List.flatMap_cons, List.length_append, List.length_cons] at h2 ⊢
    omega
theorem some1_le (s : ByteArray) : (some1 s).length ≤ 1 := by unfold some1; split <;> simp
theorem Small.len {T : TG} (h : Small T) : (subL T.lang T.ext T.script T.region T.vars T.exts T.priv).length ≤ 100 := by
  have h1 := some1_le T.lang
  have h2 := some1_le T.script
  have h3 := some1_le T.region
  have h4 := flat5 T.exts h.subs
  have h5 := h.ext
  have h6 := h.vars
  have h7 := h.exts
  have h8 := h.priv
  unfold subL
  have hp : (if T.priv = [] then [] else (⟨#[120]⟩ : ByteArray) :: T.priv).length ≤ 5 := by
    split
    · simp
    · simp only [List.length_cons]; omega
  simp only [List.length_append] at hp ⊢
  omega
theorem Small.text {T : TG} (h : Small T) (t : TxtS T) : (textT T).length ≤ 1300 := by
  unfold textT subsT subsL
  split
  · refine Nat.le_trans (joinL_len 12 _ fun p hp => ?_) (by rw [List.length_map]; have := h.len; omega)
    obtain ⟨s, hs, rfl⟩ := List.mem_map.1 hp
    rw [bl_len]
    exact t.sub s hs
  · rw [map_bl_mk, join_split, bl_len]
    have := t.grand
    omega
theorem sp_small : ∀ (s acc : Str), ∀ q ∈ sp acc s, q.length ≤ acc.length + s.length
  | [], acc, q, h => by
    rw [sp, List.mem_singleton] at h
    rw [h]; simp
  | c :: t, acc, q, h => by
    rw [sp] at h
    split at h
    · rcases List.mem_cons.1 h with rfl | h
      · simp
      · have := sp_small t [] q h
        simp at this ⊢; omega
    · have := sp_small t _ q h
      simp at this ⊢; omega
end Go.Proofs.YtejnfbfikadpdaaGreatDoor.P
