/- What holds of all words that tags of plain numbers are made of holds of all texts of such a tag. No condition. -/
import Derived.Test.YtojglflamecnkaaEvTxt
namespace Go.Proofs.Ytojglflamecnkaa.Iso
open Go Go.RowKit Go.Proofs.YtojglflamecnkaaW.PrintWords Go.Proofs.Ytojglflamecnkaa.P
set_option linter.unusedVariables false
structure AllT (P : ByteArray → Prop) (T : TG) : Prop where
  lang : T.lang = ⟨#[]⟩ ∨ P T.lang
  ext : ∀ s ∈ T.ext, P s
  script : T.script = ⟨#[]⟩ ∨ P T.script
  region : T.region = ⟨#[]⟩ ∨ P T.region
  vars : ∀ s ∈ T.vars, P s
  keys : ∀ x ∈ T.exts, P x.f0
  subs : ∀ x ∈ T.exts, ∀ s ∈ x.f1, P s
  priv : ∀ s ∈ T.priv, P s
def allL : List ByteArray := langsL ++ langsL.map (fun s => mk (title (bl s))) ++ (scriptsL ++ regionsL).filter (fun s => s.size != 0) ++ variantsL ++ wordsL ++ extlL ++ privL ++ keysL ++ [⟨#[98]⟩, ⟨#[99]⟩, ⟨#[97, 98]⟩, ⟨#[99, 100]⟩, ⟨#[108, 97, 116]⟩, ⟨#[97, 98, 99, 100, 101, 102, 103, 104, 105]⟩, ⟨#[105]⟩, ⟨#[97, 109, 105]⟩]
def inB (s : ByteArray) (l : List ByteArray) : Bool := l.any fun t => decide (bl s = bl t)
theorem inB_mem {s : ByteArray} {l : List ByteArray} (h : inB s l = true) : s ∈ l := by
  obtain ⟨t, ht, e⟩ := List.any_eq_true.1 h
  rw [bl_inj (of_decide_eq_true e)]
  exact ht
theorem all_in {l : List ByteArray} {f : ByteArray → ByteArray} (h : (l.all fun s => inB (f s) allL) = true) : ∀ s ∈ l, f s ∈ allL := fun s hs => inB_mem (List.all_eq_true.1 h s hs)
theorem all_or {l : List ByteArray} (h : (l.all fun s => (bl s).isEmpty || inB s allL) = true) : ∀ s ∈ l, s = ⟨#[]⟩ ∨ s ∈ allL := by
  intro s hs
  have := List.all_eq_true.1 h s hs
  rcases Bool.or_eq_true_iff.1 this with e | e
  · exact Or.inl (bl_inj (List.isEmpty_iff.1 e))
  · exact Or.inr (inB_mem e)
theorem baseT_all (P : ByteArray → Prop) (hw : ∀ s ∈ allL, P s) {B : TG} {l6 : List Int} (h : BaseT B l6) (n : Int) : AllT P (spoiltT B n) := by
  have w := fun (x : ByteArray) (hx : x ∈ allL) => hw x hx
  have aL : ∀ s ∈ langsL, s ∈ allL := all_in (f := id) (by decide)
  have aT : ∀ s ∈ langsL, mk (title (bl s)) ∈ allL := all_in (by decide)
  have aX : ∀ s ∈ extlL, s ∈ allL := all_in (f := id) (by decide)
  have aS : ∀ s ∈ scriptsL, s = ⟨#[]⟩ ∨ s ∈ allL := all_or (by decide)
  have aR : ∀ s ∈ regionsL, s = ⟨#[]⟩ ∨ s ∈ allL := all_or (by decide)
  have aV : ∀ s ∈ variantsL, s ∈ allL := all_in (f := id) (by decide)
  have aW : ∀ s ∈ wordsL, s ∈ allL := all_in (f := id) (by decide)
  have aP : ∀ s ∈ privL, s ∈ allL := all_in (f := id) (by decide)
  have aK : ∀ s ∈ keysL, s ∈ allL := all_in (f := id) (by decide)
  have hl : B.lang = ⟨#[]⟩ ∨ P B.lang := Or.inr (hw _ (aL _ h.lang))
  have he : ∀ s ∈ B.ext, P s := by
    rcases h.ext with e | ⟨_, s, hs, e⟩
    · rw [e]; simp
    · rw [e]
      intro x hx
      rw [List.mem_singleton.1 hx]
      exact hw s (aX s hs)
  have hsc : B.script = ⟨#[]⟩ ∨ P B.script := (aS _ h.script).imp id (hw _)
  have hr : B.region = ⟨#[]⟩ ∨ P B.region := (aR _ h.region).imp id (hw _)
  have hv : ∀ s ∈ B.vars, P s := fun s hs => hw s (aV s (h.vars.2.2 s hs))
  have hk : ∀ x ∈ B.exts, P x.f0 := fun x hx => by
    obtain ⟨j, hj⟩ := List.getElem?_of_mem hx
    exact hw _ (aK _ (List.mem_of_getElem? (h.exts.2 j x hj).1))
  have hs : ∀ x ∈ B.exts, ∀ s ∈ x.f1, P s := fun x hx s hs => by
    obtain ⟨j, hj⟩ := List.getElem?_of_mem hx
    exact hw s (aW s ((h.exts.2 j x hj).2.2.2 s hs))
  have hp : ∀ s ∈ B.priv, P s := fun s hs => hw s (aP s (h.priv.2 s hs))
  unfold spoiltT
  by_cases q1 : n = 1
  · rw [if_pos q1]
    refine ⟨hl, he, hsc, hr, fun s hs => ?_, hk, hs, hp⟩
    rcases List.mem_append.1 hs with hs | hs
    · exact hv s hs
    · rcases List.mem_cons.1 hs with rfl | hs
      · exact w _ (inB_mem (by decide))
      · rw [List.mem_singleton.1 hs]; exact w _ (inB_mem (by decide))
  rw [if_neg q1]
  by_cases q2 : n = 2
  · rw [if_pos q2]
    exact ⟨Or.inr (hw _ (aT _ h.lang)), he, hsc, hr, hv, hk, hs, hp⟩
  rw [if_neg q2]
  by_cases q3 : n = 3
  · rw [if_pos q3]
    refine ⟨hl, he, hsc, hr, hv, fun x hx => ?_, fun x hx => ?_, hp⟩
    · rcases List.mem_append.1 hx with hx | hx
      · exact hk x hx
      · rw [List.mem_singleton.1 hx]; exact w _ (inB_mem (by decide))
    · rcases List.mem_append.1 hx with hx | hx
      · exact hs x hx
      · rw [List.mem_singleton.1 hx]; simp
  rw [if_neg q3]
  by_cases q4 : n = 4
  · rw [if_pos q4]; exact ⟨hl, he, Or.inr (w ⟨#[108, 97, 116]⟩ (inB_mem (by decide))), hr, hv, hk, hs, hp⟩
  rw [if_neg q4]
  by_cases q5 : n = 5
  · rw [if_pos q5]; exact ⟨hl, he, hsc, hr, hv, hk, hs, hp⟩
  rw [if_neg q5]
  by_cases q6 : n = 6
  · rw [if_pos q6]
    refine ⟨hl, he, hsc, hr, hv, hk, hs, fun s hs => ?_⟩
    rcases List.mem_append.1 hs with hs | hs
    · exact hp s hs
    · rw [List.mem_singleton.1 hs]; exact w _ (inB_mem (by decide))
  rw [if_neg q6]
  by_cases q7 : n = 7
  · rw [if_pos q7]
    refine ⟨hl, he, hsc, hr, hv, fun x hx => ?_, fun x hx => ?_, hp⟩
    · rcases List.mem_append.1 hx with hx | hx
      · exact hk x hx
      · rcases List.mem_cons.1 hx with rfl | hx
        · exact w _ (inB_mem (by decide))
        · rw [List.mem_singleton.1 hx]; exact w _ (inB_mem (by decide))
    · rcases List.mem_append.1 hx with hx | hx
      · exact hs x hx
      · rcases List.mem_cons.1 hx with rfl | hx
        · intro s hs; rw [List.mem_singleton.1 hs]; exact w _ (inB_mem (by decide))
        · rw [List.mem_singleton.1 hx]
          intro s hs; rw [List.mem_singleton.1 hs]; exact w _ (inB_mem (by decide))
  rw [if_neg q7]
  by_cases q8 : n = 8
  · rw [if_pos q8]; exact ⟨Or.inl rfl, he, hsc, hr, hv, hk, hs, hp⟩
  rw [if_neg q8]
  exact ⟨hl, he, hsc, hr, hv, hk, hs, hp⟩
theorem some1_is {s x : ByteArray} (h : x ∈ some1 s) : x = s ∧ s ≠ ⟨#[]⟩ := by
  unfold some1 at h
  split at h
  · cases h
  · rename_i c
    exact ⟨List.mem_singleton.1 h, fun e => c (by rw [e, Go.ByteArray.toList_eq])⟩
theorem AllT.sub {P : ByteArray → Prop} {T : TG} (h : AllT P T) (hx : P ⟨#[120]⟩) : ∀ s ∈ subL T.lang T.ext T.script T.region T.vars T.exts T.priv, P s := by
  intro s hs
  unfold subL at hs
  rcases List.mem_append.1 hs with hs | hs
  · rcases List.mem_append.1 hs with hs | hs
    · rcases List.mem_append.1 hs with hs | hs
      · rcases List.mem_append.1 hs with hs | hs
        · rcases List.mem_append.1 hs with hs | hs
          · obtain ⟨e, h0⟩ := some1_is hs
            rw [e]; exact h.lang.resolve_left h0
          · exact h.ext s hs
        · rcases List.mem_append.1 hs with hs | hs
          · obtain ⟨e, h0⟩ := some1_is hs
            rw [e]; exact h.script.resolve_left h0
          · obtain ⟨e, h0⟩ := some1_is hs
            rw [e]; exact h.region.resolve_left h0
      · exact h.vars s hs
    · obtain ⟨x, hx, hs⟩ := List.mem_flatMap.1 hs
      rcases List.mem_cons.1 hs with rfl | hs
      · exact h.keys x hx
      · exact h.subs x hx s hs
  · split at hs
    · cases hs
    · rcases List.mem_cons.1 hs with rfl | hs
      · exact hx
      · exact h.priv s hs
theorem baseT_grand {B : TG} {l6 : List Int} (h : BaseT B l6) (n : Int) : (spoiltT B n).grand = ⟨#[]⟩ ∨ (spoiltT B n).grand = ⟨#[105, 45, 97, 109, 105]⟩ := by
  unfold spoiltT
  repeat' split
  all_goals first | exact Or.inl h.grand | exact Or.inr rfl
theorem baseT_subs (P : ByteArray → Prop) (hw : ∀ s ∈ allL, P s) {B : TG} {l6 : List Int} (h : BaseT B l6) (n : Int) : ∀ s ∈ subsT (spoiltT B n), P s := by
  unfold subsT subsL
  split
  · exact (baseT_all P hw h n).sub (hw _ (inB_mem (by decide)))
  · rename_i c
    rcases baseT_grand h n with e | e
    · exact absurd (by rw [e, Go.ByteArray.toList_eq]) c
    · rw [e]
      intro s hs
      refine hw s ((all_in (l := (split (bl ⟨#[105, 45, 97, 109, 105]⟩)).map mk) (f := id) (by decide)) s hs)
end Go.Proofs.Ytojglflamecnkaa.Iso
