/- What holds of all words that tags of plain numbers are made of holds of all texts of such a tag. No condition. -/
import Derived.Test.YtojglflamecnkaaEvTxt
namespace Go.Proofs.Ytojglflamecnkaa.Iso
open Go Go.RowKit Go.Proofs.YtojglflamecnkaaW.PrintWords Go.Proofs.Ytojglflamecnkaa.P
set_option linter.unusedVariables false
structure AllT (P : ByteArray → Prop) (T : TG) : Prop where
  lang : T.lang = ⟨#[]⟩ ∨ P T.lang
  ext : ∀ s ∈ T.ext, P s
  script : T.script = ⟨#[]⟩ ∨ P T.script
  region : T.region = ⟨#[]⟩ ∨ P T.region
  vars : ∀ s ∈ T.vars, P s
  keys : ∀ x ∈ T.exts, P x.f0
  subs : ∀ x ∈ T.exts, ∀ s ∈ x.f1, P s
  priv : ∀ s ∈ T.priv, P s
theorem some1_is {s x : ByteArray} (h : x ∈ some1 s) : x = s ∧ s ≠ ⟨#[]⟩ := by
  unfold some1 at h
  split at h
  · cases h
  · rename_i c
    exact ⟨List.mem_singleton.1 h, fun e => c (by rw [e, Go.ByteArray.toList_eq])⟩
theorem AllT.sub {P : ByteArray → Prop} {T : TG} (h : AllT P T) (hx : P ⟨#[120]⟩) : ∀ s ∈ subL T.lang T.ext T.script T.region T.vars T.exts T.priv, P s := by
  intro s hs
  unfold subL at hs
  rcases List.mem_append.1 hs with hs | hs
  · rcases List.mem_append.1 hs with hs | hs
    · rcases List.mem_append.1 hs with hs | hs
      · rcases List.mem_append.1 hs with hs | hs
        · rcases List.mem_append.1 hs with hs | hs
          · obtain ⟨e, h0⟩ := some1_is hs
            rw [e]; exact h.lang.resolve_left h0
          · exact h.ext s hs
        · rcases List.mem_append.1 hs with hs | hs
          · obtain ⟨e, h0⟩ := some1_is hs
            rw [e]; exact h.script.resolve_left h0
          · obtain ⟨e, h0⟩ := some1_is hs
            rw [e]; exact h.region.resolve_left h0
      · exact h.vars s hs
    · obtain ⟨x, hx, hs⟩ := List.mem_flatMap.1 hs
      rcases List.mem_cons.1 hs with rfl | hs
      · exact h.keys x hx
      · exact h.subs x hx s hs
  · split at hs
    · cases hs
    · rcases List.mem_cons.1 hs with rfl | hs
      · exact hx
      · exact h.priv s hs
end Go.Proofs.Ytojglflamecnkaa.Iso
