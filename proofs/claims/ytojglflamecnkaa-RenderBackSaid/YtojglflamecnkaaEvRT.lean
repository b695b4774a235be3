/- How tags are told, in plain words: the document's Case, and what is short. Conditions: texts have at most 2^42 bytes. -/
import Derived.Test.YtojglflamecnkaaEvR
import Derived.Test.YtojglflamecnkaaEvAll
import Derived.Test.YtojglflamecnkaaPx19
import Derived.Test.YtojglflamecnkaaHandSubtags
import Derived.Test.YtojglflamecnkaaPx0
import Derived.Test.YtojglflamecnkaaPx4
import Derived.Test.YtojglflamecnkaaPx6
import Derived.Test.YtojglflamecnkaaPx9
import Derived.Test.YtojglflamecnkaaPx11
import Derived.Test.YtojglflamecnkaaPx12
import Derived.Test.YtojglflamecnkaaPx18
namespace Go.Proofs.Ytojglflamecnkaa.Iso
set_option linter.unusedSimpArgs false
set_option linter.unusedVariables false
set_option linter.unusedSectionVars false
open Go Go.RowKit Go.Proofs.YtojglflamecnkaaW.PrintWords Go.Proofs.Ytojglflamecnkaa.P
abbrev textsT (T : TG) : List Str := (subsT T).map bl
theorem textsT_mk (T : TG) : (textsT T).map mk = subsT T := map_mk_bl _
section
variable {T : TG} (f : FewS T) (h : TxtS T)
include f h
theorem texts_bound : (textsT T).length ≤ 1000000 ∧ (joinL (textsT T)).length ≤ 4398046511104 := by
  have h1 := f.small
  have h2 : (joinL ((subsT T).map bl)).length ≤ 1300000 := textT_len h f
  exact ⟨by rw [List.length_map]; omega, Nat.le_trans h2 (by decide)⟩
theorem lower_eq : render_Lower.f T.lang T.ext T.script T.region T.vars T.exts T.priv T.grand = some (mk (textT T)) := by
  obtain ⟨b1, b2⟩ := texts_bound f h
  unfold render_Lower.f
  have := small_join (textsT T) b2 (by omega)
  rw [textsT_mk] at this
  rw [f.tag, Option.bind_some, this, Option.bind_some]
theorem string_eq : render_String.f T.lang T.ext T.script T.region T.vars T.exts T.priv T.grand = some (mk (caseS (textT T))) := by
  obtain ⟨b1, b2⟩ := texts_bound f h
  unfold render_String.f
  rw [lower_eq f h, Option.bind_some, case_eq _ (by rw [mk_size]; exact b2), Option.bind_some, bl_mk]
end
end Go.Proofs.Ytojglflamecnkaa.Iso
