/- The law RenderCases, in plain words, for every input. Condition: as every argument, the text has at most 2^47 - 4096 bytes. -/
import Derived.Test.YtojglflamecnkaaEvR
import Derived.Test.YtojglflamecnkaaPx2
namespace Go.Proofs.Ytojglflamecnkaa.Iso
set_option linter.unusedSimpArgs false
open Go Go.RowKit Go.Proofs.YtojglflamecnkaaW.PrintWords Go.Proofs.Ytojglflamecnkaa.P
theorem RenderCases_pure (a : ByteArray) : Ev (fun k => isoglosslaw08_RenderCases.f k a) true := by
  unfold isoglosslaw08_RenderCases.f
  simp only [law08_awake_eq, law08_short_eq, Option.bind_some, ↓reduceIte]
  have ha := take80 (bl a)
  generalize mk ((bl a).take 80) = s at *
  have hc : (mk (caseS (bl s))).size ≤ 80 := by rw [mk_size, caseS_length, bl_len]; exact ha
  have hu : (mk (up (bl s))).size ≤ 80 := by rw [mk_size, up_length, bl_len]; exact ha
  simp only [case_eq s (by omega), Option.bind_some, case_eq (mk (caseS (bl s))) (by omega), bl_mk, mk_toList, caseS_of (caseS_low (bl s)), ↓reduceIte]
  refine Ev.bind (ref_Lower_ev _ (by omega)) (Ev.bind (ref_Lower_ev _ (by omega)) ?_)
  simp only [bl_mk, mk_toList, caseS_low, ↓reduceIte]
  refine Ev.bind (ref_Upper_ev _ (by omega)) ?_
  simp only [case_eq (mk (up (bl s))) (by omega), Option.bind_some, bl_mk, mk_toList, caseS_of (up_low (bl s)), ↓reduceIte, mk_size, caseS_length, bl_len, beq_self_eq_true]
  exact Ev.now _
end Go.Proofs.Ytojglflamecnkaa.Iso
namespace Go.Proofs.Ytojglflamecnkaa.Pure
open Go.RowKit Go.Proofs.Ytojglflamecnkaa.P Go.Proofs.YtojglflamecnkaaW.PrintWords
theorem RenderCases : isoglosslaw08_RenderCases.Pure := fun s _ => (Iso.RenderCases_pure s).rounds
end Go.Proofs.Ytojglflamecnkaa.Pure
