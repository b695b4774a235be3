/- The law LookupSequence, in plain words: the texts that the sequence yields are those of the plain paper, and a loop that stops early has seen as many as it asked for. No condition. -/
import Derived.Test.YtoigdaioghmlpaaEvL
import Derived.Test.YtoigdaioghmlpaaPx12
namespace Go.Proofs.Ytoigdaioghmlpaa.Iso
set_option linter.unusedSimpArgs false
set_option linter.unusedVariables false
open Go Go.RowKit Go.Proofs.YtoigdaioghmlpaaW.PrintWords Go.Proofs.Ytoigdaioghmlpaa.P
theorem LookupSequence_pure (a : ByteArray) (n : Int) : Ev (fun k => isoglosslaw21_LookupSequence.f k a n) true := by
  unfold isoglosslaw21_LookupSequence.f
  refine Ev.bind law21_awake_ev ?_
  simp only [law21_short_eq, Option.bind_some]
  have hl : ((bl a).take 40).length ≤ 40 := List.length_take_le _ _
  generalize (bl a).take 40 = s at *
  refine Ev.bind (ref_Seq_ev s (by omega)) (Ev.bind (Seq_ev s (by omega)) ?_)
  obtain ⟨m, hm, hmr⟩ := law21_rest_eq n 8 (by omega) (by omega)
  have hmr' : isoglosslaw21_rest.f n 8 = some (m : Int) := hmr
  simp only [hmr', Option.bind_some]
  rw [if_pos ⟨trivial, trivial, by rw [List.length_map]; have := seq_length s.length s (Nat.le_refl _); omega, by omega, by omega⟩]
  exact Ev.now _
end Go.Proofs.Ytoigdaioghmlpaa.Iso
namespace Go.Proofs.Ytoigdaioghmlpaa.Pure
open Go.RowKit Go.Proofs.Ytoigdaioghmlpaa.P Go.Proofs.YtoigdaioghmlpaaW.PrintWords
theorem LookupSequence (a : ByteArray) (n : Int) (_ : a.size ≤ 140737488351232) (_ : (Lit.int .i64 n).wf = true) : ∃ k, isoglosslaw21_LookupSequence.f k a n = some true := (Iso.LookupSequence_pure a n).rounds
end Go.Proofs.Ytoigdaioghmlpaa.Pure
