/- The law LookupTells, in plain words: what is looked up is what the document says. No condition. -/
import Derived.Test.YtoigdaioghmlpaaEvL
import Derived.Test.YtoigdaioghmlpaaPx6
namespace Go.Proofs.Ytoigdaioghmlpaa.Iso
set_option linter.unusedSimpArgs false
open Go Go.RowKit Go.Proofs.YtoigdaioghmlpaaW.PrintWords Go.Proofs.Ytoigdaioghmlpaa.P
theorem LookupTells_pure (a b : List ByteArray) (o : ByteArray) : Ev (fun k => isoglosslaw21_LookupTells.f k a b o) true := by
  unfold isoglosslaw21_LookupTells.f
  refine Ev.bind law21_awake_ev ?_
  refine Ev.bind (Few_ev a 5 (by omega)) (Ev.bind (Few_ev b 8 (by omega)) ?_)
  have fr : Fits 1000000 (cut40 5 a) := ⟨by have := (cut40_fits 5 a).1; omega, (cut40_fits 5 a).2⟩
  have ft : Fits 1000000 (cut40 8 b) := ⟨by have := (cut40_fits 8 b).1; omega, (cut40_fits 8 b).2⟩
  generalize cut40 5 a = r at *
  generalize cut40 8 b = t at *
  simp only [law21_short_eq, Option.bind_some]
  generalize (bl o).take 40 = u
  refine Ev.bind (Which_ev r t fr ft) (Ev.bind (ref_Which_ev r t fr ft) (Ev.bind (Lookup_ev r t fr ft u) ?_))
  simp only [↓reduceIte, bne_self_eq_false]
  refine Ev.succ ?_
  simp only [isoglosslaw21_LookupTells.j0, Bool.false_eq_true, ↓reduceIte]
  unfold lookup
  cases h : which r t with
  | none =>
    simp only [encW, Bool.false_eq_true, ↓reduceIte, beq_self_eq_true]
    exact Ev.now _
  | some p =>
    obtain ⟨i, k⟩ := p
    obtain ⟨_, h2⟩ := which_lt h
    simp only [encW, ↓reduceIte, List.length_map, show (0 : Int) ≤ (k : Int) from by omega, show ((k : Int) < (t.length : Int)) from by omega, getD_mk, beq_self_eq_true]
    exact Ev.now _
end Go.Proofs.Ytoigdaioghmlpaa.Iso
namespace Go.Proofs.Ytoigdaioghmlpaa.Pure
open Go.RowKit Go.Proofs.Ytoigdaioghmlpaa.P Go.Proofs.YtoigdaioghmlpaaW.PrintWords
theorem LookupTells (a b : List ByteArray) (o : ByteArray) (_ : o.size ≤ 140737488351232) : ∃ k, isoglosslaw21_LookupTells.f k a b o = some true := (Iso.LookupTells_pure a b o).rounds
end Go.Proofs.Ytoigdaioghmlpaa.Pure
