/- The law RenderTells, in plain words. No condition. -/
import Derived.Test.YtojglflamecnkaaEvRT
import Derived.Test.YtojglflamecnkaaPx23
namespace Go.Proofs.Ytojglflamecnkaa.Pure
open Go Go.RowKit Go.Proofs.Ytojglflamecnkaa.P Go.Proofs.YtojglflamecnkaaW.PrintWords Go.Proofs.Ytojglflamecnkaa.Iso
theorem RenderTells (p0 p1 p2 p3 : Int) (pl4 pl5 pl6 : List Int) (p7 : Int) (s : ByteArray) (n : Int) {u v : Prop} (_ : u) (_ : v) :
    ∃ k, isoglosslaw08_RenderTells.f k p0 p1 p2 p3 pl4 pl5 pl6 p7 s n = some true := by
  obtain ⟨_, ha, A, hA, rfl⟩ := Made_told p0 p1 p2 p3 pl4 pl5 pl6 p7
  have f := hA.fewS (oddN p7)
  have h := baseT_txtS hA (oddN p7)
  have hc := case_eq (mk ((bl s).take 80)) (by rw [mk_size, List.length_take]; omega)
  have hr := refCase_ev (mk ((bl s).take 80)) (by rw [mk_size, List.length_take]; omega)
  have hev : Ev (fun k => isoglosslaw08_RenderTells.f k p0 p1 p2 p3 pl4 pl5 pl6 p7 s n) true := by
    unfold isoglosslaw08_RenderTells.f
    simp only [law08_awake_eq, Option.bind_some]
    refine Ev.bind ha ?_
    simp only [law08_short_eq, Option.bind_some, if_true, lower_eq f h]
    refine Ev.bind f.ref (Ev.bind (fewS_joined f h) ?_)
    simp only [if_true, string_eq f h, Option.bind_some]
    refine Ev.bind (refstring_ev f h) ?_
    simp only [if_true, hc, Option.bind_some]
    refine Ev.bind hr ?_
    simp only [if_true]
    refine Ev.bind (short_ev f h n) (Ev.bind (refshort_ev f h n) ?_)
    simp only [if_true]
    refine Ev.bind (short_ev f h _) (Ev.bind (refshort_ev f h _) ?_)
    simp only [if_true, string_none, Option.bind_some, mk_toList]
    exact Ev.now _
  exact hev.rounds
end Go.Proofs.Ytojglflamecnkaa.Pure
