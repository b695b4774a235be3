/- The law TagClones, in plain words. No condition. -/
import Derived.Test.YtljadeeoaoiilaaEvTxt
import Derived.Test.YtljadeeoaoiilaaEvSame
import Derived.Test.YtljadeeoaoiilaaPx10
import Derived.Test.YtljadeeoaoiilaaPx5
namespace Go.Proofs.Ytljadeeoaoiilaa.Iso
open Go Go.RowKit Go.Proofs.YtljadeeoaoiilaaW.PrintWords Go.Proofs.Ytljadeeoaoiilaa.P
set_option linter.unusedVariables false
set_option linter.unusedSimpArgs false
set_option linter.unusedSectionVars false
theorem awake06c_ev : Ev (fun k => isoglosslaw06_awake.f k) true := by
  unfold isoglosslaw06_awake.f
  refine Ev.bind (tag_Variant_ev _ (by decide)) ?_
  rw [show isVar (bl ⟨#[49, 57, 57, 52]⟩) = true from by decide]
  refine Ev.bind (tag_Variant_ev _ (by decide)) ?_
  rw [show isVar (bl ⟨#[97, 114, 101, 118]⟩) = false from by decide]
  refine Ev.bind (tag_Region_ev _ (by decide)) ?_
  rw [show isReg (bl ⟨#[52, 49, 57]⟩) = true from by decide]
  exact Ev.now _
section
variable (x3 : ByteArray) (T : TG) (c0 : ByteArray) (c1 : List ByteArray) (c2 c3 : ByteArray) (c4 : List ByteArray) (c5 : List S44) (c6 : List ByteArray) (c7 : ByteArray)
  (fin : Ev (fun k => (isoglossref06_Subtags.f k T.lang T.ext T.script T.region T.vars T.exts T.priv T.grand).bind fun a => (isoglossref04_Join.f k a).bind fun b => some (b.toList == x3.toList)) true)
include fin
theorem cl_l4 (i n : Nat) (hi : i < n) (hn : n ≤ 1000)
    (next : ∀ E : List S44, E.length = n → (∀ x ∈ E, x.f1.length ≤ 1000) → Ev (fun k => isoglosslaw06_clones.l3 k x3 ((i + 1 : Nat) : Int) T.lang T.ext T.script T.region T.vars T.exts T.priv T.grand c0 c1 c2 c3 c4 E c6 c7) true) :
    ∀ (m j : Nat) (E : List S44) (hE : E.length = n), m + j = (E[i]'(by omega)).f1.length → (∀ x ∈ E, x.f1.length ≤ 1000) →
    Ev (fun k => isoglosslaw06_clones.l4 k x3 (i : Int) (j : Int) T.lang T.ext T.script T.region T.vars T.exts T.priv T.grand c0 c1 c2 c3 c4 E c6 c7) true := by
  have hwi : wrap64 ((i : Int) + 1) = ((i + 1 : Nat) : Int) := by unfold wrap64; omega
  intro m
  induction m with
  | zero =>
    intro j E hE hj hs
    have hiE : i < E.length := by omega
    refine Ev.succ ?_
    simp only [isoglosslaw06_clones.l4, show (0 : Int) ≤ (i : Int) from by omega, show ((i : Int) < (E.length : Int)) from by omega, getR _ _ hiE, show ¬ ((j : Int) < (E[i].f1.length : Int)) from by omega, ↓reduceIte, hwi, Int.toNat_natCast]
    refine next _ (by rw [List.length_set]; exact hE) (fun x hx => ?_)
    rcases List.mem_or_eq_of_mem_set hx with hx | rfl
    · exact hs x hx
    · show E[i].f1.length ≤ 1000
      exact hs _ (List.getElem_mem hiE)
  | succ m ih =>
    intro j E hE hj hs
    have hiE : i < E.length := by omega
    have hwj : wrap64 ((j : Int) + 1) = ((j + 1 : Nat) : Int) := by have := hs _ (List.getElem_mem hiE); unfold wrap64; omega
    refine Ev.succ ?_
    simp only [isoglosslaw06_clones.l4, show (0 : Int) ≤ (i : Int) from by omega, show ((i : Int) < (E.length : Int)) from by omega, getR _ _ hiE, show ((j : Int) < (E[i].f1.length : Int)) from by omega, show (0 : Int) ≤ (j : Int) from by omega, ↓reduceIte, hwj, Int.toNat_natCast]
    refine ih (j + 1) _ (by rw [List.length_set]; exact hE) ?_ (fun x hx => ?_)
    · rw [List.getElem_set_self, List.length_set]; omega
    · rcases List.mem_or_eq_of_mem_set hx with hx | rfl
      · exact hs x hx
      · rw [List.length_set]; exact hs _ (List.getElem_mem hiE)
theorem cl_l3 : ∀ (m i : Nat) (E : List S44), m + i = E.length → E.length ≤ 1000 → (∀ x ∈ E, x.f1.length ≤ 1000) →
    Ev (fun k => isoglosslaw06_clones.l3 k x3 (i : Int) T.lang T.ext T.script T.region T.vars T.exts T.priv T.grand c0 c1 c2 c3 c4 E c6 c7) true := by
  intro m
  induction m with
  | zero =>
    intro i E hi hn hs
    refine Ev.succ ?_
    simp only [isoglosslaw06_clones.l3, show ¬ ((i : Int) < (E.length : Int)) from by omega, ↓reduceIte]
    exact fin
  | succ m ih =>
    intro i E hi hn hs
    refine Ev.succ ?_
    simp only [isoglosslaw06_clones.l3, show ((i : Int) < (E.length : Int)) from by omega, ↓reduceIte]
    have hiE : i < E.length := by omega
    exact cl_l4 x3 T c0 c1 c2 c3 c4 c6 c7 fin i E.length hiE hn (fun E' h1 h2 => ih (i + 1) E' (by omega) (by omega) h2) E[i].f1.length 0 E rfl rfl hs
theorem cl_l2 (h5 : c5.length ≤ 1000) (hs : ∀ x ∈ c5, x.f1.length ≤ 1000) : ∀ (m i : Nat) (E : List ByteArray), m + i = E.length → E.length ≤ 1000 →
    Ev (fun k => isoglosslaw06_clones.l2 k x3 (i : Int) T.lang T.ext T.script T.region T.vars T.exts T.priv T.grand c0 c1 c2 c3 c4 c5 E c7) true := by
  intro m
  induction m with
  | zero =>
    intro i E hi hn
    refine Ev.succ ?_
    simp only [isoglosslaw06_clones.l2, show ¬ ((i : Int) < (E.length : Int)) from by omega, ↓reduceIte]
    exact cl_l3 x3 T c0 c1 c2 c3 c4 E c7 fin c5.length 0 c5 rfl h5 hs
  | succ m ih =>
    intro i E hi hn
    have hw : wrap64 ((i : Int) + 1) = ((i + 1 : Nat) : Int) := by unfold wrap64; omega
    refine Ev.succ ?_
    simp only [isoglosslaw06_clones.l2, show ((i : Int) < (E.length : Int)) from by omega, show (0 : Int) ≤ (i : Int) from by omega, ↓reduceIte, hw, Int.toNat_natCast]
    exact ih (i + 1) _ (by rw [List.length_set]; omega) (by rw [List.length_set]; omega)
theorem cl_l1 (h5 : c5.length ≤ 1000) (hs : ∀ x ∈ c5, x.f1.length ≤ 1000) (h6 : c6.length ≤ 1000) : ∀ (m i : Nat) (E : List ByteArray), m + i = E.length → E.length ≤ 1000 →
    Ev (fun k => isoglosslaw06_clones.l1 k x3 (i : Int) T.lang T.ext T.script T.region T.vars T.exts T.priv T.grand c0 c1 c2 c3 E c5 c6 c7) true := by
  intro m
  induction m with
  | zero =>
    intro i E hi hn
    refine Ev.succ ?_
    simp only [isoglosslaw06_clones.l1, show ¬ ((i : Int) < (E.length : Int)) from by omega, ↓reduceIte]
    exact cl_l2 x3 T c0 c1 c2 c3 E c5 c7 fin h5 hs c6.length 0 c6 rfl h6
  | succ m ih =>
    intro i E hi hn
    have hw : wrap64 ((i : Int) + 1) = ((i + 1 : Nat) : Int) := by unfold wrap64; omega
    refine Ev.succ ?_
    simp only [isoglosslaw06_clones.l1, show ((i : Int) < (E.length : Int)) from by omega, show (0 : Int) ≤ (i : Int) from by omega, ↓reduceIte, hw, Int.toNat_natCast]
    exact ih (i + 1) _ (by rw [List.length_set]; omega) (by rw [List.length_set]; omega)
theorem cl_l0 (h5 : c5.length ≤ 1000) (hs : ∀ x ∈ c5, x.f1.length ≤ 1000) (h6 : c6.length ≤ 1000) (h4 : c4.length ≤ 1000) : ∀ (m i : Nat) (E : List ByteArray), m + i = E.length → E.length ≤ 1000 →
    Ev (fun k => isoglosslaw06_clones.l0 k x3 (i : Int) T.lang T.ext T.script T.region T.vars T.exts T.priv T.grand c0 E c2 c3 c4 c5 c6 c7) true := by
  intro m
  induction m with
  | zero =>
    intro i E hi hn
    refine Ev.succ ?_
    simp only [isoglosslaw06_clones.l0, show ¬ ((i : Int) < (E.length : Int)) from by omega, ↓reduceIte]
    exact cl_l1 x3 T c0 E c2 c3 c5 c6 c7 fin h5 hs h6 c4.length 0 c4 rfl h4
  | succ m ih =>
    intro i E hi hn
    have hw : wrap64 ((i : Int) + 1) = ((i + 1 : Nat) : Int) := by unfold wrap64; omega
    refine Ev.succ ?_
    simp only [isoglosslaw06_clones.l0, show ((i : Int) < (E.length : Int)) from by omega, show (0 : Int) ≤ (i : Int) from by omega, ↓reduceIte, hw, Int.toNat_natCast]
    exact ih (i + 1) _ (by rw [List.length_set]; omega) (by rw [List.length_set]; omega)
end
theorem sameT_refl (T : TG) : sameT T T = true := by
  unfold sameT
  have : ∀ l : List S44, sameL l l = true := by
    intro l
    induction l with
    | nil => rfl
    | cons x t ih => simp [sameL, sameX, ih]
  simp [this]
theorem clones_ev (T : TG) (f : FewS T) (h : TxtS T) : Ev (fun k => isoglosslaw06_clones.f k T.lang T.ext T.script T.region T.vars T.exts T.priv T.grand) true := by
  have he := f.exts
  have hj := fewS_joined f h
  unfold isoglosslaw06_clones.f
  refine Ev.bind f.ref (Ev.bind hj ?_)
  have hc : tag_Clone.f T.lang T.ext T.script T.region T.vars T.exts T.priv T.grand = some (T.lang, T.ext, T.script, T.region, T.vars, T.exts, T.priv, T.grand) := by
    unfold tag_Clone.f
    rw [if_pos ⟨Nat.le_trans f.ext (by decide), Nat.le_trans f.vars (by decide), Nat.le_trans f.exts (by decide), Nat.le_trans f.priv (by decide), fun x hx => Nat.le_trans (f.subs x hx) (by decide)⟩]
  simp only [hc, Option.bind_some]
  refine Ev.bind (reftag_ev T T (Nat.le_trans f.ext (by decide)) (Nat.le_trans f.vars (by decide)) (Nat.le_trans f.priv (by decide)) (Nat.le_trans f.exts (by decide)) (fun x hx => Nat.le_trans (f.subs x hx) (by decide))) ?_
  simp only [sameT_refl, ↓reduceIte]
  refine cl_l0 (mk (textT T)) T T.lang T.script T.region T.vars T.exts T.priv T.grand (Ev.bind f.ref (Ev.bind hj ?_)) (Nat.le_trans f.exts (by decide)) f.subs f.priv f.vars T.ext.length 0 T.ext rfl f.ext
  simp only [beq_self_eq_true]
  exact Ev.now _
end Go.Proofs.Ytljadeeoaoiilaa.Iso
namespace Go.Proofs.Ytljadeeoaoiilaa.Pure
open Go Go.RowKit Go.Proofs.Ytljadeeoaoiilaa.P Go.Proofs.YtljadeeoaoiilaaW.PrintWords Go.Proofs.Ytljadeeoaoiilaa.Iso
theorem TagClones (p0 p1 p2 p3 : Int) (pl4 pl5 pl6 : List Int) (p7 : Int) (x0 : ByteArray) (x1 : List ByteArray) (x2 x3 : ByteArray) (x4 : List ByteArray) (x5 : List S44) (x6 : List ByteArray) (x7 : ByteArray) :
    ∃ k, isoglosslaw06_TagClones.f k p0 p1 p2 p3 pl4 pl5 pl6 p7 x0 x1 x2 x3 x4 x5 x6 x7 = some true := by
  obtain ⟨_, ha, A, hA, rfl⟩ := Made_told p0 p1 p2 p3 pl4 pl5 pl6 p7
  have hz := few_ev ⟨x0, x1, x2, x3, x4, x5, x6, x7⟩
  have hev : Ev (fun k => isoglosslaw06_TagClones.f k p0 p1 p2 p3 pl4 pl5 pl6 p7 x0 x1 x2 x3 x4 x5 x6 x7) true := by
    unfold isoglosslaw06_TagClones.f
    refine Ev.bind awake06c_ev ?_
    simp only [↓reduceIte]
    refine Ev.bind ha (Ev.bind (clones_ev _ (hA.fewS (oddN p7)) (baseT_txtS hA (oddN p7))) ?_)
    simp only [↓reduceIte]
    refine Ev.bind hz (Ev.bind (clones_ev _ (FewS.few ⟨x0, x1, x2, x3, x4, x5, x6, x7⟩) (TxtS.few ⟨x0, x1, x2, x3, x4, x5, x6, x7⟩)) (Ev.now _))
  exact hev.rounds
end Go.Proofs.Ytljadeeoaoiilaa.Pure
