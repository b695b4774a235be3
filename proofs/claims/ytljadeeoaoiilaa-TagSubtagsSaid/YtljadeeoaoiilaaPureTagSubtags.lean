/- The law TagSubtags, in plain words. No condition. -/
import Derived.Test.YtljadeeoaoiilaaPx12
import Derived.Test.YtljadeeoaoiilaaEvMade
import Derived.Test.YtljadeeoaoiilaaEvFew
import Derived.Test.YtljadeeoaoiilaaEvSubtags
namespace Go.Proofs.Ytljadeeoaoiilaa.Iso
open Go Go.RowKit Go.Proofs.YtljadeeoaoiilaaW.PrintWords Go.Proofs.Ytljadeeoaoiilaa.P
set_option linter.unusedVariables false
theorem awake06s_ev : Ev (fun k => isoglosslaw06_awake.f k) true := by
  unfold isoglosslaw06_awake.f
  refine Ev.bind (tag_Variant_ev _ (by decide)) ?_
  rw [show isVar (bl ⟨#[49, 57, 57, 52]⟩) = true from by decide]
  refine Ev.bind (tag_Variant_ev _ (by decide)) ?_
  rw [show isVar (bl ⟨#[97, 114, 101, 118]⟩) = false from by decide]
  refine Ev.bind (tag_Region_ev _ (by decide)) ?_
  rw [show isReg (bl ⟨#[52, 49, 57]⟩) = true from by decide]
  exact Ev.now _
/-- A tag's rows are few, and short; so is the tag that it keeps of old. -/
structure FewS (T : TG) : Prop where
  ext : T.ext.length ≤ 1000
  vars : T.vars.length ≤ 1000
  exts : T.exts.length ≤ 90
  priv : T.priv.length ≤ 1000
  subs : ∀ x ∈ T.exts, x.f1.length ≤ 1000
  grand : T.grand.size ≤ 1000
theorem BaseT.fewS {B : TG} {l6 : List Int} (h : BaseT B l6) (n : Int) : FewS (spoiltT B n) := by
  have e1 : B.ext.length ≤ 1 := by rcases h.ext with e | ⟨_, s, _, e⟩ <;> rw [e] <;> simp
  have v1 := h.vars.2.1
  have x1 := h.exts.1
  have p1 := h.priv.1
  have g1 : B.grand.size ≤ 1000 := by rw [h.grand]; decide
  have s1 : ∀ x ∈ B.exts, x.f1.length ≤ 4 := fun x hx => by
    obtain ⟨j, hj⟩ := List.getElem?_of_mem hx
    exact (h.exts.2 j x hj).2.2.1
  have s2 : ∀ x ∈ B.exts, x.f1.length ≤ 1000 := fun x hx => by have := s1 x hx; omega
  unfold spoiltT
  by_cases q1 : n = 1
  · rw [if_pos q1]; exact ⟨by show B.ext.length ≤ 1000; omega, by show (B.vars ++ _).length ≤ 1000; rw [List.length_append]; simp; omega, by show B.exts.length ≤ 90; omega, by show B.priv.length ≤ 1000; omega, s2, g1⟩
  rw [if_neg q1]
  by_cases q2 : n = 2
  · rw [if_pos q2]; exact ⟨by show B.ext.length ≤ 1000; omega, by show B.vars.length ≤ 1000; omega, by show B.exts.length ≤ 90; omega, by show B.priv.length ≤ 1000; omega, s2, g1⟩
  rw [if_neg q2]
  by_cases q3 : n = 3
  · rw [if_pos q3]
    refine ⟨by show B.ext.length ≤ 1000; omega, by show B.vars.length ≤ 1000; omega, by show (B.exts ++ _).length ≤ 90; rw [List.length_append]; simp; omega, by show B.priv.length ≤ 1000; omega, fun x hx => ?_, g1⟩
    rcases List.mem_append.1 hx with hx | hx
    · have := s1 x hx; omega
    · rw [List.mem_singleton.1 hx]; simp
  rw [if_neg q3]
  by_cases q4 : n = 4
  · rw [if_pos q4]; exact ⟨by show B.ext.length ≤ 1000; omega, by show B.vars.length ≤ 1000; omega, by show B.exts.length ≤ 90; omega, by show B.priv.length ≤ 1000; omega, s2, g1⟩
  rw [if_neg q4]
  by_cases q5 : n = 5
  · rw [if_pos q5]; exact ⟨by show B.ext.length ≤ 1000; omega, by show B.vars.length ≤ 1000; omega, by show B.exts.length ≤ 90; omega, by show B.priv.length ≤ 1000; omega, s2, by show (ByteArray.mk #[105, 45, 97, 109, 105]).size ≤ 1000; decide⟩
  rw [if_neg q5]
  by_cases q6 : n = 6
  · rw [if_pos q6]; exact ⟨by show B.ext.length ≤ 1000; omega, by show B.vars.length ≤ 1000; omega, by show B.exts.length ≤ 90; omega, by show (B.priv ++ _).length ≤ 1000; rw [List.length_append]; simp; omega, s2, g1⟩
  rw [if_neg q6]
  by_cases q7 : n = 7
  · rw [if_pos q7]
    refine ⟨by show B.ext.length ≤ 1000; omega, by show B.vars.length ≤ 1000; omega, by show (B.exts ++ _).length ≤ 90; rw [List.length_append]; simp; omega, by show B.priv.length ≤ 1000; omega, fun x hx => ?_, g1⟩
    rcases List.mem_append.1 hx with hx | hx
    · have := s1 x hx; omega
    · rcases List.mem_cons.1 hx with rfl | hx
      · simp
      · rw [List.mem_singleton.1 hx]; simp
  rw [if_neg q7]
  by_cases q8 : n = 8
  · rw [if_pos q8]; exact ⟨by show B.ext.length ≤ 1000; omega, by show B.vars.length ≤ 1000; omega, by show B.exts.length ≤ 90; omega, by show B.priv.length ≤ 1000; omega, s2, g1⟩
  rw [if_neg q8]
  exact ⟨by omega, by omega, by omega, by omega, s2, g1⟩
theorem FewS.few (T : TG) : FewS (fewT T) :=
  ⟨Nat.le_trans (row4_len _) (by decide), Nat.le_trans (row4_len _) (by decide), by show ((T.exts.take 4).map cutX).length ≤ 90; rw [List.length_map, List.length_take]; omega, Nat.le_trans (row4_len _) (by decide), fun x hx => by
    obtain ⟨y, _, rfl⟩ := List.mem_map.1 hx
    exact Nat.le_trans (row4_len _) (by decide), Nat.le_trans (cut12_size _) (by decide)⟩
abbrev subsT (T : TG) : List ByteArray := subsL T.lang T.ext T.script T.region T.vars T.exts T.priv T.grand
theorem FewS.len {T : TG} (h : FewS T) : (subL T.lang T.ext T.script T.region T.vars T.exts T.priv).length ≤ 100000 := sub_len _ _ _ _ _ _ _ h.ext h.vars h.exts h.priv h.subs
theorem FewS.tag {T : TG} (h : FewS T) : tag_Subtags.f T.lang T.ext T.script T.region T.vars T.exts T.priv T.grand = some (subsT T) := tagSub_eq _ _ _ _ _ _ _ _ h.len h.grand
theorem FewS.ref {T : TG} (h : FewS T) : Ev (fun k => isoglossref06_Subtags.f k T.lang T.ext T.script T.region T.vars T.exts T.priv T.grand) (subsT T) := refSub_ev _ _ _ _ _ _ _ _ (Nat.le_trans h.exts (by decide)) h.len h.grand
theorem FewS.small {T : TG} (h : FewS T) : (subsT T).length ≤ 100000 := by
  unfold subsT subsL
  split
  · exact h.len
  · rw [List.length_map]
    have := split_length (bl T.grand)
    have e : (bl T.grand).length = T.grand.size := bl_len _
    have := h.grand
    omega
theorem none_sub : tag_Subtags.f (⟨#[]⟩ : ByteArray) ([] : List ByteArray) (⟨#[]⟩ : ByteArray) (⟨#[]⟩ : ByteArray) ([] : List ByteArray) ([] : List S44) ([] : List ByteArray) (⟨#[]⟩ : ByteArray) = some [] := by
  have e0 : (⟨#[]⟩ : ByteArray).toList = ([] : List UInt8) := by rw [Go.ByteArray.toList_eq]
  have e1 : some1 (⟨#[]⟩ : ByteArray) = [] := by unfold some1; rw [if_pos e0]
  have e2 : subL (⟨#[]⟩ : ByteArray) ([] : List ByteArray) (⟨#[]⟩ : ByteArray) (⟨#[]⟩ : ByteArray) ([] : List ByteArray) ([] : List S44) ([] : List ByteArray) = [] := by unfold subL; rw [e1]; rfl
  unfold tag_Subtags.f
  rw [if_pos e0, e2, if_pos (by decide)]
end Go.Proofs.Ytljadeeoaoiilaa.Iso
namespace Go.Proofs.Ytljadeeoaoiilaa.Pure
open Go Go.RowKit Go.Proofs.Ytljadeeoaoiilaa.P Go.Proofs.YtljadeeoaoiilaaW.PrintWords Go.Proofs.Ytljadeeoaoiilaa.Iso
theorem TagSubtags (x0 : ByteArray) (x1 : List ByteArray) (x2 x3 : ByteArray) (x4 : List ByteArray) (x5 : List S44) (x6 : List ByteArray) (x7 : ByteArray) (p0 p1 p2 p3 : Int) (pl4 pl5 pl6 : List Int) (p7 : Int) :
    ∃ k, isoglosslaw06_TagSubtags.f k x0 x1 x2 x3 x4 x5 x6 x7 p0 p1 p2 p3 pl4 pl5 pl6 p7 = some true := by
  obtain ⟨_, ha, A, hA, rfl⟩ := Made_told p0 p1 p2 p3 pl4 pl5 pl6 p7
  have hz := few_ev ⟨x0, x1, x2, x3, x4, x5, x6, x7⟩
  have hF := FewS.few ⟨x0, x1, x2, x3, x4, x5, x6, x7⟩
  have hM := hA.fewS (oddN p7)
  have hev : Ev (fun k => isoglosslaw06_TagSubtags.f k x0 x1 x2 x3 x4 x5 x6 x7 p0 p1 p2 p3 pl4 pl5 pl6 p7) true := by
    unfold isoglosslaw06_TagSubtags.f
    refine Ev.bind awake06s_ev (Ev.bind hz ?_)
    simp only [hF.tag, Option.bind_some]
    refine Ev.bind hz (Ev.bind hF.ref (Ev.bind (refrow_ev _ _ (Nat.le_trans hF.small (by decide))) (Ev.bind ha ?_)))
    simp only [hM.tag, Option.bind_some]
    refine Ev.bind ha (Ev.bind hM.ref (Ev.bind (refrow_ev _ _ (Nat.le_trans hM.small (by decide))) ?_))
    simp only [none_sub, decide_true, ↓reduceIte, Option.bind_some]
    exact Ev.now _
  exact hev.rounds
end Go.Proofs.Ytljadeeoaoiilaa.Pure
