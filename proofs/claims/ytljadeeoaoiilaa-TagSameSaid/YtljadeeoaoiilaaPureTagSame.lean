/- The law TagSame, in plain words. No condition. -/
import Derived.Test.YtljadeeoaoiilaaWalkTagSame
import Derived.Test.YtljadeeoaoiilaaEvMade
import Derived.Test.YtljadeeoaoiilaaEvFew
import Derived.Test.YtljadeeoaoiilaaEvSame
namespace Go.Proofs.Ytljadeeoaoiilaa.Iso
open Go Go.RowKit Go.Proofs.YtljadeeoaoiilaaW.PrintWords Go.Proofs.Ytljadeeoaoiilaa.P
set_option linter.unusedVariables false
theorem awake06_ev : Ev (fun k => isoglosslaw06_awake.f k) true := by
  unfold isoglosslaw06_awake.f
  refine Ev.bind (tag_Variant_ev _ (by decide)) ?_
  rw [show isVar (bl ⟨#[49, 57, 57, 52]⟩) = true from by decide]
  refine Ev.bind (tag_Variant_ev _ (by decide)) ?_
  rw [show isVar (bl ⟨#[97, 114, 101, 118]⟩) = false from by decide]
  refine Ev.bind (tag_Region_ev _ (by decide)) ?_
  rw [show isReg (bl ⟨#[52, 49, 57]⟩) = true from by decide]
  exact Ev.now _
/-- A tag's rows are short. -/
structure Short (T : TG) : Prop where
  ext : T.ext.length ≤ 1000
  vars : T.vars.length ≤ 1000
  exts : T.exts.length ≤ 1000
  priv : T.priv.length ≤ 1000
  subs : ∀ x ∈ T.exts, x.f1.length ≤ 1000
theorem BaseT.short {B : TG} {l6 : List Int} (h : BaseT B l6) (n : Int) : Short (spoiltT B n) := by
  have e1 : B.ext.length ≤ 1 := by rcases h.ext with e | ⟨_, s, _, e⟩ <;> rw [e] <;> simp
  have v1 := h.vars.2.1
  have x1 := h.exts.1
  have p1 := h.priv.1
  have s1 : ∀ x ∈ B.exts, x.f1.length ≤ 4 := fun x hx => by
    obtain ⟨j, hj⟩ := List.getElem?_of_mem hx
    exact (h.exts.2 j x hj).2.2.1
  unfold spoiltT
  by_cases q1 : n = 1
  · rw [if_pos q1]; exact ⟨by show B.ext.length ≤ 1000; omega, by show (B.vars ++ _).length ≤ 1000; rw [List.length_append]; simp; omega, by show B.exts.length ≤ 1000; omega, by show B.priv.length ≤ 1000; omega, fun x hx => by have := s1 x hx; omega⟩
  rw [if_neg q1]
  by_cases q2 : n = 2
  · rw [if_pos q2]; exact ⟨by show B.ext.length ≤ 1000; omega, by show B.vars.length ≤ 1000; omega, by show B.exts.length ≤ 1000; omega, by show B.priv.length ≤ 1000; omega, fun x hx => by have := s1 x hx; omega⟩
  rw [if_neg q2]
  by_cases q3 : n = 3
  · rw [if_pos q3]
    refine ⟨by show B.ext.length ≤ 1000; omega, by show B.vars.length ≤ 1000; omega, by show (B.exts ++ _).length ≤ 1000; rw [List.length_append]; simp; omega, by show B.priv.length ≤ 1000; omega, fun x hx => ?_⟩
    rcases List.mem_append.1 hx with hx | hx
    · have := s1 x hx; omega
    · rw [List.mem_singleton.1 hx]; simp
  rw [if_neg q3]
  by_cases q4 : n = 4
  · rw [if_pos q4]; exact ⟨by show B.ext.length ≤ 1000; omega, by show B.vars.length ≤ 1000; omega, by show B.exts.length ≤ 1000; omega, by show B.priv.length ≤ 1000; omega, fun x hx => by have := s1 x hx; omega⟩
  rw [if_neg q4]
  by_cases q5 : n = 5
  · rw [if_pos q5]; exact ⟨by show B.ext.length ≤ 1000; omega, by show B.vars.length ≤ 1000; omega, by show B.exts.length ≤ 1000; omega, by show B.priv.length ≤ 1000; omega, fun x hx => by have := s1 x hx; omega⟩
  rw [if_neg q5]
  by_cases q6 : n = 6
  · rw [if_pos q6]; exact ⟨by show B.ext.length ≤ 1000; omega, by show B.vars.length ≤ 1000; omega, by show B.exts.length ≤ 1000; omega, by show (B.priv ++ _).length ≤ 1000; rw [List.length_append]; simp; omega, fun x hx => by have := s1 x hx; omega⟩
  rw [if_neg q6]
  by_cases q7 : n = 7
  · rw [if_pos q7]
    refine ⟨by show B.ext.length ≤ 1000; omega, by show B.vars.length ≤ 1000; omega, by show (B.exts ++ _).length ≤ 1000; rw [List.length_append]; simp; omega, by show B.priv.length ≤ 1000; omega, fun x hx => ?_⟩
    rcases List.mem_append.1 hx with hx | hx
    · have := s1 x hx; omega
    · rcases List.mem_cons.1 hx with rfl | hx
      · simp
      · rw [List.mem_singleton.1 hx]; simp
  rw [if_neg q7]
  by_cases q8 : n = 8
  · rw [if_pos q8]; exact ⟨by show B.ext.length ≤ 1000; omega, by show B.vars.length ≤ 1000; omega, by show B.exts.length ≤ 1000; omega, by show B.priv.length ≤ 1000; omega, fun x hx => by have := s1 x hx; omega⟩
  rw [if_neg q8]
  exact ⟨by omega, by omega, by omega, by omega, fun x hx => by have := s1 x hx; omega⟩
theorem Short.few (T : TG) : Short (fewT T) :=
  ⟨Nat.le_trans (row4_len _) (by decide), Nat.le_trans (row4_len _) (by decide), by show ((T.exts.take 4).map cutX).length ≤ 1000; rw [List.length_map, List.length_take]; omega, Nat.le_trans (row4_len _) (by decide), fun x hx => by
    obtain ⟨y, _, rfl⟩ := List.mem_map.1 hx
    exact Nat.le_trans (row4_len _) (by decide)⟩
theorem refSame_ev (T U : TG) (h : Short T) : Ev (fun k => isoglossref06_Same.f k T.lang T.ext T.script T.region T.vars T.exts T.priv T.grand U.lang U.ext U.script U.region U.vars U.exts U.priv U.grand) (sameT T U) :=
  reftag_ev T U (Nat.le_trans h.ext (by decide)) (Nat.le_trans h.vars (by decide)) (Nat.le_trans h.priv (by decide)) (Nat.le_trans h.exts (by decide)) (fun x hx => Nat.le_trans (h.subs x hx) (by decide))
end Go.Proofs.Ytljadeeoaoiilaa.Iso
namespace Go.Proofs.Ytljadeeoaoiilaa.Pure
open Go Go.RowKit Go.Proofs.Ytljadeeoaoiilaa.P Go.Proofs.YtljadeeoaoiilaaW.PrintWords Go.Proofs.Ytljadeeoaoiilaa.Iso
theorem TagSame (p0 p1 p2 p3 : Int) (pl4 pl5 pl6 : List Int) (p7 : Int) (q0 q1 q2 q3 : Int) (ql4 ql5 ql6 : List Int) (q7 : Int) (x0 : ByteArray) (x1 : List ByteArray) (x2 x3 : ByteArray) (x4 : List ByteArray) (x5 : List S44) (x6 : List ByteArray) (x7 : ByteArray) :
    ∃ k, isoglosslaw06_TagSame.f k p0 p1 p2 p3 pl4 pl5 pl6 p7 q0 q1 q2 q3 ql4 ql5 ql6 q7 x0 x1 x2 x3 x4 x5 x6 x7 = some true := by
  obtain ⟨_, ha, A, hA, rfl⟩ := Made_told p0 p1 p2 p3 pl4 pl5 pl6 p7
  obtain ⟨_, hb, B, hB, rfl⟩ := Made_told q0 q1 q2 q3 ql4 ql5 ql6 q7
  have hz := few_ev ⟨x0, x1, x2, x3, x4, x5, x6, x7⟩
  have hev : Ev (fun k => isoglosslaw06_TagSame.f k p0 p1 p2 p3 pl4 pl5 pl6 p7 q0 q1 q2 q3 ql4 ql5 ql6 q7 x0 x1 x2 x3 x4 x5 x6 x7) true := by
    unfold isoglosslaw06_TagSame.f
    refine Ev.bind awake06_ev (Ev.bind ha (Ev.bind hb (Ev.bind hz (Ev.bind (refSame_ev _ _ (hA.short _)) (Ev.bind (refSame_ev _ _ (hA.short _)) ?_)))))
    rw [if_pos ⟨rfl, rfl, rfl, (Short.few _).vars⟩]
    exact Ev.now _
  exact hev.rounds
end Go.Proofs.Ytljadeeoaoiilaa.Pure
