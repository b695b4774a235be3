/- The tags made of numbers are right, but for what is spoilt; the document's Check. Plain words. -/
import Derived.Test.YtejnfbfikadpdaaGreatDoorHandAll
import Derived.Test.YtejnfbfikadpdaaGreatDoorHandParse
import Derived.Test.YtejnfbfikadpdaaGreatDoorEvTxt
import Derived.Test.YtejnfbfikadpdaaGreatDoorPx15
namespace Go.Proofs.YtejnfbfikadpdaaGreatDoor.P
open Go.RowKit Go.Proofs.YtejnfbfikadpdaaGreatDoorW.PrintWords Go.Proofs.YtejnfbfikadpdaaGreatDoor.Iso
set_option linter.unusedVariables false
set_option linter.unusedSimpArgs false
def okB (s : ByteArray) : Bool := decide (s.size ≤ 8) && Iso.alnum (bl s)
abbrev txs (ps : List PieceR) : List ByteArray := ps.map (·.f1)
structure ExtP (x : S47) (A : List PieceR) : Prop where
  tx : txs A = x.f0 :: x.f1
structure ShapeT (T : TG) : Prop where
  lang : okB T.lang = true ∧ Iso.isLang (bl T.lang) = true
  ext : T.ext.length ≤ 3 ∧ (∀ s ∈ T.ext, okB s = true ∧ isExtl (bl s) = true) ∧ (T.ext ≠ [] → T.lang.size ≤ 3)
  script : T.script = ⟨#[]⟩ ∨ okB T.script = true ∧ Iso.isScr (bl T.script) = true
  region : T.region = ⟨#[]⟩ ∨ okB T.region = true ∧ Iso.isReg (bl T.region) = true
  vars : (∀ s ∈ T.vars, okB s = true ∧ Iso.isVar (bl s) = true) ∧ (T.vars.map bl).Nodup
  exts : (∀ x ∈ T.exts, okB x.f0 = true ∧ Iso.isSing (bl x.f0) = true ∧ x.f1 ≠ [] ∧ ∀ s ∈ x.f1, okB s = true ∧ qTwo s = true) ∧ (keysOf T.exts).Nodup
end Go.Proofs.YtejnfbfikadpdaaGreatDoor.P
namespace Go.Proofs.YtejnfbfikadpdaaGreatDoor.P
open Go.RowKit Go.Proofs.YtejnfbfikadpdaaGreatDoorW.PrintWords Go.Proofs.YtejnfbfikadpdaaGreatDoor.Iso
set_option linter.unusedVariables false
set_option linter.unusedSimpArgs false
def offP (a : Nat) (t : Str) : List PieceR := (eachGo a [] t).map fun p => ⟨(p.1 : Int), mk (low p.2)⟩
theorem piecesOf_off (s : ByteArray) : piecesOf s = offP 0 (bl s) := by
  unfold piecesOf offP eachB each mkP
  rw [List.map_map]; rfl
end Go.Proofs.YtejnfbfikadpdaaGreatDoor.P
namespace Go.Proofs.YtejnfbfikadpdaaGreatDoor.P
open Go.RowKit Go.Proofs.YtejnfbfikadpdaaGreatDoorW.PrintWords Go.Proofs.YtejnfbfikadpdaaGreatDoor.Iso
set_option linter.unusedVariables false
set_option linter.unusedSimpArgs false
theorem base_ext {B : TG} {l6 : List Int} (h : BaseT B l6) : B.ext.length ≤ 1 ∧ (∀ s ∈ B.ext, s ∈ extlL) ∧ (B.ext ≠ [] → B.lang.size ≤ 3) := by
  rcases h.ext with e | ⟨hl, s, hs, e⟩
  · rw [e]; simp
  · rw [e]
    exact ⟨by simp, fun x hx => by rw [List.mem_singleton.1 hx]; exact hs, fun _ => hl⟩
theorem base_exts {B : TG} {l6 : List Int} (h : BaseT B l6) : ∀ x ∈ B.exts, x.f0 ∈ keysL ∧ SubsOk x.f1 := fun x hx => by
  obtain ⟨j, hj⟩ := List.getElem?_of_mem hx
  exact ⟨List.mem_of_getElem? (h.exts.2 j x hj).1, (h.exts.2 j x hj).2⟩
structure Small (T : TG) : Prop where
  ext : T.ext.length ≤ 1
  vars : T.vars.length ≤ 6
  exts : T.exts.length ≤ 5
  priv : T.priv.length ≤ 4
  subs : ∀ x ∈ T.exts, x.f1.length ≤ 4
theorem base_small {B : TG} {l6 : List Int} (h : BaseT B l6) (n : Int) : Small (spoiltT B n) := by
  have e1 := (base_ext h).1
  have v1 := h.vars.2.1
  have x1 := h.exts.1
  have p1 := h.priv.1
  have s1 : ∀ x ∈ B.exts, x.f1.length ≤ 4 := fun x hx => (base_exts h x hx).2.2.1
  have b : Small B := ⟨e1, by omega, by omega, by omega, s1⟩
  unfold spoiltT
  by_cases q1 : n = 1
  · rw [if_pos q1]; exact ⟨e1, by show (B.vars ++ _).length ≤ 6; rw [List.length_append]; simp; omega, b.exts, b.priv, s1⟩
  rw [if_neg q1]
  by_cases q2 : n = 2
  · rw [if_pos q2]; exact ⟨e1, b.vars, b.exts, b.priv, s1⟩
  rw [if_neg q2]
  by_cases q3 : n = 3
  · rw [if_pos q3]
    refine ⟨e1, b.vars, by show (B.exts ++ _).length ≤ 5; rw [List.length_append]; simp; omega, b.priv, fun x hx => ?_⟩
    rcases List.mem_append.1 hx with hx | hx
    · exact s1 x hx
    · rw [List.mem_singleton.1 hx]; simp
  rw [if_neg q3]
  by_cases q4 : n = 4
  · rw [if_pos q4]; exact ⟨e1, b.vars, b.exts, b.priv, s1⟩
  rw [if_neg q4]
  by_cases q5 : n = 5
  · rw [if_pos q5]; exact ⟨e1, b.vars, b.exts, b.priv, s1⟩
  rw [if_neg q5]
  by_cases q6 : n = 6
  · rw [if_pos q6]; exact ⟨e1, b.vars, b.exts, by show (B.priv ++ _).length ≤ 4; rw [List.length_append]; simp; omega, s1⟩
  rw [if_neg q6]
  by_cases q7 : n = 7
  · rw [if_pos q7]
    refine ⟨e1, b.vars, by show (B.exts ++ _).length ≤ 5; rw [List.length_append]; simp; omega, b.priv, fun x hx => ?_⟩
    rcases List.mem_append.1 hx with hx | hx
    · exact s1 x hx
    · rcases List.mem_cons.1 hx with rfl | hx
      · simp
      · rw [List.mem_singleton.1 hx]; simp
  rw [if_neg q7]
  by_cases q8 : n = 8
  · rw [if_pos q8]; exact ⟨e1, b.vars, b.exts, b.priv, s1⟩
  rw [if_neg q8]
  exact b
theorem flat5 (l : List S47) (h : ∀ x ∈ l, x.f1.length ≤ 4) : (l.flatMap fun x => x.f0 :: x.f1).length ≤ l.length * 5 := by
  induction l with
  | nil => simp
  | cons x t ih =>
    have h1 := h x List.mem_cons_self
    have h2 := ih fun y hy => h y (List.mem_cons_of_mem _ hy)
    simp only [List.flatMap_cons, List.length_append, List.length_cons] at h2 ⊢
    omega
theorem some1_le (s : ByteArray) : (some1 s).length ≤ 1 := by unfold some1; split <;> simp
theorem Small.len {T : TG} (h : Small T) : (subL T.lang T.ext T.script T.region T.vars T.exts T.priv).length ≤ 100 := by
  have h1 := some1_le T.lang
  have h2 := some1_le T.script
  have h3 := some1_le T.region
  have h4 := flat5 T.exts h.subs
  have h5 := h.ext
  have h6 := h.vars
  have h7 := h.exts
  have h8 := h.priv
  unfold subL
  have hp : (if T.priv = [] then [] else (⟨#[120]⟩ : ByteArray) :: T.priv).length ≤ 5 := by
    split
    · simp
    · simp only [List.length_cons]; omega
  simp only [List.length_append] at hp ⊢
  omega
theorem Small.text {T : TG} (h : Small T) (t : TxtS T) : (textT T).length ≤ 1300 := by
  unfold textT subsT subsL
  split
  · refine Nat.le_trans (joinL_len 12 _ fun p hp => ?_) (by rw [List.length_map]; have := h.len; omega)
    obtain ⟨s, hs, rfl⟩ := List.mem_map.1 hp
    rw [bl_len]
    exact t.sub s hs
  · rw [map_bl_mk, join_split, bl_len]
    have := t.grand
    omega
end Go.Proofs.YtejnfbfikadpdaaGreatDoor.P
