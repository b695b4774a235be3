/- The plain part of what right tags are (out of chapter 7). -/
import Derived.Test.YtljadeeoaoiilaaGreatDoorSq
import Derived.Test.YtljadeeoaoiilaaGreatDoorHandFind
import Derived.Test.YtljadeeoaoiilaaGreatDoorHandTag
import Derived.Test.YtljadeeoaoiilaaGreatDoorEvTxt
import Derived.Test.YtljadeeoaoiilaaGreatDoorPx10
import Derived.Test.YtljadeeoaoiilaaGreatDoorPx12
import Derived.Test.YtljadeeoaoiilaaGreatDoorPx3
import Derived.Test.YtljadeeoaoiilaaGreatDoorPx3
namespace Go.Proofs.YtljadeeoaoiilaaGreatDoor.P
open Go.RowKit Go.Shelf Go.Proofs.YtljadeeoaoiilaaGreatDoorW.PrintWords Go.Proofs.YtljadeeoaoiilaaGreatDoorW.PrintLast Go.Proofs.YtljadeeoaoiilaaGreatDoorW.PrintMore Go.Proofs.YtljadeeoaoiilaaGreatDoor.Iso
set_option linter.unusedVariables false
set_option linter.unusedSimpArgs false
attribute [local go_sem] Oper.semAt_some
abbrev keysOf (l : List S40) : List Str := l.map fun e => bl e.f0
end Go.Proofs.YtljadeeoaoiilaaGreatDoor.P
namespace Go.Proofs.YtljadeeoaoiilaaGreatDoor.P
open Go.RowKit Go.Shelf Go.Proofs.YtljadeeoaoiilaaGreatDoorW.PrintWords Go.Proofs.YtljadeeoaoiilaaGreatDoorW.PrintLast Go.Proofs.YtljadeeoaoiilaaGreatDoorW.PrintMore Go.Proofs.YtljadeeoaoiilaaGreatDoor.Iso
set_option linter.unusedVariables false
set_option linter.unusedSimpArgs false
attribute [local go_sem] Oper.semAt_some
abbrev qTwo (s : ByteArray) : Bool := decide (1 < s.size)
end Go.Proofs.YtljadeeoaoiilaaGreatDoor.P
namespace Go.Proofs.YtljadeeoaoiilaaGreatDoor.P
open Go.RowKit Go.Proofs.YtljadeeoaoiilaaGreatDoorW.PrintWords Go.Proofs.YtljadeeoaoiilaaGreatDoor.Iso
set_option linter.unusedVariables false
set_option linter.unusedSimpArgs false
def okB (s : ByteArray) : Bool := decide (s.size ≤ 8) && Iso.alnum (bl s)
theorem okB_ne {s : ByteArray} (h : okB s = true) : s.toList.isEmpty = false := by
  cases c : s.toList.isEmpty with
  | false => rfl
  | true =>
    rw [List.isEmpty_iff, bl_toList] at c
    unfold okB Iso.alnum at h
    rw [c] at h
    simp [cls] at h
structure ShapeT (T : TG) : Prop where
  lang : okB T.lang = true ∧ Iso.isLang (bl T.lang) = true
  ext : T.ext.length ≤ 3 ∧ (∀ s ∈ T.ext, okB s = true ∧ isExtl (bl s) = true) ∧ (T.ext ≠ [] → T.lang.size ≤ 3)
  script : T.script = ⟨#[]⟩ ∨ okB T.script = true ∧ Iso.isScr (bl T.script) = true
  region : T.region = ⟨#[]⟩ ∨ okB T.region = true ∧ Iso.isReg (bl T.region) = true
  vars : (∀ s ∈ T.vars, okB s = true ∧ Iso.isVar (bl s) = true) ∧ (T.vars.map bl).Nodup
  exts : (∀ x ∈ T.exts, okB x.f0 = true ∧ Iso.isSing (bl x.f0) = true ∧ x.f1 ≠ [] ∧ ∀ s ∈ x.f1, okB s = true ∧ qTwo s = true) ∧ (keysOf T.exts).Nodup
end Go.Proofs.YtljadeeoaoiilaaGreatDoor.P
namespace Go.Proofs.YtljadeeoaoiilaaGreatDoor.P
open Go.RowKit Go.Proofs.YtljadeeoaoiilaaGreatDoorW.PrintWords Go.Proofs.YtljadeeoaoiilaaGreatDoor.Iso
set_option linter.unusedVariables false
set_option linter.unusedSimpArgs false
theorem base_ext {B : TG} {l6 : List Int} (h : BaseT B l6) : B.ext.length ≤ 1 ∧ (∀ s ∈ B.ext, s ∈ extlL) ∧ (B.ext ≠ [] → B.lang.size ≤ 3) := by
  rcases h.ext with e | ⟨hl, s, hs, e⟩
  · rw [e]; simp
  · rw [e]
    exact ⟨by simp, fun x hx => by rw [List.mem_singleton.1 hx]; exact hs, fun _ => hl⟩
theorem base_exts {B : TG} {l6 : List Int} (h : BaseT B l6) : ∀ x ∈ B.exts, x.f0 ∈ keysL ∧ SubsOk x.f1 := fun x hx => by
  obtain ⟨j, hj⟩ := List.getElem?_of_mem hx
  exact ⟨List.mem_of_getElem? (h.exts.2 j x hj).1, (h.exts.2 j x hj).2⟩
structure Small (T : TG) : Prop where
  ext : T.ext.length ≤ 1
  vars : T.vars.length ≤ 6
  exts : T.exts.length ≤ 5
  priv : T.priv.length ≤ 4
  subs : ∀ x ∈ T.exts, x.f1.length ≤ 4
theorem base_small {B : TG} {l6 : List Int} (h : BaseT B l6) (n : Int) : Small (spoiltT B n) := by
  have e1 := (base_ext h).1
  have v1 := h.vars.2.1
  have x1 := h.exts.1
  have p1 := h.priv.1
  have s1 : ∀ x ∈ B.exts, x.f1.length ≤ 4 := fun x hx => (base_exts h x hx).2.2.1
  have b : Small B := ⟨e1, by omega, by omega, by omega, s1⟩
  unfold spoiltT
  by_cases q1 : n = 1
  · rw [if_pos q1]; exact ⟨e1, by show (B.vars ++ _).length ≤ 6; rw [List.length_append]; simp; omega, b.exts, b.priv, s1⟩
  rw [if_neg q1]
  by_cases q2 : n = 2
  · rw [if_pos q2]; exact ⟨e1, b.vars, b.exts, b.priv, s1⟩
  rw [if_neg q2]
  by_cases q3 : n = 3
  · rw [if_pos q3]
    refine ⟨e1, b.vars, by show (B.exts ++ _).length ≤ 5; rw [List.length_append]; simp; omega, b.priv, fun x hx => ?_⟩
    rcases List.mem_append.1 hx with hx | hx
    · exact s1 x hx
    · rw [List.mem_singleton.1 hx]; simp
  rw [if_neg q3]
  by_cases q4 : n = 4
  · rw [if_pos q4]; exact ⟨e1, b.vars, b.exts, b.priv, s1⟩
  rw [if_neg q4]
  by_cases q5 : n = 5
  · rw [if_pos q5]; exact ⟨e1, b.vars, b.exts, b.priv, s1⟩
  rw [if_neg q5]
  by_cases q6 : n = 6
  · rw [if_pos q6]; exact ⟨e1, b.vars, b.exts, by show (B.priv ++ _).length ≤ 4; rw [List.length_append]; simp; omega, s1⟩
  rw [if_neg q6]
  by_cases q7 : n = 7
  · rw [if_pos q7]
    refine ⟨e1, b.vars, by show (B.exts ++ _).length ≤ 5; rw [List.length_append]; simp; omega, b.priv, fun x hx => ?_⟩
    rcases List.mem_append.1 hx with hx | hx
    · exact s1 x hx
    · rcases List.mem_cons.1 hx with rfl | hx
      · simp
      · rw [List.mem_singleton.1 hx]; simp
  rw [if_neg q7]
  by_cases q8 : n = 8
  · rw [if_pos q8]; exact ⟨e1, b.vars, b.exts, b.priv, s1⟩
  rw [if_neg q8]
  exact b
theorem flat5 (l : List S40) (h : ∀ x ∈ l, x.f1.length ≤ 4) : (l.flatMap fun x => x.f0 :: x.f1).length ≤ l.length * 5 := by
  induction l with
  | nil => simp
  | cons x t ih =>
    have h1 := h x List.mem_cons_self
    have h2 := ih fun y hy => h y (List.mem_cons_of_mem _ hy)
    simp only [List.flatMap_cons, List.length_append, List.length_cons] at h2 ⊢
    omega
theorem some1_le (s : ByteArray) : (some1 s).length ≤ 1 := by unfold some1; split <;> simp
theorem Small.len {T : TG} (h : Small T) : (subL T.lang T.ext T.script T.region T.vars T.exts T.priv).length ≤ 100 := by
  have h1 := some1_le T.lang
  have h2 := some1_le T.script
  have h3 := some1_le T.region
  have h4 := flat5 T.exts h.subs
  have h5 := h.ext
  have h6 := h.vars
  have h7 := h.exts
  have h8 := h.priv
  unfold subL
  have hp : (if T.priv = [] then [] else (⟨#[120]⟩ : ByteArray) :: T.priv).length ≤ 5 := by
    split
    · simp
    · simp only [List.length_cons]; omega
  simp only [List.length_append] at hp ⊢
  omega
theorem Small.text {T : TG} (h : Small T) (t : TxtS T) : (textT T).length ≤ 1300 := by
  unfold textT subsT subsL
  split
  · refine Nat.le_trans (joinL_len 12 _ fun p hp => ?_) (by rw [List.length_map]; have := h.len; omega)
    obtain ⟨s, hs, rfl⟩ := List.mem_map.1 hp
    rw [bl_len]
    exact t.sub s hs
  · rw [map_bl_mk, join_split, bl_len]
    have := t.grand
    omega
theorem sp_small : ∀ (s acc : Str), ∀ q ∈ sp acc s, q.length ≤ acc.length + s.length
  | [], acc, q, h => by
    rw [sp, List.mem_singleton] at h
    rw [h]; simp
  | c :: t, acc, q, h => by
    rw [sp] at h
    split at h
    · rcases List.mem_cons.1 h with rfl | h
      · simp
      · have := sp_small t [] q h
        simp at this ⊢; omega
    · have := sp_small t _ q h
      simp at this ⊢; omega
end Go.Proofs.YtljadeeoaoiilaaGreatDoor.P
namespace Go.Proofs.YtljadeeoaoiilaaGreatDoor.P
open Go.RowKit Go.Shelf Go.Proofs.YtljadeeoaoiilaaGreatDoorW.PrintWords Go.Proofs.YtljadeeoaoiilaaGreatDoorW.PrintLast Go.Proofs.YtljadeeoaoiilaaGreatDoorW.PrintMore Go.Proofs.YtljadeeoaoiilaaGreatDoor.Iso
set_option linter.unusedVariables false
set_option linter.unusedSimpArgs false
theorem cells8p {w : World} {g : Nat} {t : TypeId} {x0 x1 x2 x3 x4 x5 x6 x7 : Value} (h : w.heap[g]? = some (.cells #[x0, x1, x2, x3, x4, x5, x6, x7] t (0, 0))) : w.cell? ⟨g, 0, none⟩ = some x0 ∧ w.cell? ⟨g, 1, none⟩ = some x1 ∧ w.cell? ⟨g, 2, none⟩ = some x2 ∧ w.cell? ⟨g, 3, none⟩ = some x3 ∧ w.cell? ⟨g, 4, none⟩ = some x4 ∧ w.cell? ⟨g, 5, none⟩ = some x5 ∧ w.cell? ⟨g, 6, none⟩ = some x6 ∧ w.cell? ⟨g, 7, none⟩ = some x7 :=
  (C8_ h)
abbrev IntsC (W : World) (A : Option Addr) (c : Nat) (l : List Int) : Prop := Kd.C (Kd.int .i64) W A l.length l ∧ l.length ≤ c
theorem made_calls (a0 a1 a2 a3 : Int) (l4 l5 l6 : List Int) (a7 : Int) : ∃ B : TG, BaseT B l6 ∧ ∀ (A4 : Option Addr) (c4 : Nat) (A5 : Option Addr) (c5 : Nat) (A6 : Option Addr) (c6 : Nat) (W : World), IntsC W A4 c4 l4 → IntsC W A5 c5 l5 → IntsC W A6 c6 l6 →
    Calls Tryz.prog 7 #[.agg #[.int .i64 a0, .int .i64 a1, .int .i64 a2, .int .i64 a3, .slice A4 l4.length c4, .slice A5 l5.length c5, .slice A6 l6.length c6, .int .i64 a7]] W fun e W' => ∃ A1 c1 A4 c4 A5 c5 A6 c6, e = .returned (.agg (tagCells (spoiltT B (oddN a7)) A1 c1 A4 c4 A5 c5 A6 c6)) ∧ RowsC W' (spoiltT B (oddN a7)) A1 c1 A4 c4 A5 c5 A6 c6 ∧ Below W.heap.size W W' := by
  obtain ⟨r, hr, B, hB, e⟩ := Made_told a0 a1 a2 a3 l4 l5 l6 a7
  subst e
  obtain ⟨k, hk⟩ := hr.rounds
  exact ⟨B, hB, fun A4 c4 A5 c5 A6 c6 W h4 h5 h6 => Made_tag k a0 a1 a2 a3 A4 c4 l4 A5 c5 l5 A6 c6 l6 a7 _ W h4 h5 h6 hk⟩
end Go.Proofs.YtljadeeoaoiilaaGreatDoor.P
