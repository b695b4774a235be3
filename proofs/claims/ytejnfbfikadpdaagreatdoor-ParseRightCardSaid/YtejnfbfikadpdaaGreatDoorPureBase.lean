/- The tags made of numbers are right, but for what is spoilt; the document's Check. Plain words. -/
import Derived.Test.YtejnfbfikadpdaaGreatDoorPx0
import Derived.Test.YtejnfbfikadpdaaGreatDoorPx6
import Derived.Test.YtejnfbfikadpdaaGreatDoorPx8
import Derived.Test.YtejnfbfikadpdaaGreatDoorPx9
import Derived.Test.YtejnfbfikadpdaaGreatDoorHandAll
import Derived.Test.YtejnfbfikadpdaaGreatDoorHandParse
import Derived.Test.YtejnfbfikadpdaaGreatDoorEvTxt
namespace Go.Proofs.YtejnfbfikadpdaaGreatDoor.P
open Go.RowKit Go.Proofs.YtejnfbfikadpdaaGreatDoorW.PrintWords Go.Proofs.YtejnfbfikadpdaaGreatDoorW.PrintLast Go.Proofs.YtejnfbfikadpdaaGreatDoorW.PrintMore
attribute [local go_sem] max2_int min2_int max_two min_two max_three min_three max_four min_four   -- for this text's walks alone
set_option linter.unusedVariables false
set_option linter.unusedSimpArgs false
def IsS137 (w0 W : World) (g : Nat) (f0 : List (S87)) (f1 : Int) (f2 : Int) : Prop := ∃ A0 c0, W.heap[g]? = some (.cells #[.slice A0 f0.length c0, .int .i64 f1, .int .i64 f2] 137 (0, 0)) ∧ w0.heap.size ≤ g ∧ Kd.C k87 w0 A0 f0.length f0
theorem IsS137.grown {w0 W : World} {g : Nat} {f0 : List (S87)} {f1 : Int} {f2 : Int} {W1 : World} {row : Option Nat} (h : IsS137 w0 W g f0 f1 f2) (hw : W.grownBy W1 row) (hne : some g ≠ row) : IsS137 w0 W1 g f0 f1 f2 := by
 obtain ⟨A0, c0, hb, hg, hr0⟩ := h
 exact ⟨A0, c0, blk_grown hb hw hne, hg, hr0⟩
theorem IsS137.kept {w0 W : World} {g : Nat} {f0 : List (S87)} {f1 : Int} {f2 : Int} {W1 : World} {S : Nat → Prop} (h : IsS137 w0 W g f0 f1 f2) (hk : Kept W W1 S) (hne : ¬ S g) : IsS137 w0 W1 g f0 f1 f2 := by
 obtain ⟨A0, c0, hb, hg, hr0⟩ := h
 exact ⟨A0, c0, blk_kept hb hk hne, hg, hr0⟩
theorem IsS137.below {w0 W : World} {g : Nat} {f0 : List (S87)} {f1 : Int} {f2 : Int} {W1 : World} (h : IsS137 w0 W g f0 f1 f2) (hw : Below W.heap.size W W1) : IsS137 w0 W1 g f0 f1 f2 := h.grown (grown_of_below hw none) (by simp)
theorem IsS137.alloc {w0 W : World} {g : Nat} {f0 : List (S87)} {f1 : Int} {f2 : Int} (h : IsS137 w0 W g f0 f1 f2) (o : Obj) : IsS137 w0 (W.alloc o) g f0 f1 f2 := h.below (below_alloc (Below.refl _ _) o)
theorem IsS137.drewN {w0 W : World} {g : Nat} {f0 : List (S87)} {f1 : Int} {f2 : Int} (h : IsS137 w0 W g f0 f1 f2) (m : Nat) : IsS137 w0 (W.drewN m) g f0 f1 f2 := h
theorem IsS137.drew {w0 W : World} {g : Nat} {f0 : List (S87)} {f1 : Int} {f2 : Int} (h : IsS137 w0 W g f0 f1 f2) : IsS137 w0 W.drew g f0 f1 f2 := h
theorem IsS137.at_ {w0 W : World} {g : Nat} {f0 : List (S87)} {f1 : Int} {f2 : Int} {w' : World} {m : Nat} (hq : W.drewN m = w') (h : IsS137 w0 W g f0 f1 f2) : IsS137 w0 w' g f0 f1 f2 := by subst hq; exact IsS137.drewN h m
theorem IsS137.apart {w0 W : World} {g : Nat} {f0 : List (S87)} {f1 : Int} {f2 : Int} {α : Type} {d : Kd α} {e : Nat} {base : Nat} {ok : Nat → Prop} {v : Value} {xs : List α} (h : IsS137 w0 W g f0 f1 f2) (ho : d.R e W base ok v xs) (ht : ∀ q, q ∈ e :: d.E → q ≠ 137) : d.R e W base (fun k => ok k ∧ k ≠ g) v xs := by
 obtain ⟨A0, c0, hb, hg, hr0⟩ := h
 exact Kd.R_types ho hb ht
theorem IsS137.own_ne {w0 W : World} {g : Nat} {f0 : List (S87)} {f1 : Int} {f2 : Int} {α : Type} {d : Kd α} {e : Nat} {base : Nat} {ok : Nat → Prop} {v : Value} {xs : List α} (h : IsS137 w0 W g f0 f1 f2) (ho : d.R e W base ok v xs) (ht : e ≠ 137) : some g ≠ v.ownBlock := by
 obtain ⟨A0, c0, hb, hg, hr0⟩ := h
 exact Kd.R_ne ho hb ht
theorem IsS137.lt {w0 W : World} {g : Nat} {f0 : List (S87)} {f1 : Int} {f2 : Int} (h : IsS137 w0 W g f0 f1 f2) : g < W.heap.size := by
 obtain ⟨A0, c0, hb, hg, hr0⟩ := h
 exact blk_lt hb
theorem IsS137.far {w0 W : World} {g : Nat} {f0 : List (S87)} {f1 : Int} {f2 : Int} {p : Addr} (h : IsS137 w0 W g f0 f1 f2) (hne : g ≠ p.block) (u : Value) : IsS137 w0 (W.setCell p u) g f0 f1 f2 := by
 obtain ⟨A0, c0, hb, hg, hr0⟩ := h
 exact ⟨A0, c0, blk_far hb hne u, hg, hr0⟩
theorem IsS137.new (w0 W : World) (A0 : Option Addr) (c0 : Nat) (f0 : List (S87)) (f1 : Int) (f2 : Int) (hB : Below w0.heap.size w0 W) (hr0 : Kd.C k87 w0 A0 f0.length f0) : IsS137 w0 (W.alloc (.cells #[.slice A0 f0.length c0, .int .i64 f1, .int .i64 f2] 137)) W.heap.size f0 f1 f2 := ⟨A0, c0, by simpa using heap_alloc_new W _, hB.size, hr0⟩
end Go.Proofs.YtejnfbfikadpdaaGreatDoor.P
namespace Go.Proofs.YtejnfbfikadpdaaGreatDoor.P
open Go.RowKit Go.Proofs.YtejnfbfikadpdaaGreatDoorW.PrintWords Go.Proofs.YtejnfbfikadpdaaGreatDoor.Iso
set_option linter.unusedVariables false
set_option linter.unusedSimpArgs false
def okB (s : ByteArray) : Bool := decide (s.size ≤ 8) && Iso.alnum (bl s)
theorem okB_ne {s : ByteArray} (h : okB s = true) : s.toList.isEmpty = false := by
  cases c : s.toList.isEmpty with
  | false => rfl
  | true =>
    rw [List.isEmpty_iff, bl_toList] at c
    unfold okB Iso.alnum at h
    rw [c] at h
    simp [cls] at h
abbrev txs (ps : List PieceR) : List ByteArray := ps.map (·.f1)
structure ExtP (x : S47) (A : List PieceR) : Prop where
  tx : txs A = x.f0 :: x.f1
structure ShapeT (T : TG) : Prop where
  lang : okB T.lang = true ∧ Iso.isLang (bl T.lang) = true
  ext : T.ext.length ≤ 3 ∧ (∀ s ∈ T.ext, okB s = true ∧ isExtl (bl s) = true) ∧ (T.ext ≠ [] → T.lang.size ≤ 3)
  script : T.script = ⟨#[]⟩ ∨ okB T.script = true ∧ Iso.isScr (bl T.script) = true
  region : T.region = ⟨#[]⟩ ∨ okB T.region = true ∧ Iso.isReg (bl T.region) = true
  vars : (∀ s ∈ T.vars, okB s = true ∧ Iso.isVar (bl s) = true) ∧ (T.vars.map bl).Nodup
  exts : (∀ x ∈ T.exts, okB x.f0 = true ∧ Iso.isSing (bl x.f0) = true ∧ x.f1 ≠ [] ∧ ∀ s ∈ x.f1, okB s = true ∧ qTwo s = true) ∧ (keysOf T.exts).Nodup
abbrev opt1 (s : ByteArray) : List ByteArray := if s = ⟨#[]⟩ then [] else [s]
def headL (T : TG) : List ByteArray := T.lang :: (T.ext ++ (opt1 T.script ++ (opt1 T.region ++ (T.vars ++ T.exts.flatMap (fun x => x.f0 :: x.f1)))))
end Go.Proofs.YtejnfbfikadpdaaGreatDoor.P
namespace Go.Proofs.YtejnfbfikadpdaaGreatDoor.P
open Go.RowKit Go.Proofs.YtejnfbfikadpdaaGreatDoorW.PrintWords Go.Proofs.YtejnfbfikadpdaaGreatDoor.Iso
set_option linter.unusedVariables false
set_option linter.unusedSimpArgs false
def offP (a : Nat) (t : Str) : List PieceR := (eachGo a [] t).map fun p => ⟨(p.1 : Int), mk (low p.2)⟩
theorem piecesOf_off (s : ByteArray) : piecesOf s = offP 0 (bl s) := by
  unfold piecesOf offP eachB each mkP
  rw [List.map_map]; rfl
theorem txs_off (a : Nat) (t : Str) : txs (offP a t) = (split t).map fun p => mk (low p) := by
  unfold offP txs
  rw [List.map_map, split_sp, ← eachGo_sp t a [], List.map_map]; rfl
theorem some1_opt (s : ByteArray) : some1 s = opt1 s := by
  unfold some1 opt1
  have : s.toList = ([] : List UInt8) ↔ s = ⟨#[]⟩ := by
    rw [Go.ByteArray.toList_eq]
    constructor
    · intro h
      exact bl_inj (show bl s = bl ⟨#[]⟩ from h)
    · intro h; rw [h]
  by_cases c : s = ⟨#[]⟩
  · rw [if_pos (this.2 c), if_pos c]
  · rw [if_neg (fun h => c (this.1 h)), if_neg c]
theorem subL_head {T : TG} (h : T.lang ≠ ⟨#[]⟩) : subL T.lang T.ext T.script T.region T.vars T.exts T.priv = headL T ++ (if T.priv = [] then [] else ⟨#[120]⟩ :: T.priv) := by
  unfold subL headL
  rw [some1_opt, some1_opt, some1_opt, show opt1 T.lang = [T.lang] from by unfold opt1; rw [if_neg h]]
  simp only [List.append_assoc, List.cons_append, List.nil_append]
end Go.Proofs.YtejnfbfikadpdaaGreatDoor.P
namespace Go.Proofs.YtejnfbfikadpdaaGreatDoor.P
open Go.RowKit Go.Proofs.YtejnfbfikadpdaaGreatDoorW.PrintWords Go.Proofs.YtejnfbfikadpdaaGreatDoor.Iso
set_option linter.unusedVariables false
set_option linter.unusedSimpArgs false
theorem base_ext {B : TG} {l6 : List Int} (h : BaseT B l6) : B.ext.length ≤ 1 ∧ (∀ s ∈ B.ext, s ∈ extlL) ∧ (B.ext ≠ [] → B.lang.size ≤ 3) := by
  rcases h.ext with e | ⟨hl, s, hs, e⟩
  · rw [e]; simp
  · rw [e]
    exact ⟨by simp, fun x hx => by rw [List.mem_singleton.1 hx]; exact hs, fun _ => hl⟩
theorem base_exts {B : TG} {l6 : List Int} (h : BaseT B l6) : ∀ x ∈ B.exts, x.f0 ∈ keysL ∧ SubsOk x.f1 := fun x hx => by
  obtain ⟨j, hj⟩ := List.getElem?_of_mem hx
  exact ⟨List.mem_of_getElem? (h.exts.2 j x hj).1, (h.exts.2 j x hj).2⟩
theorem opt1_mem {s x : ByteArray} (h : x ∈ opt1 s) : x = s ∧ s ≠ ⟨#[]⟩ := by
  unfold opt1 at h
  split at h
  · cases h
  · rename_i c
    exact ⟨List.mem_singleton.1 h, c⟩
structure Small (T : TG) : Prop where
  ext : T.ext.length ≤ 1
  vars : T.vars.length ≤ 6
  exts : T.exts.length ≤ 5
  priv : T.priv.length ≤ 4
  subs : ∀ x ∈ T.exts, x.f1.length ≤ 4
theorem base_small {B : TG} {l6 : List Int} (h : BaseT B l6) (n : Int) : Small (spoiltT B n) := by
  have e1 := (base_ext h).1
  have v1 := h.vars.2.1
  have x1 := h.exts.1
  have p1 := h.priv.1
  have s1 : ∀ x ∈ B.exts, x.f1.length ≤ 4 := fun x hx => (base_exts h x hx).2.2.1
  have b : Small B := ⟨e1, by omega, by omega, by omega, s1⟩
  unfold spoiltT
  by_cases q1 : n = 1
  · rw [if_pos q1]; exact ⟨e1, by show (B.vars ++ _).length ≤ 6; rw [List.length_append]; simp; omega, b.exts, b.priv, s1⟩
  rw [if_neg q1]
  by_cases q2 : n = 2
  · rw [if_pos q2]; exact ⟨e1, b.vars, b.exts, b.priv, s1⟩
  rw [if_neg q2]
  by_cases q3 : n = 3
  · rw [if_pos q3]
    refine ⟨e1, b.vars, by show (B.exts ++ _).length ≤ 5; rw [List.length_append]; simp; omega, b.priv, fun x hx => ?_⟩
    rcases List.mem_append.1 hx with hx | hx
    · exact s1 x hx
    · rw [List.mem_singleton.1 hx]; simp
  rw [if_neg q3]
  by_cases q4 : n = 4
  · rw [if_pos q4]; exact ⟨e1, b.vars, b.exts, b.priv, s1⟩
  rw [if_neg q4]
  by_cases q5 : n = 5
  · rw [if_pos q5]; exact ⟨e1, b.vars, b.exts, b.priv, s1⟩
  rw [if_neg q5]
  by_cases q6 : n = 6
  · rw [if_pos q6]; exact ⟨e1, b.vars, b.exts, by show (B.priv ++ _).length ≤ 4; rw [List.length_append]; simp; omega, s1⟩
  rw [if_neg q6]
  by_cases q7 : n = 7
  · rw [if_pos q7]
    refine ⟨e1, b.vars, by show (B.exts ++ _).length ≤ 5; rw [List.length_append]; simp; omega, b.priv, fun x hx => ?_⟩
    rcases List.mem_append.1 hx with hx | hx
    · exact s1 x hx
    · rcases List.mem_cons.1 hx with rfl | hx
      · simp
      · rw [List.mem_singleton.1 hx]; simp
  rw [if_neg q7]
  by_cases q8 : n = 8
  · rw [if_pos q8]; exact ⟨e1, b.vars, b.exts, b.priv, s1⟩
  rw [if_neg q8]
  exact b
theorem flat5 (l : List S47) (h : ∀ x ∈ l, x.f1.length ≤ 4) : (l.flatMap fun x => x.f0 :: x.f1).length ≤ l.length * 5 := by
  induction l with
  | nil => simp
  | cons x t ih =>
    have h1 := h x List.mem_cons_self
    have h2 := ih fun y hy => h y (List.mem_cons_of_mem _ hy)
    simp only [List.flatMap_cons, List.length_append, List.length_cons] at h2 ⊢
    omega
theorem some1_le (s : ByteArray) : (some1 s).length ≤ 1 := by unfold some1; split <;> simp
theorem Small.len {T : TG} (h : Small T) : (subL T.lang T.ext T.script T.region T.vars T.exts T.priv).length ≤ 100 := by
  have h1 := some1_le T.lang
  have h2 := some1_le T.script
  have h3 := some1_le T.region
  have h4 := flat5 T.exts h.subs
  have h5 := h.ext
  have h6 := h.vars
  have h7 := h.exts
  have h8 := h.priv
  unfold subL
  have hp : (if T.priv = [] then [] else (⟨#[120]⟩ : ByteArray) :: T.priv).length ≤ 5 := by
    split
    · simp
    · simp only [List.length_cons]; omega
  simp only [List.length_append] at hp ⊢
  omega
theorem Small.text {T : TG} (h : Small T) (t : TxtS T) : (textT T).length ≤ 1300 := by
  unfold textT subsT subsL
  split
  · refine Nat.le_trans (joinL_len 12 _ fun p hp => ?_) (by rw [List.length_map]; have := h.len; omega)
    obtain ⟨s, hs, rfl⟩ := List.mem_map.1 hp
    rw [bl_len]
    exact t.sub s hs
  · rw [map_bl_mk, join_split, bl_len]
    have := t.grand
    omega
theorem sp_small : ∀ (s acc : Str), ∀ q ∈ sp acc s, q.length ≤ acc.length + s.length
  | [], acc, q, h => by
    rw [sp, List.mem_singleton] at h
    rw [h]; simp
  | c :: t, acc, q, h => by
    rw [sp] at h
    split at h
    · rcases List.mem_cons.1 h with rfl | h
      · simp
      · have := sp_small t [] q h
        simp at this ⊢; omega
    · have := sp_small t _ q h
      simp at this ⊢; omega
end Go.Proofs.YtejnfbfikadpdaaGreatDoor.P
