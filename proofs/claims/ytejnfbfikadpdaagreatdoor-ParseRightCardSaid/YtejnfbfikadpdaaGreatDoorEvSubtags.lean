/- The document's Subtags, in plain words. Condition: a tag's texts are 100000 at most. -/
import Derived.Test.YtejnfbfikadpdaaGreatDoorPx0
import Derived.Test.YtejnfbfikadpdaaGreatDoorEvC
import Derived.Test.YtejnfbfikadpdaaGreatDoorEvSame
import Derived.Test.YtejnfbfikadpdaaGreatDoorPx9
namespace Go.Proofs.YtejnfbfikadpdaaGreatDoor.P
open Go.RowKit Go.Proofs.YtejnfbfikadpdaaGreatDoorW.PrintWords Go.Proofs.YtejnfbfikadpdaaGreatDoorW.PrintLast Go.Proofs.YtejnfbfikadpdaaGreatDoorW.PrintMore
attribute [local go_sem] max2_int min2_int max_two min_two max_three min_three max_four min_four   -- for this text's walks alone
set_option linter.unusedVariables false
set_option linter.unusedSimpArgs false
def some1 (s : ByteArray) : List ByteArray := if s.toList = ([] : List UInt8) then [] else [s]
def subL (ab : ByteArray) (ac : List ByteArray) (ad : ByteArray) (ae : ByteArray) (af : List ByteArray) (ag : List (S47)) (aa : List ByteArray) : List ByteArray :=
  ((((some1 ab ++ ac) ++ (some1 ad ++ some1 ae)) ++ af) ++ ag.flatMap (fun x => x.f0 :: x.f1)) ++ (if aa = [] then [] else ⟨#[120]⟩ :: aa)
def tag_Subtags.f (ab : ByteArray) (ac : List ByteArray) (ad : ByteArray) (ae : ByteArray) (af : List ByteArray) (ag : List (S47)) (aa : List ByteArray) (ah : ByteArray) : Option (List ByteArray) :=
  if ah.toList = ([] : List UInt8) then (if (subL ab ac ad ae af ag aa).length ≤ 100000 then some (subL ab ac ad ae af ag aa) else none) else split_Split.f ah
end Go.Proofs.YtejnfbfikadpdaaGreatDoor.P
namespace Go.Proofs.YtejnfbfikadpdaaGreatDoor.Iso
open Go Go.RowKit Go.Proofs.YtejnfbfikadpdaaGreatDoorW.PrintWords Go.Proofs.YtejnfbfikadpdaaGreatDoor.P
set_option linter.unusedVariables false
set_option linter.unusedSimpArgs false
abbrev exL (x : S47) : List ByteArray := x.f0 :: x.f1
abbrev prL (l : List ByteArray) : List ByteArray := if l = [] then [] else ⟨#[120]⟩ :: l
theorem rdAt (xs : List ByteArray) (i : Nat) (h : i < xs.length) : rdOf ByteArray.empty xs (i : Int) = xs[i] := by unfold rdOf; rw [Int.toNat_natCast, List.getD_eq_getElem?_getD, List.getElem?_eq_getElem h]; rfl
section
variable (x0 : ByteArray) (x1 : List ByteArray) (x2 x3 : ByteArray) (x4 : List ByteArray) (x5 : List S47) (x6 : List ByteArray) (x7 : ByteArray)
theorem sub_l4 : ∀ (d i : Nat) (acc : List ByteArray), d + i = x6.length → acc.length + d ≤ 200000 → x6.length ≤ 200000 →
    Ev (fun k => r6_Subtags.l4 k acc (i : Int) x0 x1 x2 x3 x4 x5 x6 x7) (acc ++ x6.drop i) := by
  intro d
  induction d with
  | zero =>
    intro i acc hi _ _
    refine ev_succ ?_
    simp only [r6_Subtags.l4, show ¬ ((i : Int) < (x6.length : Int)) from by omega, ↓reduceIte]
    rw [List.drop_eq_nil_of_le (by omega), List.append_nil]
    exact Ev.now _
  | succ d ih =>
    intro i acc hi ha hn
    have hx : i < x6.length := by omega
    have hw : wrap64 ((i : Int) + 1) = ((i + 1 : Nat) : Int) := by unfold wrap64; omega
    refine ev_succ ?_
    simp only [r6_Subtags.l4, show ((i : Int) < (x6.length : Int)) from by omega, show (0 : Int) ≤ (i : Int) from by omega, show acc.length < 8796093022208 from by omega, ↓reduceIte, rdAt _ _ hx, hw]
    have := ih (i + 1) (acc ++ [x6[i]]) (by omega) (by rw [List.length_append, List.length_singleton]; omega) hn
    rw [List.drop_eq_getElem_cons hx]
    rw [List.append_assoc, List.singleton_append] at this
    exact this
theorem sub_j7 (acc : List ByteArray) (h : acc.length + x6.length ≤ 200000) : Ev (fun k => r6_Subtags.j7 k acc x0 x1 x2 x3 x4 x5 x6 x7) (acc ++ x6) := by
  refine ev_succ ?_
  simp only [r6_Subtags.j7]
  exact sub_l4 x0 x1 x2 x3 x4 x5 x6 x7 x6.length 0 acc rfl h (by omega)
theorem sub_l3 (i : Nat) (hi : i < x5.length) (hn : x5.length ≤ 200000) (r : List ByteArray → List ByteArray) (N : Nat)
    (hnext : ∀ acc : List ByteArray, acc.length + N ≤ 200000 → Ev (fun k => r6_Subtags.l2 k acc ((i + 1 : Nat) : Int) x0 x1 x2 x3 x4 x5 x6 x7) (r acc)) :
    ∀ (d j : Nat) (acc : List ByteArray), d + j = x5[i].f1.length → acc.length + d + N ≤ 200000 → x5[i].f1.length ≤ 200000 →
    Ev (fun k => r6_Subtags.l3 k acc (i : Int) (j : Int) x0 x1 x2 x3 x4 x5 x6 x7) (r (acc ++ x5[i].f1.drop j)) := by
  intro d
  have hwi : wrap64 ((i : Int) + 1) = ((i + 1 : Nat) : Int) := by unfold wrap64; omega
  induction d with
  | zero =>
    intro j acc hj ha _
    refine ev_succ ?_
    simp only [r6_Subtags.l3, show (0 : Int) ≤ (i : Int) from by omega, show ((i : Int) < (x5.length : Int)) from by omega, getR _ _ hi, show ¬ ((j : Int) < (x5[i].f1.length : Int)) from by omega, ↓reduceIte, hwi]
    rw [List.drop_eq_nil_of_le (by omega), List.append_nil]
    exact hnext acc (by omega)
  | succ d ih =>
    intro j acc hj ha hs
    have hx : j < x5[i].f1.length := by omega
    have hw : wrap64 ((j : Int) + 1) = ((j + 1 : Nat) : Int) := by unfold wrap64; omega
    refine ev_succ ?_
    simp only [r6_Subtags.l3, show (0 : Int) ≤ (i : Int) from by omega, show ((i : Int) < (x5.length : Int)) from by omega, getR _ _ hi, show ((j : Int) < (x5[i].f1.length : Int)) from by omega, show (0 : Int) ≤ (j : Int) from by omega, show acc.length < 8796093022208 from by omega, ↓reduceIte, rdAt _ _ hx, hw]
    have := ih (j + 1) (acc ++ [x5[i].f1[j]]) (by omega) (by rw [List.length_append, List.length_singleton]; omega) hs
    rw [List.drop_eq_getElem_cons hx]
    rw [List.append_assoc, List.singleton_append] at this
    exact this
theorem sub_l2 (hn : x5.length ≤ 200000) : ∀ (d i : Nat) (acc : List ByteArray), d + i = x5.length → acc.length + ((x5.drop i).flatMap exL).length + (prL x6).length ≤ 200000 →
    Ev (fun k => r6_Subtags.l2 k acc (i : Int) x0 x1 x2 x3 x4 x5 x6 x7) ((acc ++ (x5.drop i).flatMap exL) ++ prL x6) := by
  intro d
  induction d with
  | zero =>
    intro i acc hi ha
    refine ev_succ ?_
    simp only [r6_Subtags.l2, show ¬ ((i : Int) < (x5.length : Int)) from by omega, ↓reduceIte]
    rw [List.drop_eq_nil_of_le (by omega), List.flatMap_nil, List.append_nil]
    by_cases c : x6 = []
    · simp only [show ¬ ((x6.length : Int) > 0) from by rw [c]; simp, ↓reduceIte, prL, c]
      have := sub_j7 x0 x1 x2 x3 x4 x5 x6 x7 acc (by rw [c]; simp; omega)
      rw [c] at this
      exact this
    · have hp : 0 < x6.length := List.length_pos_iff.2 c
      have hpl : (prL x6).length = x6.length + 1 := by unfold prL; rw [if_neg c]; rfl
      simp only [show ((x6.length : Int) > 0) from by omega, show acc.length < 8796093022208 from by omega, ↓reduceIte]
      have := sub_j7 x0 x1 x2 x3 x4 x5 x6 x7 (acc ++ [⟨#[120]⟩]) (by rw [List.length_append, List.length_singleton]; omega)
      rw [List.append_assoc, List.singleton_append] at this
      unfold prL
      rw [if_neg c]
      exact this
  | succ d ih =>
    intro i acc hi ha
    have hx : i < x5.length := by omega
    have hd : (x5.drop i).flatMap exL = (x5[i].f0 :: x5[i].f1) ++ (x5.drop (i + 1)).flatMap exL := by rw [List.drop_eq_getElem_cons hx, List.flatMap_cons]
    have hl : ((x5.drop i).flatMap exL).length = x5[i].f1.length + 1 + ((x5.drop (i + 1)).flatMap exL).length := by rw [hd, List.length_append, List.length_cons]
    refine ev_succ ?_
    simp only [r6_Subtags.l2, show ((i : Int) < (x5.length : Int)) from by omega, show (0 : Int) ≤ (i : Int) from by omega, show acc.length < 8796093022208 from by omega, ↓reduceIte, getR _ _ hx]
    have := sub_l3 x0 x1 x2 x3 x4 x5 x6 x7 i hx hn (fun a => (a ++ (x5.drop (i + 1)).flatMap exL) ++ prL x6) (((x5.drop (i + 1)).flatMap exL).length + (prL x6).length) (fun a h => ih (i + 1) a (by omega) (by omega)) x5[i].f1.length 0 (acc ++ [x5[i].f0]) rfl (by rw [List.length_append, List.length_singleton]; omega) (by omega)
    rw [hd]
    rw [List.drop_zero] at this
    simp only [List.append_assoc, List.singleton_append, List.cons_append] at this ⊢
    exact this
theorem sub_l1 (hn : x5.length ≤ 200000) : ∀ (d i : Nat) (acc : List ByteArray), d + i = x4.length → acc.length + d + (x5.flatMap exL).length + (prL x6).length ≤ 200000 → x4.length ≤ 200000 →
    Ev (fun k => r6_Subtags.l1 k acc (i : Int) x0 x1 x2 x3 x4 x5 x6 x7) (((acc ++ x4.drop i) ++ x5.flatMap exL) ++ prL x6) := by
  intro d
  induction d with
  | zero =>
    intro i acc hi ha _
    refine ev_succ ?_
    simp only [r6_Subtags.l1, show ¬ ((i : Int) < (x4.length : Int)) from by omega, ↓reduceIte]
    rw [List.drop_eq_nil_of_le (by omega), List.append_nil]
    exact sub_l2 x0 x1 x2 x3 x4 x5 x6 x7 hn x5.length 0 acc rfl (by rw [List.drop_zero]; omega)
  | succ d ih =>
    intro i acc hi ha hs
    have hx : i < x4.length := by omega
    have hw : wrap64 ((i : Int) + 1) = ((i + 1 : Nat) : Int) := by unfold wrap64; omega
    refine ev_succ ?_
    simp only [r6_Subtags.l1, show ((i : Int) < (x4.length : Int)) from by omega, show (0 : Int) ≤ (i : Int) from by omega, show acc.length < 8796093022208 from by omega, ↓reduceIte, rdAt _ _ hx, hw]
    have := ih (i + 1) (acc ++ [x4[i]]) (by omega) (by rw [List.length_append, List.length_singleton]; omega) hs
    rw [List.drop_eq_getElem_cons hx]
    simp only [List.append_assoc, List.singleton_append, List.cons_append] at this ⊢
    exact this
theorem sub_j3 (hn : x5.length ≤ 200000) (acc : List ByteArray) (h : acc.length + x4.length + (x5.flatMap exL).length + (prL x6).length ≤ 200000) :
    Ev (fun k => r6_Subtags.j3 k acc x0 x1 x2 x3 x4 x5 x6 x7) (((acc ++ x4) ++ x5.flatMap exL) ++ prL x6) := by
  refine ev_succ ?_
  simp only [r6_Subtags.j3]
  exact sub_l1 x0 x1 x2 x3 x4 x5 x6 x7 hn x4.length 0 acc rfl h (by omega)
theorem some1_len (s : ByteArray) : (some1 s).length ≤ 1 := by unfold some1; split <;> simp
theorem sub_j2 (hn : x5.length ≤ 200000) (acc : List ByteArray) (h : acc.length + 1 + x4.length + (x5.flatMap exL).length + (prL x6).length ≤ 200000) :
    Ev (fun k => r6_Subtags.j2 k acc x0 x1 x2 x3 x4 x5 x6 x7) ((((acc ++ some1 x3) ++ x4) ++ x5.flatMap exL) ++ prL x6) := by
  refine ev_succ ?_
  by_cases c : x3.toList = ([] : List UInt8)
  · simp only [r6_Subtags.j2, c, ↓reduceIte]
    rw [show some1 x3 = [] from by unfold some1; rw [if_pos c], List.append_nil]
    exact sub_j3 x0 x1 x2 x3 x4 x5 x6 x7 hn acc (by omega)
  · simp only [r6_Subtags.j2, c, show acc.length < 8796093022208 from by omega, ↓reduceIte]
    rw [show some1 x3 = [x3] from by unfold some1; rw [if_neg c]]
    exact sub_j3 x0 x1 x2 x3 x4 x5 x6 x7 hn (acc ++ [x3]) (by rw [List.length_append, List.length_singleton]; omega)
theorem sub_l0 (hn : x5.length ≤ 200000) : ∀ (d i : Nat) (acc : List ByteArray), d + i = x1.length → acc.length + d + 2 + x4.length + (x5.flatMap exL).length + (prL x6).length ≤ 200000 → x1.length ≤ 200000 →
    Ev (fun k => r6_Subtags.l0 k acc (i : Int) x0 x1 x2 x3 x4 x5 x6 x7) ((((((acc ++ x1.drop i) ++ some1 x2) ++ some1 x3) ++ x4) ++ x5.flatMap exL) ++ prL x6) := by
  intro d
  induction d with
  | zero =>
    intro i acc hi ha _
    refine ev_succ ?_
    rw [List.drop_eq_nil_of_le (by omega), List.append_nil]
    by_cases c : x2.toList = ([] : List UInt8)
    · simp only [r6_Subtags.l0, show ¬ ((i : Int) < (x1.length : Int)) from by omega, c, ↓reduceIte]
      rw [show some1 x2 = [] from by unfold some1; rw [if_pos c], List.append_nil]
      exact sub_j2 x0 x1 x2 x3 x4 x5 x6 x7 hn acc (by omega)
    · simp only [r6_Subtags.l0, show ¬ ((i : Int) < (x1.length : Int)) from by omega, c, show acc.length < 8796093022208 from by omega, ↓reduceIte]
      rw [show some1 x2 = [x2] from by unfold some1; rw [if_neg c]]
      exact sub_j2 x0 x1 x2 x3 x4 x5 x6 x7 hn (acc ++ [x2]) (by rw [List.length_append, List.length_singleton]; omega)
  | succ d ih =>
    intro i acc hi ha hs
    have hx : i < x1.length := by omega
    have hw : wrap64 ((i : Int) + 1) = ((i + 1 : Nat) : Int) := by unfold wrap64; omega
    refine ev_succ ?_
    simp only [r6_Subtags.l0, show ((i : Int) < (x1.length : Int)) from by omega, show (0 : Int) ≤ (i : Int) from by omega, show acc.length < 8796093022208 from by omega, ↓reduceIte, rdAt _ _ hx, hw]
    have := ih (i + 1) (acc ++ [x1[i]]) (by omega) (by rw [List.length_append, List.length_singleton]; omega) hs
    rw [List.drop_eq_getElem_cons hx]
    simp only [List.append_assoc, List.singleton_append, List.cons_append] at this ⊢
    exact this
theorem sub_j0 (hn : x5.length ≤ 200000) (acc : List ByteArray) (h : acc.length + x1.length + 2 + x4.length + (x5.flatMap exL).length + (prL x6).length ≤ 200000) :
    Ev (fun k => r6_Subtags.j0 k acc x0 x1 x2 x3 x4 x5 x6 x7) ((((((acc ++ x1) ++ some1 x2) ++ some1 x3) ++ x4) ++ x5.flatMap exL) ++ prL x6) := by
  refine ev_succ ?_
  simp only [r6_Subtags.j0]
  exact sub_l0 x0 x1 x2 x3 x4 x5 x6 x7 hn x1.length 0 acc rfl h (by omega)
def subsL : List ByteArray := if x7.toList = ([] : List UInt8) then subL x0 x1 x2 x3 x4 x5 x6 else (split (bl x7)).map mk
theorem refSub_ev (hn : x5.length ≤ 1000) (hl : (subL x0 x1 x2 x3 x4 x5 x6).length ≤ 100000) (h7 : x7.size ≤ 1000) :
    Ev (fun k => r6_Subtags.f k x0 x1 x2 x3 x4 x5 x6 x7) (subsL x0 x1 x2 x3 x4 x5 x6 x7) := by
  unfold r6_Subtags.f subsL
  by_cases c : x7.toList = ([] : List UInt8)
  · simp only [c, ↓reduceIte]
    have hl' : (some1 x0).length + x1.length + ((some1 x2).length + (some1 x3).length) + x4.length + (x5.flatMap exL).length + (prL x6).length ≤ 100000 := by
      have := hl
      unfold subL at this
      simp only [List.length_append] at this
      exact this
    have e : subL x0 x1 x2 x3 x4 x5 x6 = (((((some1 x0 ++ x1) ++ some1 x2) ++ some1 x3) ++ x4) ++ x5.flatMap exL) ++ prL x6 := by
      unfold subL
      simp only [List.append_assoc]
    rw [e]
    by_cases c0 : x0.toList = ([] : List UInt8)
    · simp only [c0, ↓reduceIte]
      rw [show some1 x0 = [] from by unfold some1; rw [if_pos c0]]
      exact sub_j0 x0 x1 x2 x3 x4 x5 x6 x7 (by omega) [] (by rw [List.length_nil]; omega)
    · simp only [c0, ↓reduceIte, List.length_nil, show (0 : Nat) < 8796093022208 from by decide]
      rw [show some1 x0 = [] ++ [x0] from by unfold some1; rw [if_neg c0]; rfl]
      exact sub_j0 x0 x1 x2 x3 x4 x5 x6 x7 (by omega) ([] ++ [x0]) (by rw [List.nil_append, List.length_singleton]; omega)
  · simp only [c, ↓reduceIte]
    exact Ev.bind (ref_Split_ev x7 (by omega)) (Ev.now _)
theorem tagSub_eq (hl : (subL x0 x1 x2 x3 x4 x5 x6).length ≤ 100000) (h7 : x7.size ≤ 1000) : tag_Subtags.f x0 x1 x2 x3 x4 x5 x6 x7 = some (subsL x0 x1 x2 x3 x4 x5 x6 x7) := by
  unfold tag_Subtags.f subsL
  by_cases c : x7.toList = ([] : List UInt8)
  · rw [if_pos c, if_pos hl, if_pos c]
  · rw [if_neg c, if_neg c, split_Split_eq x7 (by omega)]
end
theorem flat_len (l : List S47) (h : ∀ x ∈ l, x.f1.length ≤ 1000) : (l.flatMap exL).length ≤ l.length * 1001 := by
  induction l with
  | nil => exact Nat.le_refl _
  | cons x l ih =>
    have h1 := h x List.mem_cons_self
    have h2 := ih fun y hy => h y (List.mem_cons_of_mem _ hy)
    rw [List.flatMap_cons, List.length_append, List.length_cons, List.length_cons]
    omega
theorem sub_len (x0 : ByteArray) (x1 : List ByteArray) (x2 x3 : ByteArray) (x4 : List ByteArray) (x5 : List S47) (x6 : List ByteArray) (h1 : x1.length ≤ 1000) (h4 : x4.length ≤ 1000) (h5 : x5.length ≤ 90) (h6 : x6.length ≤ 1000) (hs : ∀ x ∈ x5, x.f1.length ≤ 1000) : (subL x0 x1 x2 x3 x4 x5 x6).length ≤ 100000 := by
  have a := flat_len x5 hs
  have b := some1_len x0
  have c := some1_len x2
  have d := some1_len x3
  have e : (prL x6).length ≤ 1001 := by unfold prL; split <;> simp; omega
  unfold subL
  simp only [List.length_append]
  show (some1 x0).length + x1.length + ((some1 x2).length + (some1 x3).length) + x4.length + (x5.flatMap exL).length + (prL x6).length ≤ 100000
  omega
end Go.Proofs.YtejnfbfikadpdaaGreatDoor.Iso
