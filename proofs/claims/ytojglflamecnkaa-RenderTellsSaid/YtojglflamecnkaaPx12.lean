-- Written for this claim by the session's own run of the print, functions proved by hand put in.
import Derived.Test.YtojglflamecnkaaPx0
import Derived.Test.YtojglflamecnkaaPx6
namespace Go.Proofs.Ytojglflamecnkaa.P
open Go.RowKit Go.Proofs.YtojglflamecnkaaW.PrintWords Go.Proofs.YtojglflamecnkaaW.PrintLast Go.Proofs.YtojglflamecnkaaW.PrintMore
attribute [local go_sem] max2_int min2_int max_two min_two max_three min_three max_four min_four   -- for this text's walks alone
set_option linter.unusedVariables false
set_option linter.unusedSimpArgs false
mutual
def isoglossref06_Subtags.j0 : Nat → List ByteArray → ByteArray → List ByteArray → ByteArray → ByteArray → List ByteArray → List (S62) → List ByteArray → ByteArray → Option (List ByteArray)
 | 0, _, _, _, _, _, _, _, _, _ => none
 | k + 1, x3, x279000, x279001, x279002, x279003, x279004, x279005, x279006, x279007 => isoglossref06_Subtags.l0 k x3 0 x279000 x279001 x279002 x279003 x279004 x279005 x279006 x279007
def isoglossref06_Subtags.l0 : Nat → List ByteArray → Int → ByteArray → List ByteArray → ByteArray → ByteArray → List ByteArray → List (S62) → List ByteArray → ByteArray → Option (List ByteArray)
 | 0, _, _, _, _, _, _, _, _, _, _ => none
 | k + 1, x3, x4, x279000, x279001, x279002, x279003, x279004, x279005, x279006, x279007 => if x4 < (x279001.length : Int) then (if 0 ≤ x4 then (if x3.length < 8796093022208 then (isoglossref06_Subtags.l0 k (x3 ++ [rdOf ByteArray.empty x279001 x4]) (wrap64 (x4 + 1)) x279000 x279001 x279002 x279003 x279004 x279005 x279006 x279007) else (none)) else (none)) else (if x279002.toList = ([] : List UInt8) then (isoglossref06_Subtags.j2 k x3 x279000 x279001 x279002 x279003 x279004 x279005 x279006 x279007) else (if x3.length < 8796093022208 then (isoglossref06_Subtags.j2 k (x3 ++ [x279002]) x279000 x279001 x279002 x279003 x279004 x279005 x279006 x279007) else (none)))
def isoglossref06_Subtags.j2 : Nat → List ByteArray → ByteArray → List ByteArray → ByteArray → ByteArray → List ByteArray → List (S62) → List ByteArray → ByteArray → Option (List ByteArray)
 | 0, _, _, _, _, _, _, _, _, _ => none
 | k + 1, x3, x279000, x279001, x279002, x279003, x279004, x279005, x279006, x279007 => if x279003.toList = ([] : List UInt8) then (isoglossref06_Subtags.j3 k x3 x279000 x279001 x279002 x279003 x279004 x279005 x279006 x279007) else (if x3.length < 8796093022208 then (isoglossref06_Subtags.j3 k (x3 ++ [x279003]) x279000 x279001 x279002 x279003 x279004 x279005 x279006 x279007) else (none))
def isoglossref06_Subtags.j3 : Nat → List ByteArray → ByteArray → List ByteArray → ByteArray → ByteArray → List ByteArray → List (S62) → List ByteArray → ByteArray → Option (List ByteArray)
 | 0, _, _, _, _, _, _, _, _, _ => none
 | k + 1, x3, x279000, x279001, x279002, x279003, x279004, x279005, x279006, x279007 => isoglossref06_Subtags.l1 k x3 0 x279000 x279001 x279002 x279003 x279004 x279005 x279006 x279007
def isoglossref06_Subtags.l1 : Nat → List ByteArray → Int → ByteArray → List ByteArray → ByteArray → ByteArray → List ByteArray → List (S62) → List ByteArray → ByteArray → Option (List ByteArray)
 | 0, _, _, _, _, _, _, _, _, _, _ => none
 | k + 1, x3, x5, x279000, x279001, x279002, x279003, x279004, x279005, x279006, x279007 => if x5 < (x279004.length : Int) then (if 0 ≤ x5 then (if x3.length < 8796093022208 then (isoglossref06_Subtags.l1 k (x3 ++ [rdOf ByteArray.empty x279004 x5]) (wrap64 (x5 + 1)) x279000 x279001 x279002 x279003 x279004 x279005 x279006 x279007) else (none)) else (none)) else (isoglossref06_Subtags.l2 k x3 0 x279000 x279001 x279002 x279003 x279004 x279005 x279006 x279007)
def isoglossref06_Subtags.l2 : Nat → List ByteArray → Int → ByteArray → List ByteArray → ByteArray → ByteArray → List ByteArray → List (S62) → List ByteArray → ByteArray → Option (List ByteArray)
 | 0, _, _, _, _, _, _, _, _, _, _ => none
 | k + 1, x3, x6, x279000, x279001, x279002, x279003, x279004, x279005, x279006, x279007 => if x6 < (x279005.length : Int) then (if 0 ≤ x6 then (if x3.length < 8796093022208 then (isoglossref06_Subtags.l3 k (x3 ++ [(rd_T62 x279005 x6).f0]) x6 0 x279000 x279001 x279002 x279003 x279004 x279005 x279006 x279007) else (none)) else (none)) else (if (x279006.length : Int) > 0 then (if x3.length < 8796093022208 then (isoglossref06_Subtags.j7 k (x3 ++ [(⟨#[120]⟩ : ByteArray)]) x279000 x279001 x279002 x279003 x279004 x279005 x279006 x279007) else (none)) else (isoglossref06_Subtags.j7 k x3 x279000 x279001 x279002 x279003 x279004 x279005 x279006 x279007))
def isoglossref06_Subtags.l3 : Nat → List ByteArray → Int → Int → ByteArray → List ByteArray → ByteArray → ByteArray → List ByteArray → List (S62) → List ByteArray → ByteArray → Option (List ByteArray)
 | 0, _, _, _, _, _, _, _, _, _, _, _ => none
 | k + 1, x3, x6, x7, x279000, x279001, x279002, x279003, x279004, x279005, x279006, x279007 => if 0 ≤ x6 then (if x6 < (x279005.length : Int) then (if x7 < (((rd_T62 x279005 x6).f1).length : Int) then (if 0 ≤ x7 then (if x3.length < 8796093022208 then (isoglossref06_Subtags.l3 k (x3 ++ [rdOf ByteArray.empty ((rd_T62 x279005 x6).f1) x7]) x6 (wrap64 (x7 + 1)) x279000 x279001 x279002 x279003 x279004 x279005 x279006 x279007) else (none)) else (none)) else (isoglossref06_Subtags.l2 k x3 (wrap64 (x6 + 1)) x279000 x279001 x279002 x279003 x279004 x279005 x279006 x279007)) else (none)) else (none)
def isoglossref06_Subtags.j7 : Nat → List ByteArray → ByteArray → List ByteArray → ByteArray → ByteArray → List ByteArray → List (S62) → List ByteArray → ByteArray → Option (List ByteArray)
 | 0, _, _, _, _, _, _, _, _, _ => none
 | k + 1, x3, x279000, x279001, x279002, x279003, x279004, x279005, x279006, x279007 => isoglossref06_Subtags.l4 k x3 0 x279000 x279001 x279002 x279003 x279004 x279005 x279006 x279007
def isoglossref06_Subtags.l4 : Nat → List ByteArray → Int → ByteArray → List ByteArray → ByteArray → ByteArray → List ByteArray → List (S62) → List ByteArray → ByteArray → Option (List ByteArray)
 | 0, _, _, _, _, _, _, _, _, _, _ => none
 | k + 1, x3, x8, x279000, x279001, x279002, x279003, x279004, x279005, x279006, x279007 => if x8 < (x279006.length : Int) then (if 0 ≤ x8 then (if x3.length < 8796093022208 then (isoglossref06_Subtags.l4 k (x3 ++ [rdOf ByteArray.empty x279006 x8]) (wrap64 (x8 + 1)) x279000 x279001 x279002 x279003 x279004 x279005 x279006 x279007) else (none)) else (none)) else (some x3)
end
def isoglossref06_Subtags.f (k : Nat) (a0_0 : ByteArray) (l0_1 : List ByteArray) (a0_2 : ByteArray) (a0_3 : ByteArray) (l0_4 : List ByteArray) (l0_5 : List (S62)) (l0_6 : List ByteArray) (a0_7 : ByteArray) : Option (List ByteArray) := if a0_7.toList = ([] : List UInt8) then (if a0_0.toList = ([] : List UInt8) then (isoglossref06_Subtags.j0 k ([] : List ByteArray) a0_0 l0_1 a0_2 a0_3 l0_4 l0_5 l0_6 a0_7) else (if ([] : List ByteArray).length < 8796093022208 then (isoglossref06_Subtags.j0 k (([] : List ByteArray) ++ [a0_0]) a0_0 l0_1 a0_2 a0_3 l0_4 l0_5 l0_6 a0_7) else (none))) else ((isoglossref04_Split.f k a0_7).bind fun t279 => (some t279))
set_option maxHeartbeats 8000000 in
set_option maxRecDepth 100000 in
theorem isoglossref06_Subtags.calls (k : Nat) (a0_0 : ByteArray) (A0_1 : Option Addr) (c0_1 : Nat) (l0_1 : List ByteArray) (a0_2 : ByteArray) (a0_3 : ByteArray) (A0_4 : Option Addr) (c0_4 : Nat) (l0_4 : List ByteArray) (A0_5 : Option Addr) (c0_5 : Nat) (l0_5 : List (S62)) (A0_6 : Option Addr) (c0_6 : Nat) (l0_6 : List ByteArray) (a0_7 : ByteArray) (r : List ByteArray) (w : World) (hr0_1 : Kd.C Kd.string w A0_1 l0_1.length l0_1) (hc0_1 : l0_1.length ≤ c0_1) (hr0_4 : Kd.C Kd.string w A0_4 l0_4.length l0_4) (hc0_4 : l0_4.length ≤ c0_4) (hr0_5 : Kd.C k62 w A0_5 l0_5.length l0_5) (hc0_5 : l0_5.length ≤ c0_5) (hr0_6 : Kd.C Kd.string w A0_6 l0_6.length l0_6) (hc0_6 : l0_6.length ≤ c0_6) (h : isoglossref06_Subtags.f k a0_0 l0_1 a0_2 a0_3 l0_4 l0_5 l0_6 a0_7 = some r) :
  Calls Try.prog 22 #[.agg #[.string a0_0, .slice A0_1 l0_1.length c0_1, .string a0_2, .string a0_3, .slice A0_4 l0_4.length c0_4, .slice A0_5 l0_5.length c0_5, .slice A0_6 l0_6.length c0_6, .string a0_7]] w fun e w' => ∃ v0_ : Value, e = .returned (v0_) ∧ Kd.R Kd.string 9 w' w.heap.size (fun _ => True) v0_ r ∧ Below w.heap.size w w' := by
 have hu34 := Try.underlying34
 have HR0_1 := Aside0.mk hr0_1
 have HC0_1 := Aside0.mk hc0_1
 clear hr0_1 hc0_1
 have HR0_4 := Aside0.mk hr0_4
 have HC0_4 := Aside0.mk hc0_4
 clear hr0_4 hc0_4
 have HR0_5 := Aside0.mk hr0_5
 have HC0_5 := Aside0.mk hc0_5
 clear hr0_5 hc0_5
 have HR0_6 := Aside0.mk hr0_6
 have HC0_6 := Aside0.mk hc0_6
 clear hr0_6 hc0_6
 have HB := Aside0.mk (Below.refl w.heap.size w)
 have H : (if a0_7.toList = ([] : List UInt8) then (if a0_0.toList = ([] : List UInt8) then (isoglossref06_Subtags.j0 k ([] : List ByteArray) a0_0 l0_1 a0_2 a0_3 l0_4 l0_5 l0_6 a0_7) else (if ([] : List ByteArray).length < 8796093022208 then (isoglossref06_Subtags.j0 k (([] : List ByteArray) ++ [a0_0]) a0_0 l0_1 a0_2 a0_3 l0_4 l0_5 l0_6 a0_7) else (none))) else ((isoglossref04_Split.f k a0_7).bind fun t279 => (some t279))) = some r := h
 clear h
 by_cases c2 : a0_7.toList = ([] : List UInt8)
 ·rw [if_pos c2] at H
  have c2b0 : (a0_7.toList == ([] : List UInt8)) = true := beq_iff_eq.mpr c2
  have c2e0 : a0_7.toList.isEmpty = true := List.isEmpty_iff.2 c2
  have c2e1 : (!a0_7.toList.isEmpty) = false := by rw [c2e0]; rfl
  have c2b1 : (a0_7.toList != ([] : List UInt8)) = false := bne_eq_false_iff_eq.mpr c2
  clear c2
  have HC3 := Aside0.mk H
  clear H
  go_enter Try.func22, Try.ntmps22
  go_upto_if 17 with (first | ((with_reducible refine gate_dst (N := 1) rfl ?_); refine box_event ?hg (N := 1) ?hd (cs := #[.string a0_0, .slice A0_1 l0_1.length c0_1, .string a0_2, .string a0_3, .slice A0_4 l0_4.length c0_4, .slice A0_5 l0_5.length c0_5, .slice A0_6 l0_6.length c0_6, .string a0_7]) (t := 34) ?hr ?_; (case hd => rfl); (case hg => rfl); (case hr => first | (go_simp; done) | (go_simp; rfl)); intro gb278 hg w4 hbox hb; have n0_ := Aside0.mk (below_step (by repeat (first | (with_reducible first | exact HB.out | apply below_alloc | apply pw_below_drewN | apply below_drew1) | exact HB.out)) hb); have n1_ := Aside0.mk (hbox); have n2_ := Aside0.mk ((by rw [hg]; exact (below_size (by repeat (first | (with_reducible first | exact HB.out | apply below_alloc | apply pw_below_drewN | apply below_drew1) | exact HB.out))) : w.heap.size ≤ gb278)); have n3_ := Aside0.mk ((by rw [hg]; exact (below_size (by repeat (first | (with_reducible first | exact HB.out | apply below_alloc | apply pw_below_drewN | apply below_drew1) | exact HB.out))) : w.heap.size ≤ gb278)); clear HB; have HB := n0_; have BK278 := n1_; have GW278 := n2_; have GE278 := n3_; clear n0_ n1_ n2_ n3_; clear hb hbox hg; have hcz5_0 : w4.cell? ⟨gb278, 0, none⟩ = some (.string a0_0) := (blk_cell BK278.out 0).trans rfl; have hcz5_1 : w4.cell? ⟨gb278, 1, none⟩ = some (.slice A0_1 l0_1.length c0_1) := (blk_cell BK278.out 1).trans rfl; have hcz5_2 : w4.cell? ⟨gb278, 2, none⟩ = some (.string a0_2) := (blk_cell BK278.out 2).trans rfl; have hcz5_3 : w4.cell? ⟨gb278, 3, none⟩ = some (.string a0_3) := (blk_cell BK278.out 3).trans rfl; have hcz5_4 : w4.cell? ⟨gb278, 4, none⟩ = some (.slice A0_4 l0_4.length c0_4) := (blk_cell BK278.out 4).trans rfl; have hcz5_5 : w4.cell? ⟨gb278, 5, none⟩ = some (.slice A0_5 l0_5.length c0_5) := (blk_cell BK278.out 5).trans rfl; have hcz5_6 : w4.cell? ⟨gb278, 6, none⟩ = some (.slice A0_6 l0_6.length c0_6) := (blk_cell BK278.out 6).trans rfl; have hcz5_7 : w4.cell? ⟨gb278, 7, none⟩ = some (.string a0_7) := (blk_cell BK278.out 7).trans rfl; have hfz5_0 := blk_frozen BK278.out 0; have hfz5_1 := blk_frozen BK278.out 1; have hfz5_2 := blk_frozen BK278.out 2; have hfz5_3 := blk_frozen BK278.out 3; have hfz5_4 := blk_frozen BK278.out 4; have hfz5_5 := blk_frozen BK278.out 5; have hfz5_6 := blk_frozen BK278.out 6; have hfz5_7 := blk_frozen BK278.out 7))
  (try simp only [Act.put, List.setIfInBounds_toArray, List.set_cons_zero, List.set_cons_succ])
  go_cut [3] (fun v3 wc => ∃ (kq : Nat) (x3_2 : List ByteArray), Aside0 (isoglossref06_Subtags.j0 kq x3_2 a0_0 l0_1 a0_2 a0_3 l0_4 l0_5 l0_6 a0_7 = some r) ∧ Aside0 (kq ≤ k) ∧ Aside0 (Kd.R Kd.string 9 wc w.heap.size (fun _ => True) v3 x3_2) ∧ Aside0 (wc.heap[gb278]? = some (.cells #[.string a0_0, (.slice A0_1 l0_1.length c0_1), .string a0_2, .string a0_3, (.slice A0_4 l0_4.length c0_4), (.slice A0_5 l0_5.length c0_5), (.slice A0_6 l0_6.length c0_6), .string a0_7] 34 (0, 0))) ∧ Aside0 (Below w.heap.size w wc))
  case first =>
   have H := HC3.out
   clear HC3
   by_cases c6 : a0_0.toList = ([] : List UInt8)
   ·rw [if_pos c6] at H
    have c6b0 : (a0_0.toList == ([] : List UInt8)) = true := beq_iff_eq.mpr c6
    have c6e0 : a0_0.toList.isEmpty = true := List.isEmpty_iff.2 c6
    have c6e1 : (!a0_0.toList.isEmpty) = false := by rw [c6e0]; rfl
    have c6b1 : (a0_0.toList != ([] : List UInt8)) = false := bne_eq_false_iff_eq.mpr c6
    clear c6
    (first | rw [c6e1] | rw [c6e0] | rw [c6b0] | rw [c6b1] | (simp only [i64_w, i32_w]; rw [c6b0]) | skip)
    have H' := Aside0.mk H
    clear H
    go_wp2
    go_meet
    case rel => exact ⟨_, (([] : List ByteArray)), H', ⟨by first | omega | exact Nat.le_refl _⟩, ⟨by first | exact Kd.R_nil _ _ _ _ _ | exact Kd.N_nil _ _ _ _ _ | exact Kd.V_nil _ _ _ _ _ | exact Kd.Q_nil _ _ _ _ _ | exact Kd.S_nil _ _ _ _ _⟩, ⟨by (with_reducible repeat (first | refine blk_drewN ?_ _ | refine blk_drew ?_ | refine blk_alloc ?_ _)); exact BK278.out⟩, ⟨by repeat (first | (with_reducible first | exact HB.out | apply below_alloc | apply pw_below_drewN | apply below_drew1 | refine below_set ?_ GE278.out) | exact HB.out)⟩⟩
   ·rw [if_neg c6] at H
    have c6b0 : (a0_0.toList == ([] : List UInt8)) = false := beq_eq_false_iff_ne.mpr c6
    have c6e0 : a0_0.toList.isEmpty = false := List.isEmpty_eq_false_iff.2 c6
    have c6e1 : (!a0_0.toList.isEmpty) = true := by rw [c6e0]; rfl
    have c6b1 : (a0_0.toList != ([] : List UInt8)) = true := bne_iff_ne.mpr c6
    (first | rw [c6e1] | rw [c6e0] | rw [c6b0] | rw [c6b1] | (simp only [i64_w, i32_w]; rw [c6b0]) | skip)
    by_cases c7 : ([] : List ByteArray).length < 8796093022208
    ·rw [if_pos c7] at H
     have LMc7 := Aside0.mk c7
     clear c7
     obtain ⟨y282, hy282⟩ : ∃ y_ : List ByteArray, y_ = (([] : List ByteArray) ++ [a0_0]) := ⟨_, rfl⟩
     replace H : (isoglossref06_Subtags.j0 k y282 a0_0 l0_1 a0_2 a0_3 l0_4 l0_5 l0_6 a0_7) = some r := by first | (rw [hy282]; with_reducible exact H) | (have H2_ := (Option.bind_some _ _).symm.trans H; rw [hy282]; with_reducible exact H2_) | (have H2_ := (Option.bind_some _ _).symm.trans H; with_reducible exact H2_) | with_reducible exact H | (rw [hy282]; exact H) | exact H
     have Ny282 := Aside0.mk hy282
     clear hy282
     have H' := Aside0.mk H
     clear H
     have hcz8_0 : w4.cell? ⟨gb278, 0, none⟩ = some (.string a0_0) := (blk_cell BK278.out 0).trans rfl
     have hcz8_1 : w4.cell? ⟨gb278, 1, none⟩ = some (.slice A0_1 l0_1.length c0_1) := (blk_cell BK278.out 1).trans rfl
     have hcz8_2 : w4.cell? ⟨gb278, 2, none⟩ = some (.string a0_2) := (blk_cell BK278.out 2).trans rfl
     have hcz8_3 : w4.cell? ⟨gb278, 3, none⟩ = some (.string a0_3) := (blk_cell BK278.out 3).trans rfl
     have hcz8_4 : w4.cell? ⟨gb278, 4, none⟩ = some (.slice A0_4 l0_4.length c0_4) := (blk_cell BK278.out 4).trans rfl
     have hcz8_5 : w4.cell? ⟨gb278, 5, none⟩ = some (.slice A0_5 l0_5.length c0_5) := (blk_cell BK278.out 5).trans rfl
     have hcz8_6 : w4.cell? ⟨gb278, 6, none⟩ = some (.slice A0_6 l0_6.length c0_6) := (blk_cell BK278.out 6).trans rfl
     have hcz8_7 : w4.cell? ⟨gb278, 7, none⟩ = some (.string a0_7) := (blk_cell BK278.out 7).trans rfl
     have hfz8_0 := blk_frozen BK278.out 0
     have hfz8_1 := blk_frozen BK278.out 1
     have hfz8_2 := blk_frozen BK278.out 2
     have hfz8_3 := blk_frozen BK278.out 3
     have hfz8_4 := blk_frozen BK278.out 4
     have hfz8_5 := blk_frozen BK278.out 5
     have hfz8_6 := blk_frozen BK278.out 6
     have hfz8_7 := blk_frozen BK278.out 7
     go_wp2_with (first | ((with_reducible refine gate_builtin (b := .append) (xs := #[.tmp 18, .tmp 21]) rfl ?_); at_builtin; refine Kd.R_append Kd.string (w0 := w) w.heap.size rfl (.tmp 18) (.tmp 21) 25 9 (.string ⟨#[]⟩) 16 rfl Try.underlying25 info9 rfl (by decide) (by omega) (.slice none 0 0) ([] : List ByteArray) a0_0 [.string a0_0] (fun _ => True) (fun _ => False) rfl rfl ?aP (fun _ hk => hk.elim) ?aF ?aO ?aB ?aS ?aL ?_; (case aP => exact rfl); (case aB => exact (by repeat (first | (with_reducible first | exact HB.out | apply below_alloc | apply pw_below_drewN | apply below_drew1 | refine below_set ?_ GE278.out) | exact HB.out))); (case aF => exact (fun _ _ => trivial)); (case aO => exact ((Kd.R_nil _ _ _ _ (fun _ => True)))); (case aS => exact (below_size (by repeat (first | (with_reducible first | exact HB.out | apply below_alloc | apply pw_below_drewN | apply below_drew1 | refine below_set ?_ GE278.out) | exact HB.out)))); (case aL => have := LMc7.out; omega); intro v283 w9 ho hb hg hat; rw [← Ny282.out] at ho; have n0_ := Aside0.mk (blk_grown (g := gb278) (o := .cells #[.string a0_0, .slice A0_1 l0_1.length c0_1, .string a0_2, .string a0_3, .slice A0_4 l0_4.length c0_4, .slice A0_5 l0_5.length c0_5, .slice A0_6 l0_6.length c0_6, .string a0_7] 34 (0, 0)) (by (with_reducible repeat (first | refine blk_drewN ?_ _ | refine blk_drew ?_ | refine blk_alloc ?_ _)); exact BK278.out) hg (by simp [Value.ownBlock])); have n1_ := Aside0.mk (hb); have n2_ := Aside0.mk (ho); clear BK278; clear HB; have BK278 := n0_; have HB := n1_; have HO284 := n2_; clear n0_ n1_ n2_; clear ho hb hg hat))
     go_meet
     case rel => exact ⟨_, (y282), H', ⟨by first | omega | exact Nat.le_refl _⟩, ⟨by (with_reducible repeat (first | apply Kd.R_alloc | apply Kd.R_drewN | apply Kd.R_drew)); exact HO284.out⟩, ⟨by (with_reducible repeat (first | refine blk_drewN ?_ _ | refine blk_drew ?_ | refine blk_alloc ?_ _)); exact BK278.out⟩, ⟨by repeat (first | (with_reducible first | exact HB.out | apply below_alloc | apply pw_below_drewN | apply below_drew1 | refine below_set ?_ GE278.out) | exact HB.out)⟩⟩
    ·rw [if_neg c7] at H
     exact absurd H (by simp)
  case rest =>
   clear HC3
   try clear c2
   try clear c2b0
   try clear c2b1
   try clear p2
   try clear c6
   try clear c6b0
   try clear c6b1
   try clear c7
   try clear hcz5_0
   try clear hcz5_1
   try clear hcz5_2
   try clear hcz5_3
   try clear hcz5_4
   try clear hcz5_5
   try clear hcz5_6
   try clear hcz5_7
   try clear hcz8_0
   try clear hcz8_1
   try clear hcz8_2
   try clear hcz8_3
   try clear hcz8_4
   try clear hcz8_5
   try clear hcz8_6
   try clear hcz8_7
   try clear hfz5_0
   try clear hfz5_1
   try clear hfz5_2
   try clear hfz5_3
   try clear hfz5_4
   try clear hfz5_5
   try clear hfz5_6
   try clear hfz5_7
   try clear hfz8_0
   try clear hfz8_1
   try clear hfz8_2
   try clear hfz8_3
   try clear hfz8_4
   try clear hfz8_5
   try clear hfz8_6
   try clear hfz8_7
   obtain ⟨kq, x3_2, HA, HJ2, HO_3, BK278, HB⟩ := hcut
   cases kq with
   | zero => exact absurd HA.out (by simp [isoglossref06_Subtags.j0])
   | succ kj2 =>
    have H := HA.out
    clear HA
    simp only [isoglossref06_Subtags.j0] at H
    have H' := Aside0.mk H
    clear H
    go_wp2
    go_loopg [3, 4] kj2 (fun kq v3 v4 w' => ∃ (x3_2 : List ByteArray) (x4_2 : Int), v4 = .int .i64 x4_2 ∧ Aside0 (isoglossref06_Subtags.l0 kq x3_2 x4_2 a0_0 l0_1 a0_2 a0_3 l0_4 l0_5 l0_6 a0_7 = some r) ∧ Aside0 (kq ≤ kj2) ∧ Aside0 (Kd.R Kd.string 9 w' w.heap.size (fun _ => True) v3 x3_2) ∧ Aside0 (w'.heap[gb278]? = some (.cells #[.string a0_0, (.slice A0_1 l0_1.length c0_1), .string a0_2, .string a0_3, (.slice A0_4 l0_4.length c0_4), (.slice A0_5 l0_5.length c0_5), (.slice A0_6 l0_6.length c0_6), .string a0_7] 34 (0, 0))) ∧ Aside0 (Below w.heap.size w w'))
    case atStart => exact ⟨(x3_2), (0), (by first | rfl | (simp; done) | (simp [*]; done)), H', ⟨Nat.le_refl _⟩, ⟨by (with_reducible repeat (first | apply Kd.R_alloc | apply Kd.R_drewN | apply Kd.R_drew)); exact HO_3.out⟩, ⟨by (with_reducible repeat (first | refine blk_drewN ?_ _ | refine blk_drew ?_ | refine blk_alloc ?_ _)); exact BK278.out⟩, ⟨by repeat (first | (with_reducible first | exact HB.out | apply below_alloc | apply pw_below_drewN | apply below_drew1 | refine below_set ?_ GE278.out) | exact HB.out)⟩⟩
    case round =>
     clear H'
     try clear c2
     try clear c2b0
     try clear c2b1
     try clear p2
     try clear c6
     try clear c6b0
     try clear c6b1
     try clear c7
     try clear hcz5_0
     try clear hcz5_1
     try clear hcz5_2
     try clear hcz5_3
     try clear hcz5_4
     try clear hcz5_5
     try clear hcz5_6
     try clear hcz5_7
     try clear hcz8_0
     try clear hcz8_1
     try clear hcz8_2
     try clear hcz8_3
     try clear hcz8_4
     try clear hcz8_5
     try clear hcz8_6
     try clear hcz8_7
     try clear hfz5_0
     try clear hfz5_1
     try clear hfz5_2
     try clear hfz5_3
     try clear hfz5_4
     try clear hfz5_5
     try clear hfz5_6
     try clear hfz5_7
     try clear hfz8_0
     try clear hfz8_1
     try clear hfz8_2
     try clear hfz8_3
     try clear hfz8_4
     try clear hfz8_5
     try clear hfz8_6
     try clear hfz8_7
     try clear p2
     obtain ⟨x3_2, x4_2, rfl, HA, HK2, HO_3, BK278, HB⟩ := hrel
     cases gk with
     | zero => exact absurd HA.out (by simp [isoglossref06_Subtags.l0])
     | succ k2 =>
      have H := HA.out
      clear HA
      simp only [isoglossref06_Subtags.l0] at H
      by_cases c10 : x4_2 < (l0_1.length : Int)
      ·rw [if_pos c10] at H
       have c10b0 : decide (x4_2 < (l0_1.length : Int)) = true := decide_eq_true c10
       clear c10
       by_cases c11 : 0 ≤ x4_2
       ·rw [if_pos c11] at H
        have c11b0 : decide (0 ≤ x4_2) = true := decide_eq_true c11
        clear c11
        by_cases c12 : x3_2.length < 8796093022208
        ·rw [if_pos c12] at H
         have LMc12 := Aside0.mk c12
         clear c12
         obtain ⟨y286, hy286⟩ : ∃ y_ : List ByteArray, y_ = (x3_2 ++ [rdOf ByteArray.empty l0_1 x4_2]) := ⟨_, rfl⟩
         replace H : (isoglossref06_Subtags.l0 k2 y286 (wrap64 (x4_2 + 1)) a0_0 l0_1 a0_2 a0_3 l0_4 l0_5 l0_6 a0_7) = some r := by first | (rw [hy286]; with_reducible exact H) | (have H2_ := (Option.bind_some _ _).symm.trans H; rw [hy286]; with_reducible exact H2_) | (have H2_ := (Option.bind_some _ _).symm.trans H; with_reducible exact H2_) | with_reducible exact H | (rw [hy286]; exact H) | exact H
         have Ny286 := Aside0.mk hy286
         clear hy286
         have H' := Aside0.mk H
         clear H
         have hcz13_0 : wr.cell? ⟨gb278, 0, none⟩ = some (.string a0_0) := (blk_cell BK278.out 0).trans rfl
         have hcz13_1 : wr.cell? ⟨gb278, 1, none⟩ = some (.slice A0_1 l0_1.length c0_1) := (blk_cell BK278.out 1).trans rfl
         have hcz13_2 : wr.cell? ⟨gb278, 2, none⟩ = some (.string a0_2) := (blk_cell BK278.out 2).trans rfl
         have hcz13_3 : wr.cell? ⟨gb278, 3, none⟩ = some (.string a0_3) := (blk_cell BK278.out 3).trans rfl
         have hcz13_4 : wr.cell? ⟨gb278, 4, none⟩ = some (.slice A0_4 l0_4.length c0_4) := (blk_cell BK278.out 4).trans rfl
         have hcz13_5 : wr.cell? ⟨gb278, 5, none⟩ = some (.slice A0_5 l0_5.length c0_5) := (blk_cell BK278.out 5).trans rfl
         have hcz13_6 : wr.cell? ⟨gb278, 6, none⟩ = some (.slice A0_6 l0_6.length c0_6) := (blk_cell BK278.out 6).trans rfl
         have hcz13_7 : wr.cell? ⟨gb278, 7, none⟩ = some (.string a0_7) := (blk_cell BK278.out 7).trans rfl
         have hfz13_0 := blk_frozen BK278.out 0
         have hfz13_1 := blk_frozen BK278.out 1
         have hfz13_2 := blk_frozen BK278.out 2
         have hfz13_3 := blk_frozen BK278.out 3
         have hfz13_4 := blk_frozen BK278.out 4
         have hfz13_5 := blk_frozen BK278.out 5
         have hfz13_6 := blk_frozen BK278.out 6
         have hfz13_7 := blk_frozen BK278.out 7
         have p285 : 0 ≤ (x4_2 : Int) := of_decide_eq_true (by first | (with_reducible assumption) | assumption)
         have q285 : x4_2 < (l0_1.length : Int) := of_decide_eq_true (by first | (with_reducible assumption) | assumption)
         obtain ⟨ad285, e285, hx285_0⟩ := Kd.at_string HR0_1.out x4_2 p285 q285
         cases e285
         replace hx285_0 := (HB.out.cell (World.block_lt_of_cell? w _ hx285_0)).trans hx285_0
         replace p285 := eq_true p285
         replace q285 := eq_true q285
         go_wp2_with (first | ((with_reducible refine gate_builtin (b := .append) (xs := #[.tmp 30, .tmp 36]) rfl ?_); at_builtin; refine Kd.R_append Kd.string (w0 := w) w.heap.size rfl (.tmp 30) (.tmp 36) 25 9 (.string ⟨#[]⟩) 16 rfl Try.underlying25 info9 rfl (by decide) (by omega) u3 x3_2 (rdOf ByteArray.empty l0_1 x4_2) [.string (rdOf ByteArray.empty l0_1 x4_2)] (fun _ => True) (fun _ => False) rfl rfl ?aP (fun _ hk => hk.elim) ?aF ?aO ?aB ?aS ?aL ?_; (case aP => exact rfl); (case aB => exact (by repeat (first | (with_reducible first | exact HB.out | apply below_alloc | apply pw_below_drewN | apply below_drew1 | refine below_set ?_ GE278.out) | exact HB.out))); (case aF => exact (fun _ _ => trivial)); (case aO => exact (by (with_reducible repeat (first | apply Kd.R_alloc | apply Kd.R_drewN | apply Kd.R_drew)); exact HO_3.out)); (case aS => exact (below_size (by repeat (first | (with_reducible first | exact HB.out | apply below_alloc | apply pw_below_drewN | apply below_drew1 | refine below_set ?_ GE278.out) | exact HB.out)))); (case aL => have := LMc12.out; omega); intro v287 w14 ho hb hg hat; rw [← Ny286.out] at ho; have n0_ := Aside0.mk (blk_grown (g := gb278) (o := .cells #[.string a0_0, .slice (some ad285) l0_1.length c0_1, .string a0_2, .string a0_3, .slice A0_4 l0_4.length c0_4, .slice A0_5 l0_5.length c0_5, .slice A0_6 l0_6.length c0_6, .string a0_7] 34 (0, 0)) (by (with_reducible repeat (first | refine blk_drewN ?_ _ | refine blk_drew ?_ | refine blk_alloc ?_ _)); exact BK278.out) hg (Kd.R_ne HO_3.out BK278.out (by decide))); have n1_ := Aside0.mk (hb); have n2_ := Aside0.mk (ho); clear BK278; clear HB; clear HO_3; have BK278 := n0_; have HB := n1_; have HO288 := n2_; clear n0_ n1_ n2_; clear ho hb hg hat))
         go_roundg k2
         case measure => have := HJ2.out; have := HK2.out; omega
         case rel => exact ⟨(y286), (wrap64 (x4_2 + 1)), (by first | rfl | (simp; done) | (simp [*]; done)), H', ⟨by have := HJ2.out; have := HK2.out; omega⟩, ⟨by (with_reducible repeat (first | apply Kd.R_alloc | apply Kd.R_drewN | apply Kd.R_drew)); exact HO288.out⟩, ⟨by (with_reducible repeat (first | refine blk_drewN ?_ _ | refine blk_drew ?_ | refine blk_alloc ?_ _)); exact BK278.out⟩, ⟨by repeat (first | (with_reducible first | exact HB.out | apply below_alloc | apply pw_below_drewN | apply below_drew1 | refine below_set ?_ GE278.out) | exact HB.out)⟩⟩
        ·rw [if_neg c12] at H
         exact absurd H (by simp)
       ·rw [if_neg c11] at H
        exact absurd H (by simp)
      ·rw [if_neg c10] at H
       have c10b0 : decide (x4_2 < (l0_1.length : Int)) = false := decide_eq_false c10
       clear c10
       have HC15 := Aside0.mk H
       clear H
       have hcz16_0 : wr.cell? ⟨gb278, 0, none⟩ = some (.string a0_0) := (blk_cell BK278.out 0).trans rfl
       have hcz16_1 : wr.cell? ⟨gb278, 1, none⟩ = some (.slice A0_1 l0_1.length c0_1) := (blk_cell BK278.out 1).trans rfl
       have hcz16_2 : wr.cell? ⟨gb278, 2, none⟩ = some (.string a0_2) := (blk_cell BK278.out 2).trans rfl
       have hcz16_3 : wr.cell? ⟨gb278, 3, none⟩ = some (.string a0_3) := (blk_cell BK278.out 3).trans rfl
       have hcz16_4 : wr.cell? ⟨gb278, 4, none⟩ = some (.slice A0_4 l0_4.length c0_4) := (blk_cell BK278.out 4).trans rfl
       have hcz16_5 : wr.cell? ⟨gb278, 5, none⟩ = some (.slice A0_5 l0_5.length c0_5) := (blk_cell BK278.out 5).trans rfl
       have hcz16_6 : wr.cell? ⟨gb278, 6, none⟩ = some (.slice A0_6 l0_6.length c0_6) := (blk_cell BK278.out 6).trans rfl
       have hcz16_7 : wr.cell? ⟨gb278, 7, none⟩ = some (.string a0_7) := (blk_cell BK278.out 7).trans rfl
       have hfz16_0 := blk_frozen BK278.out 0
       have hfz16_1 := blk_frozen BK278.out 1
       have hfz16_2 := blk_frozen BK278.out 2
       have hfz16_3 := blk_frozen BK278.out 3
       have hfz16_4 := blk_frozen BK278.out 4
       have hfz16_5 := blk_frozen BK278.out 5
       have hfz16_6 := blk_frozen BK278.out 6
       have hfz16_7 := blk_frozen BK278.out 7
       go_upto_if 40 with (fail)
       go_cut [3] (fun v3 wc => ∃ (kq : Nat) (x3_14 : List ByteArray), Aside0 (isoglossref06_Subtags.j2 kq x3_14 a0_0 l0_1 a0_2 a0_3 l0_4 l0_5 l0_6 a0_7 = some r) ∧ Aside0 (kq ≤ k2) ∧ Aside0 (Kd.R Kd.string 9 wc w.heap.size (fun _ => True) v3 x3_14) ∧ Aside0 (wc.heap[gb278]? = some (.cells #[.string a0_0, (.slice A0_1 l0_1.length c0_1), .string a0_2, .string a0_3, (.slice A0_4 l0_4.length c0_4), (.slice A0_5 l0_5.length c0_5), (.slice A0_6 l0_6.length c0_6), .string a0_7] 34 (0, 0))) ∧ Aside0 (Below w.heap.size w wc))
       case first =>
        have H := HC15.out
        clear HC15
        by_cases c17 : a0_2.toList = ([] : List UInt8)
        ·rw [if_pos c17] at H
         have c17b0 : (a0_2.toList == ([] : List UInt8)) = true := beq_iff_eq.mpr c17
         have c17e0 : a0_2.toList.isEmpty = true := List.isEmpty_iff.2 c17
         have c17e1 : (!a0_2.toList.isEmpty) = false := by rw [c17e0]; rfl
         have c17b1 : (a0_2.toList != ([] : List UInt8)) = false := bne_eq_false_iff_eq.mpr c17
         clear c17
         (first | rw [c17e1] | rw [c17e0] | rw [c17b0] | rw [c17b1] | (simp only [i64_w, i32_w]; rw [c17b0]) | skip)
         have H' := Aside0.mk H
         clear H
         go_wp2
         go_meet
         case rel => exact ⟨_, (x3_2), H', ⟨by have := HJ2.out; have := HK2.out; first | omega | exact Nat.le_refl _⟩, ⟨by (with_reducible repeat (first | apply Kd.R_alloc | apply Kd.R_drewN | apply Kd.R_drew)); exact HO_3.out⟩, ⟨by (with_reducible repeat (first | refine blk_drewN ?_ _ | refine blk_drew ?_ | refine blk_alloc ?_ _)); exact BK278.out⟩, ⟨by repeat (first | (with_reducible first | exact HB.out | apply below_alloc | apply pw_below_drewN | apply below_drew1 | refine below_set ?_ GE278.out) | exact HB.out)⟩⟩
        ·rw [if_neg c17] at H
         have c17b0 : (a0_2.toList == ([] : List UInt8)) = false := beq_eq_false_iff_ne.mpr c17
         have c17e0 : a0_2.toList.isEmpty = false := List.isEmpty_eq_false_iff.2 c17
         have c17e1 : (!a0_2.toList.isEmpty) = true := by rw [c17e0]; rfl
         have c17b1 : (a0_2.toList != ([] : List UInt8)) = true := bne_iff_ne.mpr c17
         (first | rw [c17e1] | rw [c17e0] | rw [c17b0] | rw [c17b1] | (simp only [i64_w, i32_w]; rw [c17b0]) | skip)
         by_cases c18 : x3_2.length < 8796093022208
         ·rw [if_pos c18] at H
          have LMc18 := Aside0.mk c18
          clear c18
          obtain ⟨y289, hy289⟩ : ∃ y_ : List ByteArray, y_ = (x3_2 ++ [a0_2]) := ⟨_, rfl⟩
          replace H : (isoglossref06_Subtags.j2 k2 y289 a0_0 l0_1 a0_2 a0_3 l0_4 l0_5 l0_6 a0_7) = some r := by first | (rw [hy289]; with_reducible exact H) | (have H2_ := (Option.bind_some _ _).symm.trans H; rw [hy289]; with_reducible exact H2_) | (have H2_ := (Option.bind_some _ _).symm.trans H; with_reducible exact H2_) | with_reducible exact H | (rw [hy289]; exact H) | exact H
          have Ny289 := Aside0.mk hy289
          clear hy289
          have H' := Aside0.mk H
          clear H
          have hcz19_0 : wr.cell? ⟨gb278, 0, none⟩ = some (.string a0_0) := (blk_cell BK278.out 0).trans rfl
          have hcz19_1 : wr.cell? ⟨gb278, 1, none⟩ = some (.slice A0_1 l0_1.length c0_1) := (blk_cell BK278.out 1).trans rfl
          have hcz19_2 : wr.cell? ⟨gb278, 2, none⟩ = some (.string a0_2) := (blk_cell BK278.out 2).trans rfl
          have hcz19_3 : wr.cell? ⟨gb278, 3, none⟩ = some (.string a0_3) := (blk_cell BK278.out 3).trans rfl
          have hcz19_4 : wr.cell? ⟨gb278, 4, none⟩ = some (.slice A0_4 l0_4.length c0_4) := (blk_cell BK278.out 4).trans rfl
          have hcz19_5 : wr.cell? ⟨gb278, 5, none⟩ = some (.slice A0_5 l0_5.length c0_5) := (blk_cell BK278.out 5).trans rfl
          have hcz19_6 : wr.cell? ⟨gb278, 6, none⟩ = some (.slice A0_6 l0_6.length c0_6) := (blk_cell BK278.out 6).trans rfl
          have hcz19_7 : wr.cell? ⟨gb278, 7, none⟩ = some (.string a0_7) := (blk_cell BK278.out 7).trans rfl
          have hfz19_0 := blk_frozen BK278.out 0
          have hfz19_1 := blk_frozen BK278.out 1
          have hfz19_2 := blk_frozen BK278.out 2
          have hfz19_3 := blk_frozen BK278.out 3
          have hfz19_4 := blk_frozen BK278.out 4
          have hfz19_5 := blk_frozen BK278.out 5
          have hfz19_6 := blk_frozen BK278.out 6
          have hfz19_7 := blk_frozen BK278.out 7
          go_wp2_with (first | ((with_reducible refine gate_builtin (b := .append) (xs := #[.tmp 41, .tmp 44]) rfl ?_); at_builtin; refine Kd.R_append Kd.string (w0 := w) w.heap.size rfl (.tmp 41) (.tmp 44) 25 9 (.string ⟨#[]⟩) 16 rfl Try.underlying25 info9 rfl (by decide) (by omega) u3 x3_2 a0_2 [.string a0_2] (fun _ => True) (fun _ => False) rfl rfl ?aP (fun _ hk => hk.elim) ?aF ?aO ?aB ?aS ?aL ?_; (case aP => exact rfl); (case aB => exact (by repeat (first | (with_reducible first | exact HB.out | apply below_alloc | apply pw_below_drewN | apply below_drew1 | refine below_set ?_ GE278.out) | exact HB.out))); (case aF => exact (fun _ _ => trivial)); (case aO => exact (by (with_reducible repeat (first | apply Kd.R_alloc | apply Kd.R_drewN | apply Kd.R_drew)); exact HO_3.out)); (case aS => exact (below_size (by repeat (first | (with_reducible first | exact HB.out | apply below_alloc | apply pw_below_drewN | apply below_drew1 | refine below_set ?_ GE278.out) | exact HB.out)))); (case aL => have := LMc18.out; omega); intro v290 w20 ho hb hg hat; rw [← Ny289.out] at ho; have n0_ := Aside0.mk (blk_grown (g := gb278) (o := .cells #[.string a0_0, .slice A0_1 l0_1.length c0_1, .string a0_2, .string a0_3, .slice A0_4 l0_4.length c0_4, .slice A0_5 l0_5.length c0_5, .slice A0_6 l0_6.length c0_6, .string a0_7] 34 (0, 0)) (by (with_reducible repeat (first | refine blk_drewN ?_ _ | refine blk_drew ?_ | refine blk_alloc ?_ _)); exact BK278.out) hg (Kd.R_ne HO_3.out BK278.out (by decide))); have n1_ := Aside0.mk (hb); have n2_ := Aside0.mk (ho); clear BK278; clear HB; clear HO_3; have BK278 := n0_; have HB := n1_; have HO291 := n2_; clear n0_ n1_ n2_; clear ho hb hg hat))
          go_meet
          case rel => exact ⟨_, (y289), H', ⟨by have := HJ2.out; have := HK2.out; first | omega | exact Nat.le_refl _⟩, ⟨by (with_reducible repeat (first | apply Kd.R_alloc | apply Kd.R_drewN | apply Kd.R_drew)); exact HO291.out⟩, ⟨by (with_reducible repeat (first | refine blk_drewN ?_ _ | refine blk_drew ?_ | refine blk_alloc ?_ _)); exact BK278.out⟩, ⟨by repeat (first | (with_reducible first | exact HB.out | apply below_alloc | apply pw_below_drewN | apply below_drew1 | refine below_set ?_ GE278.out) | exact HB.out)⟩⟩
         ·rw [if_neg c18] at H
          exact absurd H (by simp)
       case rest =>
        clear HC15
        try clear c1
        try clear c2
        try clear c2b0
        try clear c2b1
        try clear p2
        try clear q2
        try clear hx2
        try clear c6
        try clear c6b0
        try clear c6b1
        try clear p6
        try clear c7
        try clear c10
        try clear c10b0
        try clear c11
        try clear c11b0
        try clear c12
        try clear c17
        try clear c17b0
        try clear c17b1
        try clear c18
        try clear hcz13_0
        try clear hcz13_1
        try clear hcz13_2
        try clear hcz13_3
        try clear hcz13_4
        try clear hcz13_5
        try clear hcz13_6
        try clear hcz13_7
        try clear hcz16_0
        try clear hcz16_1
        try clear hcz16_2
        try clear hcz16_3
        try clear hcz16_4
        try clear hcz16_5
        try clear hcz16_6
        try clear hcz16_7
        try clear hcz19_0
        try clear hcz19_1
        try clear hcz19_2
        try clear hcz19_3
        try clear hcz19_4
        try clear hcz19_5
        try clear hcz19_6
        try clear hcz19_7
        try clear hcz5_0
        try clear hcz5_1
        try clear hcz5_2
        try clear hcz5_3
        try clear hcz5_4
        try clear hcz5_5
        try clear hcz5_6
        try clear hcz5_7
        try clear hcz8_0
        try clear hcz8_1
        try clear hcz8_2
        try clear hcz8_3
        try clear hcz8_4
        try clear hcz8_5
        try clear hcz8_6
        try clear hcz8_7
        try clear hfz13_0
        try clear hfz13_1
        try clear hfz13_2
        try clear hfz13_3
        try clear hfz13_4
        try clear hfz13_5
        try clear hfz13_6
        try clear hfz13_7
        try clear hfz16_0
        try clear hfz16_1
        try clear hfz16_2
        try clear hfz16_3
        try clear hfz16_4
        try clear hfz16_5
        try clear hfz16_6
        try clear hfz16_7
        try clear hfz19_0
        try clear hfz19_1
        try clear hfz19_2
        try clear hfz19_3
        try clear hfz19_4
        try clear hfz19_5
        try clear hfz19_6
        try clear hfz19_7
        try clear hfz5_0
        try clear hfz5_1
        try clear hfz5_2
        try clear hfz5_3
        try clear hfz5_4
        try clear hfz5_5
        try clear hfz5_6
        try clear hfz5_7
        try clear hfz8_0
        try clear hfz8_1
        try clear hfz8_2
        try clear hfz8_3
        try clear hfz8_4
        try clear hfz8_5
        try clear hfz8_6
        try clear hfz8_7
        try clear hx285_0
        try clear p2
        try clear p285
        try clear q285
        obtain ⟨kq, x3_14, HA, HJ14, HO_3, BK278, HB⟩ := hcut
        cases kq with
        | zero => exact absurd HA.out (by simp [isoglossref06_Subtags.j2])
        | succ kj14 =>
         have H := HA.out
         clear HA
         simp only [isoglossref06_Subtags.j2] at H
         have HC21 := Aside0.mk H
         clear H
         have hcz22_0 : wc.cell? ⟨gb278, 0, none⟩ = some (.string a0_0) := (blk_cell BK278.out 0).trans rfl
         have hcz22_1 : wc.cell? ⟨gb278, 1, none⟩ = some (.slice A0_1 l0_1.length c0_1) := (blk_cell BK278.out 1).trans rfl
         have hcz22_2 : wc.cell? ⟨gb278, 2, none⟩ = some (.string a0_2) := (blk_cell BK278.out 2).trans rfl
         have hcz22_3 : wc.cell? ⟨gb278, 3, none⟩ = some (.string a0_3) := (blk_cell BK278.out 3).trans rfl
         have hcz22_4 : wc.cell? ⟨gb278, 4, none⟩ = some (.slice A0_4 l0_4.length c0_4) := (blk_cell BK278.out 4).trans rfl
         have hcz22_5 : wc.cell? ⟨gb278, 5, none⟩ = some (.slice A0_5 l0_5.length c0_5) := (blk_cell BK278.out 5).trans rfl
         have hcz22_6 : wc.cell? ⟨gb278, 6, none⟩ = some (.slice A0_6 l0_6.length c0_6) := (blk_cell BK278.out 6).trans rfl
         have hcz22_7 : wc.cell? ⟨gb278, 7, none⟩ = some (.string a0_7) := (blk_cell BK278.out 7).trans rfl
         have hfz22_0 := blk_frozen BK278.out 0
         have hfz22_1 := blk_frozen BK278.out 1
         have hfz22_2 := blk_frozen BK278.out 2
         have hfz22_3 := blk_frozen BK278.out 3
         have hfz22_4 := blk_frozen BK278.out 4
         have hfz22_5 := blk_frozen BK278.out 5
         have hfz22_6 := blk_frozen BK278.out 6
         have hfz22_7 := blk_frozen BK278.out 7
         go_upto_if 48 with (fail)
         go_cut [3] (fun v3 wc => ∃ (kq : Nat) (x3_20 : List ByteArray), Aside0 (isoglossref06_Subtags.j3 kq x3_20 a0_0 l0_1 a0_2 a0_3 l0_4 l0_5 l0_6 a0_7 = some r) ∧ Aside0 (kq ≤ kj14) ∧ Aside0 (Kd.R Kd.string 9 wc w.heap.size (fun _ => True) v3 x3_20) ∧ Aside0 (wc.heap[gb278]? = some (.cells #[.string a0_0, (.slice A0_1 l0_1.length c0_1), .string a0_2, .string a0_3, (.slice A0_4 l0_4.length c0_4), (.slice A0_5 l0_5.length c0_5), (.slice A0_6 l0_6.length c0_6), .string a0_7] 34 (0, 0))) ∧ Aside0 (Below w.heap.size w wc))
         case first =>
          have H := HC21.out
          clear HC21
          by_cases c23 : a0_3.toList = ([] : List UInt8)
          ·rw [if_pos c23] at H
           have c23b0 : (a0_3.toList == ([] : List UInt8)) = true := beq_iff_eq.mpr c23
           have c23e0 : a0_3.toList.isEmpty = true := List.isEmpty_iff.2 c23
           have c23e1 : (!a0_3.toList.isEmpty) = false := by rw [c23e0]; rfl
           have c23b1 : (a0_3.toList != ([] : List UInt8)) = false := bne_eq_false_iff_eq.mpr c23
           clear c23
           (first | rw [c23e1] | rw [c23e0] | rw [c23b0] | rw [c23b1] | (simp only [i64_w, i32_w]; rw [c23b0]) | skip)
           have H' := Aside0.mk H
           clear H
           go_wp2
           go_meet
           case rel => exact ⟨_, (x3_14), H', ⟨by have := HJ2.out; have := HK2.out; have := HJ14.out; first | omega | exact Nat.le_refl _⟩, ⟨by (with_reducible repeat (first | apply Kd.R_alloc | apply Kd.R_drewN | apply Kd.R_drew)); exact HO_3.out⟩, ⟨by (with_reducible repeat (first | refine blk_drewN ?_ _ | refine blk_drew ?_ | refine blk_alloc ?_ _)); exact BK278.out⟩, ⟨by repeat (first | (with_reducible first | exact HB.out | apply below_alloc | apply pw_below_drewN | apply below_drew1 | refine below_set ?_ GE278.out) | exact HB.out)⟩⟩
          ·rw [if_neg c23] at H
           have c23b0 : (a0_3.toList == ([] : List UInt8)) = false := beq_eq_false_iff_ne.mpr c23
           have c23e0 : a0_3.toList.isEmpty = false := List.isEmpty_eq_false_iff.2 c23
           have c23e1 : (!a0_3.toList.isEmpty) = true := by rw [c23e0]; rfl
           have c23b1 : (a0_3.toList != ([] : List UInt8)) = true := bne_iff_ne.mpr c23
           (first | rw [c23e1] | rw [c23e0] | rw [c23b0] | rw [c23b1] | (simp only [i64_w, i32_w]; rw [c23b0]) | skip)
           by_cases c24 : x3_14.length < 8796093022208
           ·rw [if_pos c24] at H
            have LMc24 := Aside0.mk c24
            clear c24
            obtain ⟨y292, hy292⟩ : ∃ y_ : List ByteArray, y_ = (x3_14 ++ [a0_3]) := ⟨_, rfl⟩
            replace H : (isoglossref06_Subtags.j3 kj14 y292 a0_0 l0_1 a0_2 a0_3 l0_4 l0_5 l0_6 a0_7) = some r := by first | (rw [hy292]; with_reducible exact H) | (have H2_ := (Option.bind_some _ _).symm.trans H; rw [hy292]; with_reducible exact H2_) | (have H2_ := (Option.bind_some _ _).symm.trans H; with_reducible exact H2_) | with_reducible exact H | (rw [hy292]; exact H) | exact H
            have Ny292 := Aside0.mk hy292
            clear hy292
            have H' := Aside0.mk H
            clear H
            have hcz25_0 : wc.cell? ⟨gb278, 0, none⟩ = some (.string a0_0) := (blk_cell BK278.out 0).trans rfl
            have hcz25_1 : wc.cell? ⟨gb278, 1, none⟩ = some (.slice A0_1 l0_1.length c0_1) := (blk_cell BK278.out 1).trans rfl
            have hcz25_2 : wc.cell? ⟨gb278, 2, none⟩ = some (.string a0_2) := (blk_cell BK278.out 2).trans rfl
            have hcz25_3 : wc.cell? ⟨gb278, 3, none⟩ = some (.string a0_3) := (blk_cell BK278.out 3).trans rfl
            have hcz25_4 : wc.cell? ⟨gb278, 4, none⟩ = some (.slice A0_4 l0_4.length c0_4) := (blk_cell BK278.out 4).trans rfl
            have hcz25_5 : wc.cell? ⟨gb278, 5, none⟩ = some (.slice A0_5 l0_5.length c0_5) := (blk_cell BK278.out 5).trans rfl
            have hcz25_6 : wc.cell? ⟨gb278, 6, none⟩ = some (.slice A0_6 l0_6.length c0_6) := (blk_cell BK278.out 6).trans rfl
            have hcz25_7 : wc.cell? ⟨gb278, 7, none⟩ = some (.string a0_7) := (blk_cell BK278.out 7).trans rfl
            have hfz25_0 := blk_frozen BK278.out 0
            have hfz25_1 := blk_frozen BK278.out 1
            have hfz25_2 := blk_frozen BK278.out 2
            have hfz25_3 := blk_frozen BK278.out 3
            have hfz25_4 := blk_frozen BK278.out 4
            have hfz25_5 := blk_frozen BK278.out 5
            have hfz25_6 := blk_frozen BK278.out 6
            have hfz25_7 := blk_frozen BK278.out 7
            go_wp2_with (first | ((with_reducible refine gate_builtin (b := .append) (xs := #[.tmp 49, .tmp 52]) rfl ?_); at_builtin; refine Kd.R_append Kd.string (w0 := w) w.heap.size rfl (.tmp 49) (.tmp 52) 25 9 (.string ⟨#[]⟩) 16 rfl Try.underlying25 info9 rfl (by decide) (by omega) u3 x3_14 a0_3 [.string a0_3] (fun _ => True) (fun _ => False) rfl rfl ?aP (fun _ hk => hk.elim) ?aF ?aO ?aB ?aS ?aL ?_; (case aP => exact rfl); (case aB => exact (by repeat (first | (with_reducible first | exact HB.out | apply below_alloc | apply pw_below_drewN | apply below_drew1 | refine below_set ?_ GE278.out) | exact HB.out))); (case aF => exact (fun _ _ => trivial)); (case aO => exact (by (with_reducible repeat (first | apply Kd.R_alloc | apply Kd.R_drewN | apply Kd.R_drew)); exact HO_3.out)); (case aS => exact (below_size (by repeat (first | (with_reducible first | exact HB.out | apply below_alloc | apply pw_below_drewN | apply below_drew1 | refine below_set ?_ GE278.out) | exact HB.out)))); (case aL => have := LMc24.out; omega); intro v293 w26 ho hb hg hat; rw [← Ny292.out] at ho; have n0_ := Aside0.mk (blk_grown (g := gb278) (o := .cells #[.string a0_0, .slice A0_1 l0_1.length c0_1, .string a0_2, .string a0_3, .slice A0_4 l0_4.length c0_4, .slice A0_5 l0_5.length c0_5, .slice A0_6 l0_6.length c0_6, .string a0_7] 34 (0, 0)) (by (with_reducible repeat (first | refine blk_drewN ?_ _ | refine blk_drew ?_ | refine blk_alloc ?_ _)); exact BK278.out) hg (Kd.R_ne HO_3.out BK278.out (by decide))); have n1_ := Aside0.mk (hb); have n2_ := Aside0.mk (ho); clear BK278; clear HB; clear HO_3; have BK278 := n0_; have HB := n1_; have HO294 := n2_; clear n0_ n1_ n2_; clear ho hb hg hat))
            go_meet
            case rel => exact ⟨_, (y292), H', ⟨by have := HJ2.out; have := HK2.out; have := HJ14.out; first | omega | exact Nat.le_refl _⟩, ⟨by (with_reducible repeat (first | apply Kd.R_alloc | apply Kd.R_drewN | apply Kd.R_drew)); exact HO294.out⟩, ⟨by (with_reducible repeat (first | refine blk_drewN ?_ _ | refine blk_drew ?_ | refine blk_alloc ?_ _)); exact BK278.out⟩, ⟨by repeat (first | (with_reducible first | exact HB.out | apply below_alloc | apply pw_below_drewN | apply below_drew1 | refine below_set ?_ GE278.out) | exact HB.out)⟩⟩
           ·rw [if_neg c24] at H
            exact absurd H (by simp)
         case rest =>
          clear HC21
          try clear c1
          try clear c2
          try clear c2b0
          try clear c2b1
          try clear p2
          try clear q2
          try clear hx2
          try clear c6
          try clear c6b0
          try clear c6b1
          try clear p6
          try clear c7
          try clear c10
          try clear c10b0
          try clear c11
          try clear c11b0
          try clear c12
          try clear c17
          try clear c17b0
          try clear c17b1
          try clear c18
          try clear c22
          try clear c23
          try clear c23b0
          try clear c23b1
          try clear c24
          try clear hcz13_0
          try clear hcz13_1
          try clear hcz13_2
          try clear hcz13_3
          try clear hcz13_4
          try clear hcz13_5
          try clear hcz13_6
          try clear hcz13_7
          try clear hcz16_0
          try clear hcz16_1
          try clear hcz16_2
          try clear hcz16_3
          try clear hcz16_4
          try clear hcz16_5
          try clear hcz16_6
          try clear hcz16_7
          try clear hcz19_0
          try clear hcz19_1
          try clear hcz19_2
          try clear hcz19_3
          try clear hcz19_4
          try clear hcz19_5
          try clear hcz19_6
          try clear hcz19_7
          try clear hcz22_0
          try clear hcz22_1
          try clear hcz22_2
          try clear hcz22_3
          try clear hcz22_4
          try clear hcz22_5
          try clear hcz22_6
          try clear hcz22_7
          try clear hcz25_0
          try clear hcz25_1
          try clear hcz25_2
          try clear hcz25_3
          try clear hcz25_4
          try clear hcz25_5
          try clear hcz25_6
          try clear hcz25_7
          try clear hcz5_0
          try clear hcz5_1
          try clear hcz5_2
          try clear hcz5_3
          try clear hcz5_4
          try clear hcz5_5
          try clear hcz5_6
          try clear hcz5_7
          try clear hcz8_0
          try clear hcz8_1
          try clear hcz8_2
          try clear hcz8_3
          try clear hcz8_4
          try clear hcz8_5
          try clear hcz8_6
          try clear hcz8_7
          try clear hfz13_0
          try clear hfz13_1
          try clear hfz13_2
          try clear hfz13_3
          try clear hfz13_4
          try clear hfz13_5
          try clear hfz13_6
          try clear hfz13_7
          try clear hfz16_0
          try clear hfz16_1
          try clear hfz16_2
          try clear hfz16_3
          try clear hfz16_4
          try clear hfz16_5
          try clear hfz16_6
          try clear hfz16_7
          try clear hfz19_0
          try clear hfz19_1
          try clear hfz19_2
          try clear hfz19_3
          try clear hfz19_4
          try clear hfz19_5
          try clear hfz19_6
          try clear hfz19_7
          try clear hfz22_0
          try clear hfz22_1
          try clear hfz22_2
          try clear hfz22_3
          try clear hfz22_4
          try clear hfz22_5
          try clear hfz22_6
          try clear hfz22_7
          try clear hfz25_0
          try clear hfz25_1
          try clear hfz25_2
          try clear hfz25_3
          try clear hfz25_4
          try clear hfz25_5
          try clear hfz25_6
          try clear hfz25_7
          try clear hfz5_0
          try clear hfz5_1
          try clear hfz5_2
          try clear hfz5_3
          try clear hfz5_4
          try clear hfz5_5
          try clear hfz5_6
          try clear hfz5_7
          try clear hfz8_0
          try clear hfz8_1
          try clear hfz8_2
          try clear hfz8_3
          try clear hfz8_4
          try clear hfz8_5
          try clear hfz8_6
          try clear hfz8_7
          try clear hx285_0
          try clear p2
          try clear p285
          try clear p6
          try clear q2
          try clear q285
          obtain ⟨kq, x3_20, HA, HJ20, HO_3, BK278, HB⟩ := hcut
          cases kq with
          | zero => exact absurd HA.out (by simp [isoglossref06_Subtags.j3])
          | succ kj20 =>
           have H := HA.out
           clear HA
           simp only [isoglossref06_Subtags.j3] at H
           have H' := Aside0.mk H
           clear H
           go_wp2
           go_loopg [3, 5] kj20 (fun kq v3 v5 w' => ∃ (x3_5 : List ByteArray) (x5_5 : Int), v5 = .int .i64 x5_5 ∧ Aside0 (isoglossref06_Subtags.l1 kq x3_5 x5_5 a0_0 l0_1 a0_2 a0_3 l0_4 l0_5 l0_6 a0_7 = some r) ∧ Aside0 (kq ≤ kj20) ∧ Aside0 (Kd.R Kd.string 9 w' w.heap.size (fun _ => True) v3 x3_5) ∧ Aside0 (w'.heap[gb278]? = some (.cells #[.string a0_0, (.slice A0_1 l0_1.length c0_1), .string a0_2, .string a0_3, (.slice A0_4 l0_4.length c0_4), (.slice A0_5 l0_5.length c0_5), (.slice A0_6 l0_6.length c0_6), .string a0_7] 34 (0, 0))) ∧ Aside0 (Below w.heap.size w w'))
           case atStart => exact ⟨(x3_20), (0), (by first | rfl | (simp; done) | (simp [*]; done)), H', ⟨Nat.le_refl _⟩, ⟨by (with_reducible repeat (first | apply Kd.R_alloc | apply Kd.R_drewN | apply Kd.R_drew)); exact HO_3.out⟩, ⟨by (with_reducible repeat (first | refine blk_drewN ?_ _ | refine blk_drew ?_ | refine blk_alloc ?_ _)); exact BK278.out⟩, ⟨by repeat (first | (with_reducible first | exact HB.out | apply below_alloc | apply pw_below_drewN | apply below_drew1 | refine below_set ?_ GE278.out) | exact HB.out)⟩⟩
           case round =>
            clear H'
            try clear c1
            try clear c2
            try clear c2b0
            try clear c2b1
            try clear p2
            try clear q2
            try clear hx2
            try clear c6
            try clear c6b0
            try clear c6b1
            try clear p6
            try clear c7
            try clear c10
            try clear c10b0
            try clear c11
            try clear c11b0
            try clear c12
            try clear c17
            try clear c17b0
            try clear c17b1
            try clear c18
            try clear c22
            try clear c23
            try clear c23b0
            try clear c23b1
            try clear c24
            try clear hcz13_0
            try clear hcz13_1
            try clear hcz13_2
            try clear hcz13_3
            try clear hcz13_4
            try clear hcz13_5
            try clear hcz13_6
            try clear hcz13_7
            try clear hcz16_0
            try clear hcz16_1
            try clear hcz16_2
            try clear hcz16_3
            try clear hcz16_4
            try clear hcz16_5
            try clear hcz16_6
            try clear hcz16_7
            try clear hcz19_0
            try clear hcz19_1
            try clear hcz19_2
            try clear hcz19_3
            try clear hcz19_4
            try clear hcz19_5
            try clear hcz19_6
            try clear hcz19_7
            try clear hcz22_0
            try clear hcz22_1
            try clear hcz22_2
            try clear hcz22_3
            try clear hcz22_4
            try clear hcz22_5
            try clear hcz22_6
            try clear hcz22_7
            try clear hcz25_0
            try clear hcz25_1
            try clear hcz25_2
            try clear hcz25_3
            try clear hcz25_4
            try clear hcz25_5
            try clear hcz25_6
            try clear hcz25_7
            try clear hcz5_0
            try clear hcz5_1
            try clear hcz5_2
            try clear hcz5_3
            try clear hcz5_4
            try clear hcz5_5
            try clear hcz5_6
            try clear hcz5_7
            try clear hcz8_0
            try clear hcz8_1
            try clear hcz8_2
            try clear hcz8_3
            try clear hcz8_4
            try clear hcz8_5
            try clear hcz8_6
            try clear hcz8_7
            try clear hfz13_0
            try clear hfz13_1
            try clear hfz13_2
            try clear hfz13_3
            try clear hfz13_4
            try clear hfz13_5
            try clear hfz13_6
            try clear hfz13_7
            try clear hfz16_0
            try clear hfz16_1
            try clear hfz16_2
            try clear hfz16_3
            try clear hfz16_4
            try clear hfz16_5
            try clear hfz16_6
            try clear hfz16_7
            try clear hfz19_0
            try clear hfz19_1
            try clear hfz19_2
            try clear hfz19_3
            try clear hfz19_4
            try clear hfz19_5
            try clear hfz19_6
            try clear hfz19_7
            try clear hfz22_0
            try clear hfz22_1
            try clear hfz22_2
            try clear hfz22_3
            try clear hfz22_4
            try clear hfz22_5
            try clear hfz22_6
            try clear hfz22_7
            try clear hfz25_0
            try clear hfz25_1
            try clear hfz25_2
            try clear hfz25_3
            try clear hfz25_4
            try clear hfz25_5
            try clear hfz25_6
            try clear hfz25_7
            try clear hfz5_0
            try clear hfz5_1
            try clear hfz5_2
            try clear hfz5_3
            try clear hfz5_4
            try clear hfz5_5
            try clear hfz5_6
            try clear hfz5_7
            try clear hfz8_0
            try clear hfz8_1
            try clear hfz8_2
            try clear hfz8_3
            try clear hfz8_4
            try clear hfz8_5
            try clear hfz8_6
            try clear hfz8_7
            try clear hx285_0
            try clear p2
            try clear p285
            try clear p6
            try clear q2
            try clear q285
            obtain ⟨x3_5, x5_5, rfl, HA, HK5, HO_3, BK278, HB⟩ := hrel
            cases gk with
            | zero => exact absurd HA.out (by simp [isoglossref06_Subtags.l1])
            | succ k5 =>
             have H := HA.out
             clear HA
             simp only [isoglossref06_Subtags.l1] at H
             by_cases c27 : x5_5 < (l0_4.length : Int)
             ·rw [if_pos c27] at H
              have c27b0 : decide (x5_5 < (l0_4.length : Int)) = true := decide_eq_true c27
              clear c27
              by_cases c28 : 0 ≤ x5_5
              ·rw [if_pos c28] at H
               have c28b0 : decide (0 ≤ x5_5) = true := decide_eq_true c28
               clear c28
               by_cases c29 : x3_5.length < 8796093022208
               ·rw [if_pos c29] at H
                have LMc29 := Aside0.mk c29
                clear c29
                obtain ⟨y296, hy296⟩ : ∃ y_ : List ByteArray, y_ = (x3_5 ++ [rdOf ByteArray.empty l0_4 x5_5]) := ⟨_, rfl⟩
                replace H : (isoglossref06_Subtags.l1 k5 y296 (wrap64 (x5_5 + 1)) a0_0 l0_1 a0_2 a0_3 l0_4 l0_5 l0_6 a0_7) = some r := by first | (rw [hy296]; with_reducible exact H) | (have H2_ := (Option.bind_some _ _).symm.trans H; rw [hy296]; with_reducible exact H2_) | (have H2_ := (Option.bind_some _ _).symm.trans H; with_reducible exact H2_) | with_reducible exact H | (rw [hy296]; exact H) | exact H
                have Ny296 := Aside0.mk hy296
                clear hy296
                have H' := Aside0.mk H
                clear H
                have hcz30_0 : wr.cell? ⟨gb278, 0, none⟩ = some (.string a0_0) := (blk_cell BK278.out 0).trans rfl
                have hcz30_1 : wr.cell? ⟨gb278, 1, none⟩ = some (.slice A0_1 l0_1.length c0_1) := (blk_cell BK278.out 1).trans rfl
                have hcz30_2 : wr.cell? ⟨gb278, 2, none⟩ = some (.string a0_2) := (blk_cell BK278.out 2).trans rfl
                have hcz30_3 : wr.cell? ⟨gb278, 3, none⟩ = some (.string a0_3) := (blk_cell BK278.out 3).trans rfl
                have hcz30_4 : wr.cell? ⟨gb278, 4, none⟩ = some (.slice A0_4 l0_4.length c0_4) := (blk_cell BK278.out 4).trans rfl
                have hcz30_5 : wr.cell? ⟨gb278, 5, none⟩ = some (.slice A0_5 l0_5.length c0_5) := (blk_cell BK278.out 5).trans rfl
                have hcz30_6 : wr.cell? ⟨gb278, 6, none⟩ = some (.slice A0_6 l0_6.length c0_6) := (blk_cell BK278.out 6).trans rfl
                have hcz30_7 : wr.cell? ⟨gb278, 7, none⟩ = some (.string a0_7) := (blk_cell BK278.out 7).trans rfl
                have hfz30_0 := blk_frozen BK278.out 0
                have hfz30_1 := blk_frozen BK278.out 1
                have hfz30_2 := blk_frozen BK278.out 2
                have hfz30_3 := blk_frozen BK278.out 3
                have hfz30_4 := blk_frozen BK278.out 4
                have hfz30_5 := blk_frozen BK278.out 5
                have hfz30_6 := blk_frozen BK278.out 6
                have hfz30_7 := blk_frozen BK278.out 7
                have p295 : 0 ≤ (x5_5 : Int) := of_decide_eq_true (by first | (with_reducible assumption) | assumption)
                have q295 : x5_5 < (l0_4.length : Int) := of_decide_eq_true (by first | (with_reducible assumption) | assumption)
                obtain ⟨ad295, e295, hx295_0⟩ := Kd.at_string HR0_4.out x5_5 p295 q295
                cases e295
                replace hx295_0 := (HB.out.cell (World.block_lt_of_cell? w _ hx295_0)).trans hx295_0
                replace p295 := eq_true p295
                replace q295 := eq_true q295
                go_wp2_with (first | ((with_reducible refine gate_builtin (b := .append) (xs := #[.tmp 61, .tmp 67]) rfl ?_); at_builtin; refine Kd.R_append Kd.string (w0 := w) w.heap.size rfl (.tmp 61) (.tmp 67) 25 9 (.string ⟨#[]⟩) 16 rfl Try.underlying25 info9 rfl (by decide) (by omega) u3 x3_5 (rdOf ByteArray.empty l0_4 x5_5) [.string (rdOf ByteArray.empty l0_4 x5_5)] (fun _ => True) (fun _ => False) rfl rfl ?aP (fun _ hk => hk.elim) ?aF ?aO ?aB ?aS ?aL ?_; (case aP => exact rfl); (case aB => exact (by repeat (first | (with_reducible first | exact HB.out | apply below_alloc | apply pw_below_drewN | apply below_drew1 | refine below_set ?_ GE278.out) | exact HB.out))); (case aF => exact (fun _ _ => trivial)); (case aO => exact (by (with_reducible repeat (first | apply Kd.R_alloc | apply Kd.R_drewN | apply Kd.R_drew)); exact HO_3.out)); (case aS => exact (below_size (by repeat (first | (with_reducible first | exact HB.out | apply below_alloc | apply pw_below_drewN | apply below_drew1 | refine below_set ?_ GE278.out) | exact HB.out)))); (case aL => have := LMc29.out; omega); intro v297 w31 ho hb hg hat; rw [← Ny296.out] at ho; have n0_ := Aside0.mk (blk_grown (g := gb278) (o := .cells #[.string a0_0, .slice A0_1 l0_1.length c0_1, .string a0_2, .string a0_3, .slice (some ad295) l0_4.length c0_4, .slice A0_5 l0_5.length c0_5, .slice A0_6 l0_6.length c0_6, .string a0_7] 34 (0, 0)) (by (with_reducible repeat (first | refine blk_drewN ?_ _ | refine blk_drew ?_ | refine blk_alloc ?_ _)); exact BK278.out) hg (Kd.R_ne HO_3.out BK278.out (by decide))); have n1_ := Aside0.mk (hb); have n2_ := Aside0.mk (ho); clear BK278; clear HB; clear HO_3; have BK278 := n0_; have HB := n1_; have HO298 := n2_; clear n0_ n1_ n2_; clear ho hb hg hat))
                go_roundg k5
                case measure => have := HJ2.out; have := HK2.out; have := HJ14.out; have := HJ20.out; have := HK5.out; omega
                case rel => exact ⟨(y296), (wrap64 (x5_5 + 1)), (by first | rfl | (simp; done) | (simp [*]; done)), H', ⟨by have := HJ2.out; have := HK2.out; have := HJ14.out; have := HJ20.out; have := HK5.out; omega⟩, ⟨by (with_reducible repeat (first | apply Kd.R_alloc | apply Kd.R_drewN | apply Kd.R_drew)); exact HO298.out⟩, ⟨by (with_reducible repeat (first | refine blk_drewN ?_ _ | refine blk_drew ?_ | refine blk_alloc ?_ _)); exact BK278.out⟩, ⟨by repeat (first | (with_reducible first | exact HB.out | apply below_alloc | apply pw_below_drewN | apply below_drew1 | refine below_set ?_ GE278.out) | exact HB.out)⟩⟩
               ·rw [if_neg c29] at H
                exact absurd H (by simp)
              ·rw [if_neg c28] at H
               exact absurd H (by simp)
             ·rw [if_neg c27] at H
              have c27b0 : decide (x5_5 < (l0_4.length : Int)) = false := decide_eq_false c27
              clear c27
              have H' := Aside0.mk H
              clear H
              have hcz32_0 : wr.cell? ⟨gb278, 0, none⟩ = some (.string a0_0) := (blk_cell BK278.out 0).trans rfl
              have hcz32_1 : wr.cell? ⟨gb278, 1, none⟩ = some (.slice A0_1 l0_1.length c0_1) := (blk_cell BK278.out 1).trans rfl
              have hcz32_2 : wr.cell? ⟨gb278, 2, none⟩ = some (.string a0_2) := (blk_cell BK278.out 2).trans rfl
              have hcz32_3 : wr.cell? ⟨gb278, 3, none⟩ = some (.string a0_3) := (blk_cell BK278.out 3).trans rfl
              have hcz32_4 : wr.cell? ⟨gb278, 4, none⟩ = some (.slice A0_4 l0_4.length c0_4) := (blk_cell BK278.out 4).trans rfl
              have hcz32_5 : wr.cell? ⟨gb278, 5, none⟩ = some (.slice A0_5 l0_5.length c0_5) := (blk_cell BK278.out 5).trans rfl
              have hcz32_6 : wr.cell? ⟨gb278, 6, none⟩ = some (.slice A0_6 l0_6.length c0_6) := (blk_cell BK278.out 6).trans rfl
              have hcz32_7 : wr.cell? ⟨gb278, 7, none⟩ = some (.string a0_7) := (blk_cell BK278.out 7).trans rfl
              have hfz32_0 := blk_frozen BK278.out 0
              have hfz32_1 := blk_frozen BK278.out 1
              have hfz32_2 := blk_frozen BK278.out 2
              have hfz32_3 := blk_frozen BK278.out 3
              have hfz32_4 := blk_frozen BK278.out 4
              have hfz32_5 := blk_frozen BK278.out 5
              have hfz32_6 := blk_frozen BK278.out 6
              have hfz32_7 := blk_frozen BK278.out 7
              go_wp2
              go_loopg [3, 6] k5 (fun kq v3 v6 w' => ∃ (x3_6 : List ByteArray) (x6_6 : Int), v6 = .int .i64 x6_6 ∧ Aside0 (isoglossref06_Subtags.l2 kq x3_6 x6_6 a0_0 l0_1 a0_2 a0_3 l0_4 l0_5 l0_6 a0_7 = some r) ∧ Aside0 (kq ≤ k5) ∧ Aside0 (Kd.R Kd.string 9 w' w.heap.size (fun _ => True) v3 x3_6) ∧ Aside0 (w'.heap[gb278]? = some (.cells #[.string a0_0, (.slice A0_1 l0_1.length c0_1), .string a0_2, .string a0_3, (.slice A0_4 l0_4.length c0_4), (.slice A0_5 l0_5.length c0_5), (.slice A0_6 l0_6.length c0_6), .string a0_7] 34 (0, 0))) ∧ Aside0 (Below w.heap.size w w'))
              case atStart => exact ⟨(x3_5), (0), (by first | rfl | (simp; done) | (simp [*]; done)), H', ⟨Nat.le_refl _⟩, ⟨by (with_reducible repeat (first | apply Kd.R_alloc | apply Kd.R_drewN | apply Kd.R_drew)); exact HO_3.out⟩, ⟨by (with_reducible repeat (first | refine blk_drewN ?_ _ | refine blk_drew ?_ | refine blk_alloc ?_ _)); exact BK278.out⟩, ⟨by repeat (first | (with_reducible first | exact HB.out | apply below_alloc | apply pw_below_drewN | apply below_drew1 | refine below_set ?_ GE278.out) | exact HB.out)⟩⟩
              case round =>
               clear H'
               try clear c1
               try clear c2
               try clear c2b0
               try clear c2b1
               try clear p2
               try clear q2
               try clear hx2
               try clear c6
               try clear c6b0
               try clear c6b1
               try clear p6
               try clear c7
               try clear c10
               try clear c10b0
               try clear c11
               try clear c11b0
               try clear c12
               try clear c17
               try clear c17b0
               try clear c17b1
               try clear c18
               try clear c22
               try clear c23
               try clear c23b0
               try clear c23b1
               try clear c24
               try clear c27
               try clear c27b0
               try clear c28
               try clear c28b0
               try clear p28
               try clear q28
               try clear hx28
               try clear c29
               try clear p29
               try clear q29
               try clear hx29
               try clear hcz13_0
               try clear hcz13_1
               try clear hcz13_2
               try clear hcz13_3
               try clear hcz13_4
               try clear hcz13_5
               try clear hcz13_6
               try clear hcz13_7
               try clear hcz16_0
               try clear hcz16_1
               try clear hcz16_2
               try clear hcz16_3
               try clear hcz16_4
               try clear hcz16_5
               try clear hcz16_6
               try clear hcz16_7
               try clear hcz19_0
               try clear hcz19_1
               try clear hcz19_2
               try clear hcz19_3
               try clear hcz19_4
               try clear hcz19_5
               try clear hcz19_6
               try clear hcz19_7
               try clear hcz22_0
               try clear hcz22_1
               try clear hcz22_2
               try clear hcz22_3
               try clear hcz22_4
               try clear hcz22_5
               try clear hcz22_6
               try clear hcz22_7
               try clear hcz25_0
               try clear hcz25_1
               try clear hcz25_2
               try clear hcz25_3
               try clear hcz25_4
               try clear hcz25_5
               try clear hcz25_6
               try clear hcz25_7
               try clear hcz30_0
               try clear hcz30_1
               try clear hcz30_2
               try clear hcz30_3
               try clear hcz30_4
               try clear hcz30_5
               try clear hcz30_6
               try clear hcz30_7
               try clear hcz32_0
               try clear hcz32_1
               try clear hcz32_2
               try clear hcz32_3
               try clear hcz32_4
               try clear hcz32_5
               try clear hcz32_6
               try clear hcz32_7
               try clear hcz5_0
               try clear hcz5_1
               try clear hcz5_2
               try clear hcz5_3
               try clear hcz5_4
               try clear hcz5_5
               try clear hcz5_6
               try clear hcz5_7
               try clear hcz8_0
               try clear hcz8_1
               try clear hcz8_2
               try clear hcz8_3
               try clear hcz8_4
               try clear hcz8_5
               try clear hcz8_6
               try clear hcz8_7
               try clear hfz13_0
               try clear hfz13_1
               try clear hfz13_2
               try clear hfz13_3
               try clear hfz13_4
               try clear hfz13_5
               try clear hfz13_6
               try clear hfz13_7
               try clear hfz16_0
               try clear hfz16_1
               try clear hfz16_2
               try clear hfz16_3
               try clear hfz16_4
               try clear hfz16_5
               try clear hfz16_6
               try clear hfz16_7
               try clear hfz19_0
               try clear hfz19_1
               try clear hfz19_2
               try clear hfz19_3
               try clear hfz19_4
               try clear hfz19_5
               try clear hfz19_6
               try clear hfz19_7
               try clear hfz22_0
               try clear hfz22_1
               try clear hfz22_2
               try clear hfz22_3
               try clear hfz22_4
               try clear hfz22_5
               try clear hfz22_6
               try clear hfz22_7
               try clear hfz25_0
               try clear hfz25_1
               try clear hfz25_2
               try clear hfz25_3
               try clear hfz25_4
               try clear hfz25_5
               try clear hfz25_6
               try clear hfz25_7
               try clear hfz30_0
               try clear hfz30_1
               try clear hfz30_2
               try clear hfz30_3
               try clear hfz30_4
               try clear hfz30_5
               try clear hfz30_6
               try clear hfz30_7
               try clear hfz32_0
               try clear hfz32_1
               try clear hfz32_2
               try clear hfz32_3
               try clear hfz32_4
               try clear hfz32_5
               try clear hfz32_6
               try clear hfz32_7
               try clear hfz5_0
               try clear hfz5_1
               try clear hfz5_2
               try clear hfz5_3
               try clear hfz5_4
               try clear hfz5_5
               try clear hfz5_6
               try clear hfz5_7
               try clear hfz8_0
               try clear hfz8_1
               try clear hfz8_2
               try clear hfz8_3
               try clear hfz8_4
               try clear hfz8_5
               try clear hfz8_6
               try clear hfz8_7
               try clear hx285_0
               try clear hx295_0
               try clear p2
               try clear p285
               try clear p295
               try clear p6
               try clear q2
               try clear q285
               try clear q295
               obtain ⟨x3_6, x6_6, rfl, HA, HK6, HO_3, BK278, HB⟩ := hrel
               cases gk with
               | zero => exact absurd HA.out (by simp [isoglossref06_Subtags.l2])
               | succ k6 =>
                have H := HA.out
                clear HA
                simp only [isoglossref06_Subtags.l2] at H
                by_cases c33 : x6_6 < (l0_5.length : Int)
                ·rw [if_pos c33] at H
                 have c33b0 : decide (x6_6 < (l0_5.length : Int)) = true := decide_eq_true c33
                 clear c33
                 by_cases c34 : 0 ≤ x6_6
                 ·rw [if_pos c34] at H
                  have c34b0 : decide (0 ≤ x6_6) = true := decide_eq_true c34
                  clear c34
                  by_cases c35 : x3_6.length < 8796093022208
                  ·rw [if_pos c35] at H
                   have LMc35 := Aside0.mk c35
                   clear c35
                   obtain ⟨y300, hy300⟩ : ∃ y_ : List ByteArray, y_ = (x3_6 ++ [(rd_T62 l0_5 x6_6).f0]) := ⟨_, rfl⟩
                   replace H : (isoglossref06_Subtags.l3 k6 y300 x6_6 0 a0_0 l0_1 a0_2 a0_3 l0_4 l0_5 l0_6 a0_7) = some r := by first | (rw [hy300]; with_reducible exact H) | (have H2_ := (Option.bind_some _ _).symm.trans H; rw [hy300]; with_reducible exact H2_) | (have H2_ := (Option.bind_some _ _).symm.trans H; with_reducible exact H2_) | with_reducible exact H | (rw [hy300]; exact H) | exact H
                   have Ny300 := Aside0.mk hy300
                   clear hy300
                   have H' := Aside0.mk H
                   clear H
                   have hcz36_0 : wr.cell? ⟨gb278, 0, none⟩ = some (.string a0_0) := (blk_cell BK278.out 0).trans rfl
                   have hcz36_1 : wr.cell? ⟨gb278, 1, none⟩ = some (.slice A0_1 l0_1.length c0_1) := (blk_cell BK278.out 1).trans rfl
                   have hcz36_2 : wr.cell? ⟨gb278, 2, none⟩ = some (.string a0_2) := (blk_cell BK278.out 2).trans rfl
                   have hcz36_3 : wr.cell? ⟨gb278, 3, none⟩ = some (.string a0_3) := (blk_cell BK278.out 3).trans rfl
                   have hcz36_4 : wr.cell? ⟨gb278, 4, none⟩ = some (.slice A0_4 l0_4.length c0_4) := (blk_cell BK278.out 4).trans rfl
                   have hcz36_5 : wr.cell? ⟨gb278, 5, none⟩ = some (.slice A0_5 l0_5.length c0_5) := (blk_cell BK278.out 5).trans rfl
                   have hcz36_6 : wr.cell? ⟨gb278, 6, none⟩ = some (.slice A0_6 l0_6.length c0_6) := (blk_cell BK278.out 6).trans rfl
                   have hcz36_7 : wr.cell? ⟨gb278, 7, none⟩ = some (.string a0_7) := (blk_cell BK278.out 7).trans rfl
                   have hfz36_0 := blk_frozen BK278.out 0
                   have hfz36_1 := blk_frozen BK278.out 1
                   have hfz36_2 := blk_frozen BK278.out 2
                   have hfz36_3 := blk_frozen BK278.out 3
                   have hfz36_4 := blk_frozen BK278.out 4
                   have hfz36_5 := blk_frozen BK278.out 5
                   have hfz36_6 := blk_frozen BK278.out 6
                   have hfz36_7 := blk_frozen BK278.out 7
                   have p299 : 0 ≤ (x6_6 : Int) := of_decide_eq_true (by first | (with_reducible assumption) | assumption)
                   have q299 : x6_6 < (l0_5.length : Int) := of_decide_eq_true (by first | (with_reducible assumption) | assumption)
                   obtain ⟨ad299, A299_1, c299_1, e299, hx299_0, hx299_1, hl299_1, hi299_1⟩ := at_T62 HR0_5.out x6_6 p299 q299
                   cases e299
                   replace hx299_0 := (HB.out.cell (World.block_lt_of_cell? w _ hx299_0)).trans hx299_0
                   replace hx299_1 := (HB.out.cell (World.block_lt_of_cell? w _ hx299_1)).trans hx299_1
                   have HR299_1 := Aside0.mk hi299_1
                   have HC299_1 := Aside0.mk hl299_1
                   clear hi299_1 hl299_1
                   replace p299 := eq_true p299
                   replace q299 := eq_true q299
                   go_wp2_with (first | ((with_reducible refine gate_builtin (b := .append) (xs := #[.tmp 76, .tmp 83]) rfl ?_); at_builtin; refine Kd.R_append Kd.string (w0 := w) w.heap.size rfl (.tmp 76) (.tmp 83) 25 9 (.string ⟨#[]⟩) 16 rfl Try.underlying25 info9 rfl (by decide) (by omega) u3 x3_6 ((rd_T62 l0_5 x6_6).f0) [.string ((rd_T62 l0_5 x6_6).f0)] (fun _ => True) (fun _ => False) rfl rfl ?aP (fun _ hk => hk.elim) ?aF ?aO ?aB ?aS ?aL ?_; (case aP => exact rfl); (case aB => exact (by repeat (first | (with_reducible first | exact HB.out | apply below_alloc | apply pw_below_drewN | apply below_drew1 | refine below_set ?_ GE278.out) | exact HB.out))); (case aF => exact (fun _ _ => trivial)); (case aO => exact (by (with_reducible repeat (first | apply Kd.R_alloc | apply Kd.R_drewN | apply Kd.R_drew)); exact HO_3.out)); (case aS => exact (below_size (by repeat (first | (with_reducible first | exact HB.out | apply below_alloc | apply pw_below_drewN | apply below_drew1 | refine below_set ?_ GE278.out) | exact HB.out)))); (case aL => have := LMc35.out; omega); intro v301 w37 ho hb hg hat; rw [← Ny300.out] at ho; have n0_ := Aside0.mk (blk_grown (g := gb278) (o := .cells #[.string a0_0, .slice A0_1 l0_1.length c0_1, .string a0_2, .string a0_3, .slice A0_4 l0_4.length c0_4, .slice (some ad299) l0_5.length c0_5, .slice A0_6 l0_6.length c0_6, .string a0_7] 34 (0, 0)) (by (with_reducible repeat (first | refine blk_drewN ?_ _ | refine blk_drew ?_ | refine blk_alloc ?_ _)); exact BK278.out) hg (Kd.R_ne HO_3.out BK278.out (by decide))); have n1_ := Aside0.mk (hb); have n2_ := Aside0.mk (ho); clear BK278; clear HB; clear HO_3; have BK278 := n0_; have HB := n1_; have HO302 := n2_; clear n0_ n1_ n2_; clear ho hb hg hat))
                   go_loopg [3, 7] k6 (fun kq v3 v7 w' => ∃ (x3_7 : List ByteArray) (x7_7 : Int), v7 = .int .i64 x7_7 ∧ Aside0 (isoglossref06_Subtags.l3 kq x3_7 x6_6 x7_7 a0_0 l0_1 a0_2 a0_3 l0_4 l0_5 l0_6 a0_7 = some r) ∧ Aside0 (kq ≤ k6) ∧ Aside0 (Kd.R Kd.string 9 w' w.heap.size (fun _ => True) v3 x3_7) ∧ Aside0 (w'.heap[gb278]? = some (.cells #[.string a0_0, (.slice A0_1 l0_1.length c0_1), .string a0_2, .string a0_3, (.slice A0_4 l0_4.length c0_4), (.slice (some ad299) l0_5.length c0_5), (.slice A0_6 l0_6.length c0_6), .string a0_7] 34 (0, 0))) ∧ Aside0 (Below w.heap.size w w'))
                   case atStart => exact ⟨(y300), (0), (by first | rfl | (simp; done) | (simp [*]; done)), H', ⟨Nat.le_refl _⟩, ⟨by (with_reducible repeat (first | apply Kd.R_alloc | apply Kd.R_drewN | apply Kd.R_drew)); exact HO302.out⟩, ⟨by (with_reducible repeat (first | refine blk_drewN ?_ _ | refine blk_drew ?_ | refine blk_alloc ?_ _)); exact BK278.out⟩, ⟨by repeat (first | (with_reducible first | exact HB.out | apply below_alloc | apply pw_below_drewN | apply below_drew1 | refine below_set ?_ GE278.out) | exact HB.out)⟩⟩
                   case round =>
                    clear H'
                    try clear c1
                    try clear c2
                    try clear c2b0
                    try clear c2b1
                    try clear p2
                    try clear q2
                    try clear hx2
                    try clear c3
                    try clear c6
                    try clear c6b0
                    try clear c6b1
                    try clear p6
                    try clear c7
                    try clear c10
                    try clear c10b0
                    try clear c11
                    try clear c11b0
                    try clear c12
                    try clear c17
                    try clear c17b0
                    try clear c17b1
                    try clear c18
                    try clear c22
                    try clear c23
                    try clear c23b0
                    try clear c23b1
                    try clear c24
                    try clear c27
                    try clear c27b0
                    try clear c28
                    try clear c28b0
                    try clear p28
                    try clear q28
                    try clear hx28
                    try clear c29
                    try clear p29
                    try clear q29
                    try clear hx29
                    try clear c33
                    try clear c33b0
                    try clear c34
                    try clear c34b0
                    try clear c35
                    try clear hcz13_0
                    try clear hcz13_1
                    try clear hcz13_2
                    try clear hcz13_3
                    try clear hcz13_4
                    try clear hcz13_5
                    try clear hcz13_6
                    try clear hcz13_7
                    try clear hcz16_0
                    try clear hcz16_1
                    try clear hcz16_2
                    try clear hcz16_3
                    try clear hcz16_4
                    try clear hcz16_5
                    try clear hcz16_6
                    try clear hcz16_7
                    try clear hcz19_0
                    try clear hcz19_1
                    try clear hcz19_2
                    try clear hcz19_3
                    try clear hcz19_4
                    try clear hcz19_5
                    try clear hcz19_6
                    try clear hcz19_7
                    try clear hcz22_0
                    try clear hcz22_1
                    try clear hcz22_2
                    try clear hcz22_3
                    try clear hcz22_4
                    try clear hcz22_5
                    try clear hcz22_6
                    try clear hcz22_7
                    try clear hcz25_0
                    try clear hcz25_1
                    try clear hcz25_2
                    try clear hcz25_3
                    try clear hcz25_4
                    try clear hcz25_5
                    try clear hcz25_6
                    try clear hcz25_7
                    try clear hcz30_0
                    try clear hcz30_1
                    try clear hcz30_2
                    try clear hcz30_3
                    try clear hcz30_4
                    try clear hcz30_5
                    try clear hcz30_6
                    try clear hcz30_7
                    try clear hcz32_0
                    try clear hcz32_1
                    try clear hcz32_2
                    try clear hcz32_3
                    try clear hcz32_4
                    try clear hcz32_5
                    try clear hcz32_6
                    try clear hcz32_7
                    try clear hcz36_0
                    try clear hcz36_1
                    try clear hcz36_2
                    try clear hcz36_3
                    try clear hcz36_4
                    try clear hcz36_5
                    try clear hcz36_6
                    try clear hcz36_7
                    try clear hcz5_0
                    try clear hcz5_1
                    try clear hcz5_2
                    try clear hcz5_3
                    try clear hcz5_4
                    try clear hcz5_5
                    try clear hcz5_6
                    try clear hcz5_7
                    try clear hcz8_0
                    try clear hcz8_1
                    try clear hcz8_2
                    try clear hcz8_3
                    try clear hcz8_4
                    try clear hcz8_5
                    try clear hcz8_6
                    try clear hcz8_7
                    try clear hfz13_0
                    try clear hfz13_1
                    try clear hfz13_2
                    try clear hfz13_3
                    try clear hfz13_4
                    try clear hfz13_5
                    try clear hfz13_6
                    try clear hfz13_7
                    try clear hfz16_0
                    try clear hfz16_1
                    try clear hfz16_2
                    try clear hfz16_3
                    try clear hfz16_4
                    try clear hfz16_5
                    try clear hfz16_6
                    try clear hfz16_7
                    try clear hfz19_0
                    try clear hfz19_1
                    try clear hfz19_2
                    try clear hfz19_3
                    try clear hfz19_4
                    try clear hfz19_5
                    try clear hfz19_6
                    try clear hfz19_7
                    try clear hfz22_0
                    try clear hfz22_1
                    try clear hfz22_2
                    try clear hfz22_3
                    try clear hfz22_4
                    try clear hfz22_5
                    try clear hfz22_6
                    try clear hfz22_7
                    try clear hfz25_0
                    try clear hfz25_1
                    try clear hfz25_2
                    try clear hfz25_3
                    try clear hfz25_4
                    try clear hfz25_5
                    try clear hfz25_6
                    try clear hfz25_7
                    try clear hfz30_0
                    try clear hfz30_1
                    try clear hfz30_2
                    try clear hfz30_3
                    try clear hfz30_4
                    try clear hfz30_5
                    try clear hfz30_6
                    try clear hfz30_7
                    try clear hfz32_0
                    try clear hfz32_1
                    try clear hfz32_2
                    try clear hfz32_3
                    try clear hfz32_4
                    try clear hfz32_5
                    try clear hfz32_6
                    try clear hfz32_7
                    try clear hfz36_0
                    try clear hfz36_1
                    try clear hfz36_2
                    try clear hfz36_3
                    try clear hfz36_4
                    try clear hfz36_5
                    try clear hfz36_6
                    try clear hfz36_7
                    try clear hfz5_0
                    try clear hfz5_1
                    try clear hfz5_2
                    try clear hfz5_3
                    try clear hfz5_4
                    try clear hfz5_5
                    try clear hfz5_6
                    try clear hfz5_7
                    try clear hfz8_0
                    try clear hfz8_1
                    try clear hfz8_2
                    try clear hfz8_3
                    try clear hfz8_4
                    try clear hfz8_5
                    try clear hfz8_6
                    try clear hfz8_7
                    try clear hx285_0
                    try clear hx295_0
                    try clear hx299_0
                    try clear hx299_1
                    try clear p2
                    try clear p28
                    try clear p285
                    try clear p29
                    try clear p295
                    try clear p299
                    try clear p6
                    try clear q2
                    try clear q28
                    try clear q285
                    try clear q29
                    try clear q295
                    try clear q299
                    obtain ⟨x3_7, x7_7, rfl, HA, HK7, HO_3, BK278, HB⟩ := hrel
                    cases gk with
                    | zero => exact absurd HA.out (by simp [isoglossref06_Subtags.l3])
                    | succ k7 =>
                     have H := HA.out
                     clear HA
                     simp only [isoglossref06_Subtags.l3] at H
                     by_cases c38 : 0 ≤ x6_6
                     ·rw [if_pos c38] at H
                      have c38b0 : decide (0 ≤ x6_6) = true := decide_eq_true c38
                      clear c38
                      by_cases c39 : x6_6 < (l0_5.length : Int)
                      ·rw [if_pos c39] at H
                       have c39b0 : decide (x6_6 < (l0_5.length : Int)) = true := decide_eq_true c39
                       clear c39
                       by_cases c40 : x7_7 < (((rd_T62 l0_5 x6_6).f1).length : Int)
                       ·rw [if_pos c40] at H
                        have c40b0 : decide (x7_7 < (((rd_T62 l0_5 x6_6).f1).length : Int)) = true := decide_eq_true c40
                        clear c40
                        by_cases c41 : 0 ≤ x7_7
                        ·rw [if_pos c41] at H
                         have c41b0 : decide (0 ≤ x7_7) = true := decide_eq_true c41
                         clear c41
                         by_cases c42 : x3_7.length < 8796093022208
                         ·rw [if_pos c42] at H
                          have LMc42 := Aside0.mk c42
                          clear c42
                          obtain ⟨y306, hy306⟩ : ∃ y_ : List ByteArray, y_ = (x3_7 ++ [rdOf ByteArray.empty ((rd_T62 l0_5 x6_6).f1) x7_7]) := ⟨_, rfl⟩
                          replace H : (isoglossref06_Subtags.l3 k7 y306 x6_6 (wrap64 (x7_7 + 1)) a0_0 l0_1 a0_2 a0_3 l0_4 l0_5 l0_6 a0_7) = some r := by first | (rw [hy306]; with_reducible exact H) | (have H2_ := (Option.bind_some _ _).symm.trans H; rw [hy306]; with_reducible exact H2_) | (have H2_ := (Option.bind_some _ _).symm.trans H; with_reducible exact H2_) | with_reducible exact H | (rw [hy306]; exact H) | exact H
                          have Ny306 := Aside0.mk hy306
                          clear hy306
                          have H' := Aside0.mk H
                          clear H
                          have hcz43_0 : wr.cell? ⟨gb278, 0, none⟩ = some (.string a0_0) := (blk_cell BK278.out 0).trans rfl
                          have hcz43_1 : wr.cell? ⟨gb278, 1, none⟩ = some (.slice A0_1 l0_1.length c0_1) := (blk_cell BK278.out 1).trans rfl
                          have hcz43_2 : wr.cell? ⟨gb278, 2, none⟩ = some (.string a0_2) := (blk_cell BK278.out 2).trans rfl
                          have hcz43_3 : wr.cell? ⟨gb278, 3, none⟩ = some (.string a0_3) := (blk_cell BK278.out 3).trans rfl
                          have hcz43_4 : wr.cell? ⟨gb278, 4, none⟩ = some (.slice A0_4 l0_4.length c0_4) := (blk_cell BK278.out 4).trans rfl
                          have hcz43_5 : wr.cell? ⟨gb278, 5, none⟩ = some (.slice (some ad299) l0_5.length c0_5) := (blk_cell BK278.out 5).trans rfl
                          have hcz43_6 : wr.cell? ⟨gb278, 6, none⟩ = some (.slice A0_6 l0_6.length c0_6) := (blk_cell BK278.out 6).trans rfl
                          have hcz43_7 : wr.cell? ⟨gb278, 7, none⟩ = some (.string a0_7) := (blk_cell BK278.out 7).trans rfl
                          have hfz43_0 := blk_frozen BK278.out 0
                          have hfz43_1 := blk_frozen BK278.out 1
                          have hfz43_2 := blk_frozen BK278.out 2
                          have hfz43_3 := blk_frozen BK278.out 3
                          have hfz43_4 := blk_frozen BK278.out 4
                          have hfz43_5 := blk_frozen BK278.out 5
                          have hfz43_6 := blk_frozen BK278.out 6
                          have hfz43_7 := blk_frozen BK278.out 7
                          have p303 : 0 ≤ (x6_6 : Int) := of_decide_eq_true (by first | (with_reducible assumption) | assumption)
                          have q303 : x6_6 < (l0_5.length : Int) := of_decide_eq_true (by first | (with_reducible assumption) | assumption)
                          obtain ⟨ad303, A303_1, c303_1, e303, hx303_0, hx303_1, hl303_1, hi303_1⟩ := at_T62 HR0_5.out x6_6 p303 q303
                          obtain rfl : ad299 = ad303 := (by injection e303)
                          replace hx303_0 := (HB.out.cell (World.block_lt_of_cell? w _ hx303_0)).trans hx303_0
                          replace hx303_1 := (HB.out.cell (World.block_lt_of_cell? w _ hx303_1)).trans hx303_1
                          have HR303_1 := Aside0.mk hi303_1
                          have HC303_1 := Aside0.mk hl303_1
                          clear hi303_1 hl303_1
                          replace p303 := eq_true p303
                          replace q303 := eq_true q303
                          have p304 : 0 ≤ (x6_6 : Int) := of_decide_eq_true (by first | (with_reducible assumption) | assumption)
                          have q304 : x6_6 < (l0_5.length : Int) := of_decide_eq_true (by first | (with_reducible assumption) | assumption)
                          obtain ⟨ad304, A304_1, c304_1, e304, hx304_0, hx304_1, hl304_1, hi304_1⟩ := at_T62 HR0_5.out x6_6 p304 q304
                          obtain rfl : ad299 = ad304 := (by injection e304)
                          replace hx304_0 := (HB.out.cell (World.block_lt_of_cell? w _ hx304_0)).trans hx304_0
                          replace hx304_1 := (HB.out.cell (World.block_lt_of_cell? w _ hx304_1)).trans hx304_1
                          have HR304_1 := Aside0.mk hi304_1
                          have HC304_1 := Aside0.mk hl304_1
                          clear hi304_1 hl304_1
                          replace p304 := eq_true p304
                          replace q304 := eq_true q304
                          have ea_ := Option.some.inj (hx303_1.symm.trans hx304_1)
                          injection ea_ with ea_ en_ ec_
                          subst ea_
                          subst ec_
                          clear en_
                          have p305 : 0 ≤ (x7_7 : Int) := of_decide_eq_true (by first | (with_reducible assumption) | assumption)
                          have q305 : x7_7 < (((rd_T62 l0_5 x6_6).f1).length : Int) := of_decide_eq_true (by first | (with_reducible assumption) | assumption)
                          obtain ⟨ad305, e305, hx305_0⟩ := Kd.at_string HR304_1.out x7_7 p305 q305
                          cases e305
                          replace hx305_0 := (HB.out.cell (World.block_lt_of_cell? w _ hx305_0)).trans hx305_0
                          replace p305 := eq_true p305
                          replace q305 := eq_true q305
                          go_wp2_with (first | ((with_reducible refine gate_builtin (b := .append) (xs := #[.tmp 96, .tmp 106]) rfl ?_); at_builtin; refine Kd.R_append Kd.string (w0 := w) w.heap.size rfl (.tmp 96) (.tmp 106) 25 9 (.string ⟨#[]⟩) 16 rfl Try.underlying25 info9 rfl (by decide) (by omega) u3 x3_7 (rdOf ByteArray.empty ((rd_T62 l0_5 x6_6).f1) x7_7) [.string (rdOf ByteArray.empty ((rd_T62 l0_5 x6_6).f1) x7_7)] (fun _ => True) (fun _ => False) rfl rfl ?aP (fun _ hk => hk.elim) ?aF ?aO ?aB ?aS ?aL ?_; (case aP => exact rfl); (case aB => exact (by repeat (first | (with_reducible first | exact HB.out | apply below_alloc | apply pw_below_drewN | apply below_drew1 | refine below_set ?_ GE278.out) | exact HB.out))); (case aF => exact (fun _ _ => trivial)); (case aO => exact (by (with_reducible repeat (first | apply Kd.R_alloc | apply Kd.R_drewN | apply Kd.R_drew)); exact HO_3.out)); (case aS => exact (below_size (by repeat (first | (with_reducible first | exact HB.out | apply below_alloc | apply pw_below_drewN | apply below_drew1 | refine below_set ?_ GE278.out) | exact HB.out)))); (case aL => have := LMc42.out; omega); intro v307 w44 ho hb hg hat; rw [← Ny306.out] at ho; have n0_ := Aside0.mk (blk_grown (g := gb278) (o := .cells #[.string a0_0, .slice A0_1 l0_1.length c0_1, .string a0_2, .string a0_3, .slice A0_4 l0_4.length c0_4, .slice (some ad299) l0_5.length c0_5, .slice A0_6 l0_6.length c0_6, .string a0_7] 34 (0, 0)) (by (with_reducible repeat (first | refine blk_drewN ?_ _ | refine blk_drew ?_ | refine blk_alloc ?_ _)); exact BK278.out) hg (Kd.R_ne HO_3.out BK278.out (by decide))); have n1_ := Aside0.mk (hb); have n2_ := Aside0.mk (ho); clear BK278; clear HB; clear HO_3; have BK278 := n0_; have HB := n1_; have HO308 := n2_; clear n0_ n1_ n2_; clear ho hb hg hat))
                          go_roundg k7
                          case measure => have := HJ2.out; have := HK2.out; have := HJ14.out; have := HJ20.out; have := HK5.out; have := HK6.out; have := HK7.out; omega
                          case rel => exact ⟨(y306), (wrap64 (x7_7 + 1)), (by first | rfl | (simp; done) | (simp [*]; done)), H', ⟨by have := HJ2.out; have := HK2.out; have := HJ14.out; have := HJ20.out; have := HK5.out; have := HK6.out; have := HK7.out; omega⟩, ⟨by (with_reducible repeat (first | apply Kd.R_alloc | apply Kd.R_drewN | apply Kd.R_drew)); exact HO308.out⟩, ⟨by (with_reducible repeat (first | refine blk_drewN ?_ _ | refine blk_drew ?_ | refine blk_alloc ?_ _)); exact BK278.out⟩, ⟨by repeat (first | (with_reducible first | exact HB.out | apply below_alloc | apply pw_below_drewN | apply below_drew1 | refine below_set ?_ GE278.out) | exact HB.out)⟩⟩
                         ·rw [if_neg c42] at H
                          exact absurd H (by simp)
                        ·rw [if_neg c41] at H
                         exact absurd H (by simp)
                       ·rw [if_neg c40] at H
                        have c40b0 : decide (x7_7 < (((rd_T62 l0_5 x6_6).f1).length : Int)) = false := decide_eq_false c40
                        clear c40
                        have H' := Aside0.mk H
                        clear H
                        have hcz45_0 : wr.cell? ⟨gb278, 0, none⟩ = some (.string a0_0) := (blk_cell BK278.out 0).trans rfl
                        have hcz45_1 : wr.cell? ⟨gb278, 1, none⟩ = some (.slice A0_1 l0_1.length c0_1) := (blk_cell BK278.out 1).trans rfl
                        have hcz45_2 : wr.cell? ⟨gb278, 2, none⟩ = some (.string a0_2) := (blk_cell BK278.out 2).trans rfl
                        have hcz45_3 : wr.cell? ⟨gb278, 3, none⟩ = some (.string a0_3) := (blk_cell BK278.out 3).trans rfl
                        have hcz45_4 : wr.cell? ⟨gb278, 4, none⟩ = some (.slice A0_4 l0_4.length c0_4) := (blk_cell BK278.out 4).trans rfl
                        have hcz45_5 : wr.cell? ⟨gb278, 5, none⟩ = some (.slice (some ad299) l0_5.length c0_5) := (blk_cell BK278.out 5).trans rfl
                        have hcz45_6 : wr.cell? ⟨gb278, 6, none⟩ = some (.slice A0_6 l0_6.length c0_6) := (blk_cell BK278.out 6).trans rfl
                        have hcz45_7 : wr.cell? ⟨gb278, 7, none⟩ = some (.string a0_7) := (blk_cell BK278.out 7).trans rfl
                        have hfz45_0 := blk_frozen BK278.out 0
                        have hfz45_1 := blk_frozen BK278.out 1
                        have hfz45_2 := blk_frozen BK278.out 2
                        have hfz45_3 := blk_frozen BK278.out 3
                        have hfz45_4 := blk_frozen BK278.out 4
                        have hfz45_5 := blk_frozen BK278.out 5
                        have hfz45_6 := blk_frozen BK278.out 6
                        have hfz45_7 := blk_frozen BK278.out 7
                        have p303 : 0 ≤ (x6_6 : Int) := of_decide_eq_true (by first | (with_reducible assumption) | assumption)
                        have q303 : x6_6 < (l0_5.length : Int) := of_decide_eq_true (by first | (with_reducible assumption) | assumption)
                        obtain ⟨ad303, A303_1, c303_1, e303, hx303_0, hx303_1, hl303_1, hi303_1⟩ := at_T62 HR0_5.out x6_6 p303 q303
                        obtain rfl : ad299 = ad303 := (by injection e303)
                        replace hx303_0 := (HB.out.cell (World.block_lt_of_cell? w _ hx303_0)).trans hx303_0
                        replace hx303_1 := (HB.out.cell (World.block_lt_of_cell? w _ hx303_1)).trans hx303_1
                        have HR303_1 := Aside0.mk hi303_1
                        have HC303_1 := Aside0.mk hl303_1
                        clear hi303_1 hl303_1
                        replace p303 := eq_true p303
                        replace q303 := eq_true q303
                        go_wp2
                        go_roundg k7
                        case measure => have := HJ2.out; have := HK2.out; have := HJ14.out; have := HJ20.out; have := HK5.out; have := HK6.out; have := HK7.out; omega
                        case rel => exact ⟨(x3_7), (wrap64 (x6_6 + 1)), (by first | rfl | (simp; done) | (simp [*]; done)), H', ⟨by have := HJ2.out; have := HK2.out; have := HJ14.out; have := HJ20.out; have := HK5.out; have := HK6.out; have := HK7.out; omega⟩, ⟨by (with_reducible repeat (first | apply Kd.R_alloc | apply Kd.R_drewN | apply Kd.R_drew)); exact HO_3.out⟩, ⟨by (with_reducible repeat (first | refine blk_drewN ?_ _ | refine blk_drew ?_ | refine blk_alloc ?_ _)); exact BK278.out⟩, ⟨by repeat (first | (with_reducible first | exact HB.out | apply below_alloc | apply pw_below_drewN | apply below_drew1 | refine below_set ?_ GE278.out) | exact HB.out)⟩⟩
                      ·rw [if_neg c39] at H
                       exact absurd H (by simp)
                     ·rw [if_neg c38] at H
                      exact absurd H (by simp)
                  ·rw [if_neg c35] at H
                   exact absurd H (by simp)
                 ·rw [if_neg c34] at H
                  exact absurd H (by simp)
                ·rw [if_neg c33] at H
                 have c33b0 : decide (x6_6 < (l0_5.length : Int)) = false := decide_eq_false c33
                 clear c33
                 have HC46 := Aside0.mk H
                 clear H
                 have hcz47_0 : wr.cell? ⟨gb278, 0, none⟩ = some (.string a0_0) := (blk_cell BK278.out 0).trans rfl
                 have hcz47_1 : wr.cell? ⟨gb278, 1, none⟩ = some (.slice A0_1 l0_1.length c0_1) := (blk_cell BK278.out 1).trans rfl
                 have hcz47_2 : wr.cell? ⟨gb278, 2, none⟩ = some (.string a0_2) := (blk_cell BK278.out 2).trans rfl
                 have hcz47_3 : wr.cell? ⟨gb278, 3, none⟩ = some (.string a0_3) := (blk_cell BK278.out 3).trans rfl
                 have hcz47_4 : wr.cell? ⟨gb278, 4, none⟩ = some (.slice A0_4 l0_4.length c0_4) := (blk_cell BK278.out 4).trans rfl
                 have hcz47_5 : wr.cell? ⟨gb278, 5, none⟩ = some (.slice A0_5 l0_5.length c0_5) := (blk_cell BK278.out 5).trans rfl
                 have hcz47_6 : wr.cell? ⟨gb278, 6, none⟩ = some (.slice A0_6 l0_6.length c0_6) := (blk_cell BK278.out 6).trans rfl
                 have hcz47_7 : wr.cell? ⟨gb278, 7, none⟩ = some (.string a0_7) := (blk_cell BK278.out 7).trans rfl
                 have hfz47_0 := blk_frozen BK278.out 0
                 have hfz47_1 := blk_frozen BK278.out 1
                 have hfz47_2 := blk_frozen BK278.out 2
                 have hfz47_3 := blk_frozen BK278.out 3
                 have hfz47_4 := blk_frozen BK278.out 4
                 have hfz47_5 := blk_frozen BK278.out 5
                 have hfz47_6 := blk_frozen BK278.out 6
                 have hfz47_7 := blk_frozen BK278.out 7
                 go_upto_if 111 with (fail)
                 go_cut [3] (fun v3 wc => ∃ (kq : Nat) (x3_45 : List ByteArray), Aside0 (isoglossref06_Subtags.j7 kq x3_45 a0_0 l0_1 a0_2 a0_3 l0_4 l0_5 l0_6 a0_7 = some r) ∧ Aside0 (kq ≤ k6) ∧ Aside0 (Kd.R Kd.string 9 wc w.heap.size (fun _ => True) v3 x3_45) ∧ Aside0 (wc.heap[gb278]? = some (.cells #[.string a0_0, (.slice A0_1 l0_1.length c0_1), .string a0_2, .string a0_3, (.slice A0_4 l0_4.length c0_4), (.slice A0_5 l0_5.length c0_5), (.slice A0_6 l0_6.length c0_6), .string a0_7] 34 (0, 0))) ∧ Aside0 (Below w.heap.size w wc))
                 case first =>
                  have H := HC46.out
                  clear HC46
                  by_cases c48 : (l0_6.length : Int) > 0
                  ·rw [if_pos c48] at H
                   have c48b0 : decide (0 < (l0_6.length : Int)) = true := decide_eq_true c48
                   have c48b1 : decide (0 < l0_6.length) = true := decide_eq_true (by omega)
                   clear c48
                   (first | rw [c48b0] | rw [c48b1] | (simp only [i64_w, i32_w]; rw [c48b0]) | skip)
                   by_cases c49 : x3_6.length < 8796093022208
                   ·rw [if_pos c49] at H
                    have LMc49 := Aside0.mk c49
                    clear c49
                    obtain ⟨y309, hy309⟩ : ∃ y_ : List ByteArray, y_ = (x3_6 ++ [(⟨#[120]⟩ : ByteArray)]) := ⟨_, rfl⟩
                    replace H : (isoglossref06_Subtags.j7 k6 y309 a0_0 l0_1 a0_2 a0_3 l0_4 l0_5 l0_6 a0_7) = some r := by first | (rw [hy309]; with_reducible exact H) | (have H2_ := (Option.bind_some _ _).symm.trans H; rw [hy309]; with_reducible exact H2_) | (have H2_ := (Option.bind_some _ _).symm.trans H; with_reducible exact H2_) | with_reducible exact H | (rw [hy309]; exact H) | exact H
                    have Ny309 := Aside0.mk hy309
                    clear hy309
                    have H' := Aside0.mk H
                    clear H
                    go_wp2_with (first | ((with_reducible refine gate_builtin (b := .append) (xs := #[.tmp 112, .tmp 113]) rfl ?_); at_builtin; refine Kd.R_append Kd.string (w0 := w) w.heap.size rfl (.tmp 112) (.tmp 113) 25 9 (.string ⟨#[]⟩) 16 rfl Try.underlying25 info9 rfl (by decide) (by omega) u3 x3_6 (⟨#[120]⟩ : ByteArray) [.string (⟨#[120]⟩ : ByteArray)] (fun _ => True) (fun _ => False) rfl rfl ?aP (fun _ hk => hk.elim) ?aF ?aO ?aB ?aS ?aL ?_; (case aP => exact rfl); (case aB => exact (by repeat (first | (with_reducible first | exact HB.out | apply below_alloc | apply pw_below_drewN | apply below_drew1 | refine below_set ?_ GE278.out) | exact HB.out))); (case aF => exact (fun _ _ => trivial)); (case aO => exact (by (with_reducible repeat (first | apply Kd.R_alloc | apply Kd.R_drewN | apply Kd.R_drew)); exact HO_3.out)); (case aS => exact (below_size (by repeat (first | (with_reducible first | exact HB.out | apply below_alloc | apply pw_below_drewN | apply below_drew1 | refine below_set ?_ GE278.out) | exact HB.out)))); (case aL => have := LMc49.out; omega); intro v310 w50 ho hb hg hat; rw [← Ny309.out] at ho; have n0_ := Aside0.mk (blk_grown (g := gb278) (o := .cells #[.string a0_0, .slice A0_1 l0_1.length c0_1, .string a0_2, .string a0_3, .slice A0_4 l0_4.length c0_4, .slice A0_5 l0_5.length c0_5, .slice A0_6 l0_6.length c0_6, .string a0_7] 34 (0, 0)) (by (with_reducible repeat (first | refine blk_drewN ?_ _ | refine blk_drew ?_ | refine blk_alloc ?_ _)); exact BK278.out) hg (Kd.R_ne HO_3.out BK278.out (by decide))); have n1_ := Aside0.mk (hb); have n2_ := Aside0.mk (ho); clear BK278; clear HB; clear HO_3; have BK278 := n0_; have HB := n1_; have HO311 := n2_; clear n0_ n1_ n2_; clear ho hb hg hat))
                    go_meet
                    case rel => exact ⟨_, (y309), H', ⟨by have := HJ2.out; have := HK2.out; have := HJ14.out; have := HJ20.out; have := HK5.out; have := HK6.out; first | omega | exact Nat.le_refl _⟩, ⟨by (with_reducible repeat (first | apply Kd.R_alloc | apply Kd.R_drewN | apply Kd.R_drew)); exact HO311.out⟩, ⟨by (with_reducible repeat (first | refine blk_drewN ?_ _ | refine blk_drew ?_ | refine blk_alloc ?_ _)); exact BK278.out⟩, ⟨by repeat (first | (with_reducible first | exact HB.out | apply below_alloc | apply pw_below_drewN | apply below_drew1 | refine below_set ?_ GE278.out) | exact HB.out)⟩⟩
                   ·rw [if_neg c49] at H
                    exact absurd H (by simp)
                  ·rw [if_neg c48] at H
                   have c48b0 : decide (0 < (l0_6.length : Int)) = false := decide_eq_false c48
                   have c48b1 : decide (0 < l0_6.length) = false := decide_eq_false (by omega)
                   clear c48
                   (first | rw [c48b0] | rw [c48b1] | (simp only [i64_w, i32_w]; rw [c48b0]) | skip)
                   have H' := Aside0.mk H
                   clear H
                   go_wp2
                   go_meet
                   case rel => exact ⟨_, (x3_6), H', ⟨by have := HJ2.out; have := HK2.out; have := HJ14.out; have := HJ20.out; have := HK5.out; have := HK6.out; first | omega | exact Nat.le_refl _⟩, ⟨by (with_reducible repeat (first | apply Kd.R_alloc | apply Kd.R_drewN | apply Kd.R_drew)); exact HO_3.out⟩, ⟨by (with_reducible repeat (first | refine blk_drewN ?_ _ | refine blk_drew ?_ | refine blk_alloc ?_ _)); exact BK278.out⟩, ⟨by repeat (first | (with_reducible first | exact HB.out | apply below_alloc | apply pw_below_drewN | apply below_drew1 | refine below_set ?_ GE278.out) | exact HB.out)⟩⟩
                 case rest =>
                  clear HC46
                  try clear c1
                  try clear c2
                  try clear c2b0
                  try clear c2b1
                  try clear p2
                  try clear q2
                  try clear hx2
                  try clear c3
                  try clear p3
                  try clear q3
                  try clear hx3
                  try clear c4
                  try clear c6
                  try clear c6b0
                  try clear c6b1
                  try clear p6
                  try clear c7
                  try clear c10
                  try clear c10b0
                  try clear c11
                  try clear c11b0
                  try clear c12
                  try clear c17
                  try clear c17b0
                  try clear c17b1
                  try clear c18
                  try clear c22
                  try clear c23
                  try clear c23b0
                  try clear c23b1
                  try clear c24
                  try clear c27
                  try clear c27b0
                  try clear c28
                  try clear c28b0
                  try clear p28
                  try clear q28
                  try clear hx28
                  try clear c29
                  try clear p29
                  try clear q29
                  try clear hx29
                  try clear c30
                  try clear p30
                  try clear q30
                  try clear hx30
                  try clear c33
                  try clear c33b0
                  try clear c34
                  try clear c34b0
                  try clear c35
                  try clear c38
                  try clear c38b0
                  try clear c39
                  try clear c39b0
                  try clear c40
                  try clear c40b0
                  try clear c41
                  try clear c41b0
                  try clear c42
                  try clear c48
                  try clear c48b0
                  try clear c48b1
                  try clear c49
                  try clear hcz13_0
                  try clear hcz13_1
                  try clear hcz13_2
                  try clear hcz13_3
                  try clear hcz13_4
                  try clear hcz13_5
                  try clear hcz13_6
                  try clear hcz13_7
                  try clear hcz16_0
                  try clear hcz16_1
                  try clear hcz16_2
                  try clear hcz16_3
                  try clear hcz16_4
                  try clear hcz16_5
                  try clear hcz16_6
                  try clear hcz16_7
                  try clear hcz19_0
                  try clear hcz19_1
                  try clear hcz19_2
                  try clear hcz19_3
                  try clear hcz19_4
                  try clear hcz19_5
                  try clear hcz19_6
                  try clear hcz19_7
                  try clear hcz22_0
                  try clear hcz22_1
                  try clear hcz22_2
                  try clear hcz22_3
                  try clear hcz22_4
                  try clear hcz22_5
                  try clear hcz22_6
                  try clear hcz22_7
                  try clear hcz25_0
                  try clear hcz25_1
                  try clear hcz25_2
                  try clear hcz25_3
                  try clear hcz25_4
                  try clear hcz25_5
                  try clear hcz25_6
                  try clear hcz25_7
                  try clear hcz30_0
                  try clear hcz30_1
                  try clear hcz30_2
                  try clear hcz30_3
                  try clear hcz30_4
                  try clear hcz30_5
                  try clear hcz30_6
                  try clear hcz30_7
                  try clear hcz32_0
                  try clear hcz32_1
                  try clear hcz32_2
                  try clear hcz32_3
                  try clear hcz32_4
                  try clear hcz32_5
                  try clear hcz32_6
                  try clear hcz32_7
                  try clear hcz36_0
                  try clear hcz36_1
                  try clear hcz36_2
                  try clear hcz36_3
                  try clear hcz36_4
                  try clear hcz36_5
                  try clear hcz36_6
                  try clear hcz36_7
                  try clear hcz43_0
                  try clear hcz43_1
                  try clear hcz43_2
                  try clear hcz43_3
                  try clear hcz43_4
                  try clear hcz43_5
                  try clear hcz43_6
                  try clear hcz43_7
                  try clear hcz45_0
                  try clear hcz45_1
                  try clear hcz45_2
                  try clear hcz45_3
                  try clear hcz45_4
                  try clear hcz45_5
                  try clear hcz45_6
                  try clear hcz45_7
                  try clear hcz47_0
                  try clear hcz47_1
                  try clear hcz47_2
                  try clear hcz47_3
                  try clear hcz47_4
                  try clear hcz47_5
                  try clear hcz47_6
                  try clear hcz47_7
                  try clear hcz5_0
                  try clear hcz5_1
                  try clear hcz5_2
                  try clear hcz5_3
                  try clear hcz5_4
                  try clear hcz5_5
                  try clear hcz5_6
                  try clear hcz5_7
                  try clear hcz8_0
                  try clear hcz8_1
                  try clear hcz8_2
                  try clear hcz8_3
                  try clear hcz8_4
                  try clear hcz8_5
                  try clear hcz8_6
                  try clear hcz8_7
                  try clear hfz13_0
                  try clear hfz13_1
                  try clear hfz13_2
                  try clear hfz13_3
                  try clear hfz13_4
                  try clear hfz13_5
                  try clear hfz13_6
                  try clear hfz13_7
                  try clear hfz16_0
                  try clear hfz16_1
                  try clear hfz16_2
                  try clear hfz16_3
                  try clear hfz16_4
                  try clear hfz16_5
                  try clear hfz16_6
                  try clear hfz16_7
                  try clear hfz19_0
                  try clear hfz19_1
                  try clear hfz19_2
                  try clear hfz19_3
                  try clear hfz19_4
                  try clear hfz19_5
                  try clear hfz19_6
                  try clear hfz19_7
                  try clear hfz22_0
                  try clear hfz22_1
                  try clear hfz22_2
                  try clear hfz22_3
                  try clear hfz22_4
                  try clear hfz22_5
                  try clear hfz22_6
                  try clear hfz22_7
                  try clear hfz25_0
                  try clear hfz25_1
                  try clear hfz25_2
                  try clear hfz25_3
                  try clear hfz25_4
                  try clear hfz25_5
                  try clear hfz25_6
                  try clear hfz25_7
                  try clear hfz30_0
                  try clear hfz30_1
                  try clear hfz30_2
                  try clear hfz30_3
                  try clear hfz30_4
                  try clear hfz30_5
                  try clear hfz30_6
                  try clear hfz30_7
                  try clear hfz32_0
                  try clear hfz32_1
                  try clear hfz32_2
                  try clear hfz32_3
                  try clear hfz32_4
                  try clear hfz32_5
                  try clear hfz32_6
                  try clear hfz32_7
                  try clear hfz36_0
                  try clear hfz36_1
                  try clear hfz36_2
                  try clear hfz36_3
                  try clear hfz36_4
                  try clear hfz36_5
                  try clear hfz36_6
                  try clear hfz36_7
                  try clear hfz43_0
                  try clear hfz43_1
                  try clear hfz43_2
                  try clear hfz43_3
                  try clear hfz43_4
                  try clear hfz43_5
                  try clear hfz43_6
                  try clear hfz43_7
                  try clear hfz45_0
                  try clear hfz45_1
                  try clear hfz45_2
                  try clear hfz45_3
                  try clear hfz45_4
                  try clear hfz45_5
                  try clear hfz45_6
                  try clear hfz45_7
                  try clear hfz47_0
                  try clear hfz47_1
                  try clear hfz47_2
                  try clear hfz47_3
                  try clear hfz47_4
                  try clear hfz47_5
                  try clear hfz47_6
                  try clear hfz47_7
                  try clear hfz5_0
                  try clear hfz5_1
                  try clear hfz5_2
                  try clear hfz5_3
                  try clear hfz5_4
                  try clear hfz5_5
                  try clear hfz5_6
                  try clear hfz5_7
                  try clear hfz8_0
                  try clear hfz8_1
                  try clear hfz8_2
                  try clear hfz8_3
                  try clear hfz8_4
                  try clear hfz8_5
                  try clear hfz8_6
                  try clear hfz8_7
                  try clear hx285_0
                  try clear hx295_0
                  try clear hx299_0
                  try clear hx299_1
                  try clear hx303_0
                  try clear hx303_1
                  try clear hx304_0
                  try clear hx304_1
                  try clear hx305_0
                  try clear p2
                  try clear p28
                  try clear p285
                  try clear p29
                  try clear p295
                  try clear p299
                  try clear p303
                  try clear p304
                  try clear p305
                  try clear p6
                  try clear q2
                  try clear q28
                  try clear q285
                  try clear q29
                  try clear q295
                  try clear q299
                  try clear q303
                  try clear q304
                  try clear q305
                  obtain ⟨kq, x3_45, HA, HJ45, HO_3, BK278, HB⟩ := hcut
                  cases kq with
                  | zero => exact absurd HA.out (by simp [isoglossref06_Subtags.j7])
                  | succ kj45 =>
                   have H := HA.out
                   clear HA
                   simp only [isoglossref06_Subtags.j7] at H
                   have H' := Aside0.mk H
                   clear H
                   go_wp2
                   go_loopg [3, 8] kj45 (fun kq v3 v8 w' => ∃ (x3_8 : List ByteArray) (x8_8 : Int), v8 = .int .i64 x8_8 ∧ Aside0 (isoglossref06_Subtags.l4 kq x3_8 x8_8 a0_0 l0_1 a0_2 a0_3 l0_4 l0_5 l0_6 a0_7 = some r) ∧ Aside0 (kq ≤ kj45) ∧ Aside0 (Kd.R Kd.string 9 w' w.heap.size (fun _ => True) v3 x3_8) ∧ Aside0 (w'.heap[gb278]? = some (.cells #[.string a0_0, (.slice A0_1 l0_1.length c0_1), .string a0_2, .string a0_3, (.slice A0_4 l0_4.length c0_4), (.slice A0_5 l0_5.length c0_5), (.slice A0_6 l0_6.length c0_6), .string a0_7] 34 (0, 0))) ∧ Aside0 (Below w.heap.size w w'))
                   case atStart => exact ⟨(x3_45), (0), (by first | rfl | (simp; done) | (simp [*]; done)), H', ⟨Nat.le_refl _⟩, ⟨by (with_reducible repeat (first | apply Kd.R_alloc | apply Kd.R_drewN | apply Kd.R_drew)); exact HO_3.out⟩, ⟨by (with_reducible repeat (first | refine blk_drewN ?_ _ | refine blk_drew ?_ | refine blk_alloc ?_ _)); exact BK278.out⟩, ⟨by repeat (first | (with_reducible first | exact HB.out | apply below_alloc | apply pw_below_drewN | apply below_drew1 | refine below_set ?_ GE278.out) | exact HB.out)⟩⟩
                   case round =>
                    clear H'
                    try clear c1
                    try clear c2
                    try clear c2b0
                    try clear c2b1
                    try clear p2
                    try clear q2
                    try clear hx2
                    try clear c3
                    try clear p3
                    try clear q3
                    try clear hx3
                    try clear c4
                    try clear c6
                    try clear c6b0
                    try clear c6b1
                    try clear p6
                    try clear c7
                    try clear c10
                    try clear c10b0
                    try clear c11
                    try clear c11b0
                    try clear c12
                    try clear c17
                    try clear c17b0
                    try clear c17b1
                    try clear c18
                    try clear c22
                    try clear c23
                    try clear c23b0
                    try clear c23b1
                    try clear c24
                    try clear c27
                    try clear c27b0
                    try clear c28
                    try clear c28b0
                    try clear p28
                    try clear q28
                    try clear hx28
                    try clear c29
                    try clear p29
                    try clear q29
                    try clear hx29
                    try clear c30
                    try clear p30
                    try clear q30
                    try clear hx30
                    try clear c33
                    try clear c33b0
                    try clear c34
                    try clear c34b0
                    try clear c35
                    try clear c38
                    try clear c38b0
                    try clear c39
                    try clear c39b0
                    try clear c40
                    try clear c40b0
                    try clear c41
                    try clear c41b0
                    try clear c42
                    try clear c48
                    try clear c48b0
                    try clear c48b1
                    try clear c49
                    try clear hcz13_0
                    try clear hcz13_1
                    try clear hcz13_2
                    try clear hcz13_3
                    try clear hcz13_4
                    try clear hcz13_5
                    try clear hcz13_6
                    try clear hcz13_7
                    try clear hcz16_0
                    try clear hcz16_1
                    try clear hcz16_2
                    try clear hcz16_3
                    try clear hcz16_4
                    try clear hcz16_5
                    try clear hcz16_6
                    try clear hcz16_7
                    try clear hcz19_0
                    try clear hcz19_1
                    try clear hcz19_2
                    try clear hcz19_3
                    try clear hcz19_4
                    try clear hcz19_5
                    try clear hcz19_6
                    try clear hcz19_7
                    try clear hcz22_0
                    try clear hcz22_1
                    try clear hcz22_2
                    try clear hcz22_3
                    try clear hcz22_4
                    try clear hcz22_5
                    try clear hcz22_6
                    try clear hcz22_7
                    try clear hcz25_0
                    try clear hcz25_1
                    try clear hcz25_2
                    try clear hcz25_3
                    try clear hcz25_4
                    try clear hcz25_5
                    try clear hcz25_6
                    try clear hcz25_7
                    try clear hcz30_0
                    try clear hcz30_1
                    try clear hcz30_2
                    try clear hcz30_3
                    try clear hcz30_4
                    try clear hcz30_5
                    try clear hcz30_6
                    try clear hcz30_7
                    try clear hcz32_0
                    try clear hcz32_1
                    try clear hcz32_2
                    try clear hcz32_3
                    try clear hcz32_4
                    try clear hcz32_5
                    try clear hcz32_6
                    try clear hcz32_7
                    try clear hcz36_0
                    try clear hcz36_1
                    try clear hcz36_2
                    try clear hcz36_3
                    try clear hcz36_4
                    try clear hcz36_5
                    try clear hcz36_6
                    try clear hcz36_7
                    try clear hcz43_0
                    try clear hcz43_1
                    try clear hcz43_2
                    try clear hcz43_3
                    try clear hcz43_4
                    try clear hcz43_5
                    try clear hcz43_6
                    try clear hcz43_7
                    try clear hcz45_0
                    try clear hcz45_1
                    try clear hcz45_2
                    try clear hcz45_3
                    try clear hcz45_4
                    try clear hcz45_5
                    try clear hcz45_6
                    try clear hcz45_7
                    try clear hcz47_0
                    try clear hcz47_1
                    try clear hcz47_2
                    try clear hcz47_3
                    try clear hcz47_4
                    try clear hcz47_5
                    try clear hcz47_6
                    try clear hcz47_7
                    try clear hcz5_0
                    try clear hcz5_1
                    try clear hcz5_2
                    try clear hcz5_3
                    try clear hcz5_4
                    try clear hcz5_5
                    try clear hcz5_6
                    try clear hcz5_7
                    try clear hcz8_0
                    try clear hcz8_1
                    try clear hcz8_2
                    try clear hcz8_3
                    try clear hcz8_4
                    try clear hcz8_5
                    try clear hcz8_6
                    try clear hcz8_7
                    try clear hfz13_0
                    try clear hfz13_1
                    try clear hfz13_2
                    try clear hfz13_3
                    try clear hfz13_4
                    try clear hfz13_5
                    try clear hfz13_6
                    try clear hfz13_7
                    try clear hfz16_0
                    try clear hfz16_1
                    try clear hfz16_2
                    try clear hfz16_3
                    try clear hfz16_4
                    try clear hfz16_5
                    try clear hfz16_6
                    try clear hfz16_7
                    try clear hfz19_0
                    try clear hfz19_1
                    try clear hfz19_2
                    try clear hfz19_3
                    try clear hfz19_4
                    try clear hfz19_5
                    try clear hfz19_6
                    try clear hfz19_7
                    try clear hfz22_0
                    try clear hfz22_1
                    try clear hfz22_2
                    try clear hfz22_3
                    try clear hfz22_4
                    try clear hfz22_5
                    try clear hfz22_6
                    try clear hfz22_7
                    try clear hfz25_0
                    try clear hfz25_1
                    try clear hfz25_2
                    try clear hfz25_3
                    try clear hfz25_4
                    try clear hfz25_5
                    try clear hfz25_6
                    try clear hfz25_7
                    try clear hfz30_0
                    try clear hfz30_1
                    try clear hfz30_2
                    try clear hfz30_3
                    try clear hfz30_4
                    try clear hfz30_5
                    try clear hfz30_6
                    try clear hfz30_7
                    try clear hfz32_0
                    try clear hfz32_1
                    try clear hfz32_2
                    try clear hfz32_3
                    try clear hfz32_4
                    try clear hfz32_5
                    try clear hfz32_6
                    try clear hfz32_7
                    try clear hfz36_0
                    try clear hfz36_1
                    try clear hfz36_2
                    try clear hfz36_3
                    try clear hfz36_4
                    try clear hfz36_5
                    try clear hfz36_6
                    try clear hfz36_7
                    try clear hfz43_0
                    try clear hfz43_1
                    try clear hfz43_2
                    try clear hfz43_3
                    try clear hfz43_4
                    try clear hfz43_5
                    try clear hfz43_6
                    try clear hfz43_7
                    try clear hfz45_0
                    try clear hfz45_1
                    try clear hfz45_2
                    try clear hfz45_3
                    try clear hfz45_4
                    try clear hfz45_5
                    try clear hfz45_6
                    try clear hfz45_7
                    try clear hfz47_0
                    try clear hfz47_1
                    try clear hfz47_2
                    try clear hfz47_3
                    try clear hfz47_4
                    try clear hfz47_5
                    try clear hfz47_6
                    try clear hfz47_7
                    try clear hfz5_0
                    try clear hfz5_1
                    try clear hfz5_2
                    try clear hfz5_3
                    try clear hfz5_4
                    try clear hfz5_5
                    try clear hfz5_6
                    try clear hfz5_7
                    try clear hfz8_0
                    try clear hfz8_1
                    try clear hfz8_2
                    try clear hfz8_3
                    try clear hfz8_4
                    try clear hfz8_5
                    try clear hfz8_6
                    try clear hfz8_7
                    try clear hx285_0
                    try clear hx295_0
                    try clear hx299_0
                    try clear hx299_1
                    try clear hx303_0
                    try clear hx303_1
                    try clear hx304_0
                    try clear hx304_1
                    try clear hx305_0
                    try clear p2
                    try clear p28
                    try clear p285
                    try clear p29
                    try clear p295
                    try clear p299
                    try clear p3
                    try clear p30
                    try clear p303
                    try clear p304
                    try clear p305
                    try clear p6
                    try clear q2
                    try clear q28
                    try clear q285
                    try clear q29
                    try clear q295
                    try clear q299
                    try clear q3
                    try clear q30
                    try clear q303
                    try clear q304
                    try clear q305
                    obtain ⟨x3_8, x8_8, rfl, HA, HK8, HO_3, BK278, HB⟩ := hrel
                    cases gk with
                    | zero => exact absurd HA.out (by simp [isoglossref06_Subtags.l4])
                    | succ k8 =>
                     have H := HA.out
                     clear HA
                     simp only [isoglossref06_Subtags.l4] at H
                     by_cases c51 : x8_8 < (l0_6.length : Int)
                     ·rw [if_pos c51] at H
                      have c51b0 : decide (x8_8 < (l0_6.length : Int)) = true := decide_eq_true c51
                      clear c51
                      by_cases c52 : 0 ≤ x8_8
                      ·rw [if_pos c52] at H
                       have c52b0 : decide (0 ≤ x8_8) = true := decide_eq_true c52
                       clear c52
                       by_cases c53 : x3_8.length < 8796093022208
                       ·rw [if_pos c53] at H
                        have LMc53 := Aside0.mk c53
                        clear c53
                        obtain ⟨y313, hy313⟩ : ∃ y_ : List ByteArray, y_ = (x3_8 ++ [rdOf ByteArray.empty l0_6 x8_8]) := ⟨_, rfl⟩
                        replace H : (isoglossref06_Subtags.l4 k8 y313 (wrap64 (x8_8 + 1)) a0_0 l0_1 a0_2 a0_3 l0_4 l0_5 l0_6 a0_7) = some r := by first | (rw [hy313]; with_reducible exact H) | (have H2_ := (Option.bind_some _ _).symm.trans H; rw [hy313]; with_reducible exact H2_) | (have H2_ := (Option.bind_some _ _).symm.trans H; with_reducible exact H2_) | with_reducible exact H | (rw [hy313]; exact H) | exact H
                        have Ny313 := Aside0.mk hy313
                        clear hy313
                        have H' := Aside0.mk H
                        clear H
                        have hcz54_0 : wr.cell? ⟨gb278, 0, none⟩ = some (.string a0_0) := (blk_cell BK278.out 0).trans rfl
                        have hcz54_1 : wr.cell? ⟨gb278, 1, none⟩ = some (.slice A0_1 l0_1.length c0_1) := (blk_cell BK278.out 1).trans rfl
                        have hcz54_2 : wr.cell? ⟨gb278, 2, none⟩ = some (.string a0_2) := (blk_cell BK278.out 2).trans rfl
                        have hcz54_3 : wr.cell? ⟨gb278, 3, none⟩ = some (.string a0_3) := (blk_cell BK278.out 3).trans rfl
                        have hcz54_4 : wr.cell? ⟨gb278, 4, none⟩ = some (.slice A0_4 l0_4.length c0_4) := (blk_cell BK278.out 4).trans rfl
                        have hcz54_5 : wr.cell? ⟨gb278, 5, none⟩ = some (.slice A0_5 l0_5.length c0_5) := (blk_cell BK278.out 5).trans rfl
                        have hcz54_6 : wr.cell? ⟨gb278, 6, none⟩ = some (.slice A0_6 l0_6.length c0_6) := (blk_cell BK278.out 6).trans rfl
                        have hcz54_7 : wr.cell? ⟨gb278, 7, none⟩ = some (.string a0_7) := (blk_cell BK278.out 7).trans rfl
                        have hfz54_0 := blk_frozen BK278.out 0
                        have hfz54_1 := blk_frozen BK278.out 1
                        have hfz54_2 := blk_frozen BK278.out 2
                        have hfz54_3 := blk_frozen BK278.out 3
                        have hfz54_4 := blk_frozen BK278.out 4
                        have hfz54_5 := blk_frozen BK278.out 5
                        have hfz54_6 := blk_frozen BK278.out 6
                        have hfz54_7 := blk_frozen BK278.out 7
                        have p312 : 0 ≤ (x8_8 : Int) := of_decide_eq_true (by first | (with_reducible assumption) | assumption)
                        have q312 : x8_8 < (l0_6.length : Int) := of_decide_eq_true (by first | (with_reducible assumption) | assumption)
                        obtain ⟨ad312, e312, hx312_0⟩ := Kd.at_string HR0_6.out x8_8 p312 q312
                        cases e312
                        replace hx312_0 := (HB.out.cell (World.block_lt_of_cell? w _ hx312_0)).trans hx312_0
                        replace p312 := eq_true p312
                        replace q312 := eq_true q312
                        go_wp2_with (first | ((with_reducible refine gate_builtin (b := .append) (xs := #[.tmp 122, .tmp 128]) rfl ?_); at_builtin; refine Kd.R_append Kd.string (w0 := w) w.heap.size rfl (.tmp 122) (.tmp 128) 25 9 (.string ⟨#[]⟩) 16 rfl Try.underlying25 info9 rfl (by decide) (by omega) u3 x3_8 (rdOf ByteArray.empty l0_6 x8_8) [.string (rdOf ByteArray.empty l0_6 x8_8)] (fun _ => True) (fun _ => False) rfl rfl ?aP (fun _ hk => hk.elim) ?aF ?aO ?aB ?aS ?aL ?_; (case aP => exact rfl); (case aB => exact (by repeat (first | (with_reducible first | exact HB.out | apply below_alloc | apply pw_below_drewN | apply below_drew1 | refine below_set ?_ GE278.out) | exact HB.out))); (case aF => exact (fun _ _ => trivial)); (case aO => exact (by (with_reducible repeat (first | apply Kd.R_alloc | apply Kd.R_drewN | apply Kd.R_drew)); exact HO_3.out)); (case aS => exact (below_size (by repeat (first | (with_reducible first | exact HB.out | apply below_alloc | apply pw_below_drewN | apply below_drew1 | refine below_set ?_ GE278.out) | exact HB.out)))); (case aL => have := LMc53.out; omega); intro v314 w55 ho hb hg hat; rw [← Ny313.out] at ho; have n0_ := Aside0.mk (blk_grown (g := gb278) (o := .cells #[.string a0_0, .slice A0_1 l0_1.length c0_1, .string a0_2, .string a0_3, .slice A0_4 l0_4.length c0_4, .slice A0_5 l0_5.length c0_5, .slice (some ad312) l0_6.length c0_6, .string a0_7] 34 (0, 0)) (by (with_reducible repeat (first | refine blk_drewN ?_ _ | refine blk_drew ?_ | refine blk_alloc ?_ _)); exact BK278.out) hg (Kd.R_ne HO_3.out BK278.out (by decide))); have n1_ := Aside0.mk (hb); have n2_ := Aside0.mk (ho); clear BK278; clear HB; clear HO_3; have BK278 := n0_; have HB := n1_; have HO315 := n2_; clear n0_ n1_ n2_; clear ho hb hg hat))
                        go_roundg k8
                        case measure => have := HJ2.out; have := HK2.out; have := HJ14.out; have := HJ20.out; have := HK5.out; have := HK6.out; have := HJ45.out; have := HK8.out; omega
                        case rel => exact ⟨(y313), (wrap64 (x8_8 + 1)), (by first | rfl | (simp; done) | (simp [*]; done)), H', ⟨by have := HJ2.out; have := HK2.out; have := HJ14.out; have := HJ20.out; have := HK5.out; have := HK6.out; have := HJ45.out; have := HK8.out; omega⟩, ⟨by (with_reducible repeat (first | apply Kd.R_alloc | apply Kd.R_drewN | apply Kd.R_drew)); exact HO315.out⟩, ⟨by (with_reducible repeat (first | refine blk_drewN ?_ _ | refine blk_drew ?_ | refine blk_alloc ?_ _)); exact BK278.out⟩, ⟨by repeat (first | (with_reducible first | exact HB.out | apply below_alloc | apply pw_below_drewN | apply below_drew1 | refine below_set ?_ GE278.out) | exact HB.out)⟩⟩
                       ·rw [if_neg c53] at H
                        exact absurd H (by simp)
                      ·rw [if_neg c52] at H
                       exact absurd H (by simp)
                     ·rw [if_neg c51] at H
                      have c51b0 : decide (x8_8 < (l0_6.length : Int)) = false := decide_eq_false c51
                      clear c51
                      obtain rfl := Option.some.inj H
                      have hcz56_0 : wr.cell? ⟨gb278, 0, none⟩ = some (.string a0_0) := (blk_cell BK278.out 0).trans rfl
                      have hcz56_1 : wr.cell? ⟨gb278, 1, none⟩ = some (.slice A0_1 l0_1.length c0_1) := (blk_cell BK278.out 1).trans rfl
                      have hcz56_2 : wr.cell? ⟨gb278, 2, none⟩ = some (.string a0_2) := (blk_cell BK278.out 2).trans rfl
                      have hcz56_3 : wr.cell? ⟨gb278, 3, none⟩ = some (.string a0_3) := (blk_cell BK278.out 3).trans rfl
                      have hcz56_4 : wr.cell? ⟨gb278, 4, none⟩ = some (.slice A0_4 l0_4.length c0_4) := (blk_cell BK278.out 4).trans rfl
                      have hcz56_5 : wr.cell? ⟨gb278, 5, none⟩ = some (.slice A0_5 l0_5.length c0_5) := (blk_cell BK278.out 5).trans rfl
                      have hcz56_6 : wr.cell? ⟨gb278, 6, none⟩ = some (.slice A0_6 l0_6.length c0_6) := (blk_cell BK278.out 6).trans rfl
                      have hcz56_7 : wr.cell? ⟨gb278, 7, none⟩ = some (.string a0_7) := (blk_cell BK278.out 7).trans rfl
                      have hfz56_0 := blk_frozen BK278.out 0
                      have hfz56_1 := blk_frozen BK278.out 1
                      have hfz56_2 := blk_frozen BK278.out 2
                      have hfz56_3 := blk_frozen BK278.out 3
                      have hfz56_4 := blk_frozen BK278.out 4
                      have hfz56_5 := blk_frozen BK278.out 5
                      have hfz56_6 := blk_frozen BK278.out 6
                      have hfz56_7 := blk_frozen BK278.out 7
                      go_wp2
                      go_ret
                      exact ⟨_, by first | rfl | (simp [errW_none, errW_some] <;> rfl) | (simp [*, errW_none, errW_some] <;> rfl), by (with_reducible repeat (first | apply Kd.R_alloc | apply Kd.R_drewN | apply Kd.R_drew)); exact HO_3.out, by repeat (first | (with_reducible first | exact HB.out | apply below_alloc | apply pw_below_drewN | apply below_drew1 | refine below_set ?_ GE278.out) | exact HB.out)⟩
 ·rw [if_neg c2] at H
  have c2b0 : (a0_7.toList == ([] : List UInt8)) = false := beq_eq_false_iff_ne.mpr c2
  have c2e0 : a0_7.toList.isEmpty = false := List.isEmpty_eq_false_iff.2 c2
  have c2e1 : (!a0_7.toList.isEmpty) = true := by rw [c2e0]; rfl
  have c2b1 : (a0_7.toList != ([] : List UInt8)) = true := bne_iff_ne.mpr c2
  replace H := Option.bind_eq_some_iff.mp H
  obtain ⟨t279, A570, H⟩ := H
  replace H : (some t279) = some r := H
  have A57 := Aside0.mk A570
  clear A570
  obtain rfl := Option.some.inj H
  go_enter Try.func22, Try.ntmps22
  go_wp2_with (first | ((with_reducible refine gate_dst (N := 1) rfl ?_); refine box_event ?hg (N := 1) ?hd (cs := #[.string a0_0, .slice A0_1 l0_1.length c0_1, .string a0_2, .string a0_3, .slice A0_4 l0_4.length c0_4, .slice A0_5 l0_5.length c0_5, .slice A0_6 l0_6.length c0_6, .string a0_7]) (t := 34) ?hr ?_; (case hd => rfl); (case hg => rfl); (case hr => first | (go_simp; done) | (go_simp; rfl)); intro gb278 hg w58 hbox hb; have n0_ := Aside0.mk (below_step (by repeat (first | (with_reducible first | exact HB.out | apply below_alloc | apply pw_below_drewN | apply below_drew1) | exact HB.out)) hb); have n1_ := Aside0.mk (hbox); have n2_ := Aside0.mk ((by rw [hg]; exact (below_size (by repeat (first | (with_reducible first | exact HB.out | apply below_alloc | apply pw_below_drewN | apply below_drew1) | exact HB.out))) : w.heap.size ≤ gb278)); have n3_ := Aside0.mk ((by rw [hg]; exact (below_size (by repeat (first | (with_reducible first | exact HB.out | apply below_alloc | apply pw_below_drewN | apply below_drew1) | exact HB.out))) : w.heap.size ≤ gb278)); clear HB; have HB := n0_; have BK278 := n1_; have GW278 := n2_; have GE278 := n3_; clear n0_ n1_ n2_ n3_; clear hb hbox hg; have hcz59_0 : w58.cell? ⟨gb278, 0, none⟩ = some (.string a0_0) := (blk_cell BK278.out 0).trans rfl; have hcz59_1 : w58.cell? ⟨gb278, 1, none⟩ = some (.slice A0_1 l0_1.length c0_1) := (blk_cell BK278.out 1).trans rfl; have hcz59_2 : w58.cell? ⟨gb278, 2, none⟩ = some (.string a0_2) := (blk_cell BK278.out 2).trans rfl; have hcz59_3 : w58.cell? ⟨gb278, 3, none⟩ = some (.string a0_3) := (blk_cell BK278.out 3).trans rfl; have hcz59_4 : w58.cell? ⟨gb278, 4, none⟩ = some (.slice A0_4 l0_4.length c0_4) := (blk_cell BK278.out 4).trans rfl; have hcz59_5 : w58.cell? ⟨gb278, 5, none⟩ = some (.slice A0_5 l0_5.length c0_5) := (blk_cell BK278.out 5).trans rfl; have hcz59_6 : w58.cell? ⟨gb278, 6, none⟩ = some (.slice A0_6 l0_6.length c0_6) := (blk_cell BK278.out 6).trans rfl; have hcz59_7 : w58.cell? ⟨gb278, 7, none⟩ = some (.string a0_7) := (blk_cell BK278.out 7).trans rfl; have hfz59_0 := blk_frozen BK278.out 0; have hfz59_1 := blk_frozen BK278.out 1; have hfz59_2 := blk_frozen BK278.out 2; have hfz59_3 := blk_frozen BK278.out 3; have hfz59_4 := blk_frozen BK278.out 4; have hfz59_5 := blk_frozen BK278.out 5; have hfz59_6 := blk_frozen BK278.out 6; have hfz59_7 := blk_frozen BK278.out 7) | ((with_reducible refine gate_callee (f := 14) rfl ?_); refine goesL_ (some 14) rfl rfl Try.func14 (by kernel_rfl) rfl #[.string a0_7] rfl (by (try simp only [List.map_toArray, List.map_cons, List.map_nil]); first | done | rfl | (simp only [List.length_drop, List.length_take]; rfl)) ?_; (with_reducible refine (isoglossref04_Split.calls k a0_7 t279 _ A57.out).mono ?_); rintro e w60 ⟨v280, rfl, ho0, hb⟩; refine ⟨_, rfl, ?_⟩; have n0_ := Aside0.mk (Kd.R_lower ho0 (below_size (by repeat (first | (with_reducible first | exact HB.out | apply below_alloc | apply pw_below_drewN | apply below_drew1 | refine below_set ?_ GE278.out) | exact HB.out)))); have n1_ := Aside0.mk (blk_below (g := gb278) (o := .cells #[.string a0_0, .slice A0_1 l0_1.length c0_1, .string a0_2, .string a0_3, .slice A0_4 l0_4.length c0_4, .slice A0_5 l0_5.length c0_5, .slice A0_6 l0_6.length c0_6, .string a0_7] 34 (0, 0)) (by (with_reducible repeat (first | refine blk_drewN ?_ _ | refine blk_drew ?_ | refine blk_alloc ?_ _)); exact BK278.out) hb); have n2_ := Aside0.mk (below_step (by repeat (first | (with_reducible first | exact HB.out | apply below_alloc | apply pw_below_drewN | apply below_drew1 | refine below_set ?_ GE278.out) | exact HB.out)) hb); clear BK278; clear HB; have HO281 := n0_; have BK278 := n1_; have HB := n2_; clear n0_ n1_ n2_; (try clear hb); (try clear hb2); (try clear hk); (try clear hi); (try clear ho0)))
  go_ret
  exact ⟨_, by first | rfl | (simp [errW_none, errW_some] <;> rfl) | (simp [*, errW_none, errW_some] <;> rfl), by (with_reducible repeat (first | apply Kd.R_alloc | apply Kd.R_drewN | apply Kd.R_drew)); exact HO281.out, by repeat (first | (with_reducible first | exact HB.out | apply below_alloc | apply pw_below_drewN | apply below_drew1 | refine below_set ?_ GE278.out) | exact HB.out)⟩
end Go.Proofs.Ytojglflamecnkaa.P
