-- Written for this claim by the session's own run of the print, functions proved by hand put in.
import Derived.Test.YtejnfbfikadpdaaGreatDoorPx0
import Derived.Test.YtejnfbfikadpdaaGreatDoorPx8
namespace Go.Proofs.YtejnfbfikadpdaaGreatDoor.P
open Go.RowKit Go.Proofs.YtejnfbfikadpdaaGreatDoorW.PrintWords Go.Proofs.YtejnfbfikadpdaaGreatDoorW.PrintLast Go.Proofs.YtejnfbfikadpdaaGreatDoorW.PrintMore
open Go.Proofs.YtejnfbfikadpdaaGreatDoorW.PrintWords renaming blk_alloc → bA_, blk_drewN → bN_, blk_drew → bD_, blk_frozen → bF_, blk_cell → bC_, below_alloc → wA_, pw_below_drewN → wN_, below_drew1 → wD_, below_set → wS_, below_size → wZ_
open Go.Proofs.YtejnfbfikadpdaaGreatDoorW.PrintWords.Kd renaming R_alloc → rA_, R_drewN → rN_, R_drew → rD_
theorem c8_9 {w : World} {g : Nat} {t : TypeId} {x0 x1 x2 x3 x4 x5 x6 x7 : Value} (h : w.heap[g]? = some (.cells #[x0, x1, x2, x3, x4, x5, x6, x7] t (0, 0))) : w.cell? ⟨g, 0, none⟩ = some x0 ∧ w.cell? ⟨g, 1, none⟩ = some x1 ∧ w.cell? ⟨g, 2, none⟩ = some x2 ∧ w.cell? ⟨g, 3, none⟩ = some x3 ∧ w.cell? ⟨g, 4, none⟩ = some x4 ∧ w.cell? ⟨g, 5, none⟩ = some x5 ∧ w.cell? ⟨g, 6, none⟩ = some x6 ∧ w.cell? ⟨g, 7, none⟩ = some x7 ∧ w.frozen? ⟨g, 0, none⟩ = false ∧ w.frozen? ⟨g, 1, none⟩ = false ∧ w.frozen? ⟨g, 2, none⟩ = false ∧ w.frozen? ⟨g, 3, none⟩ = false ∧ w.frozen? ⟨g, 4, none⟩ = false ∧ w.frozen? ⟨g, 5, none⟩ = false ∧ w.frozen? ⟨g, 6, none⟩ = false ∧ w.frozen? ⟨g, 7, none⟩ = false :=
  ⟨(Go.Proofs.YtejnfbfikadpdaaGreatDoorW.PrintWords.blk_cell h 0).trans rfl, (Go.Proofs.YtejnfbfikadpdaaGreatDoorW.PrintWords.blk_cell h 1).trans rfl, (Go.Proofs.YtejnfbfikadpdaaGreatDoorW.PrintWords.blk_cell h 2).trans rfl, (Go.Proofs.YtejnfbfikadpdaaGreatDoorW.PrintWords.blk_cell h 3).trans rfl, (Go.Proofs.YtejnfbfikadpdaaGreatDoorW.PrintWords.blk_cell h 4).trans rfl, (Go.Proofs.YtejnfbfikadpdaaGreatDoorW.PrintWords.blk_cell h 5).trans rfl, (Go.Proofs.YtejnfbfikadpdaaGreatDoorW.PrintWords.blk_cell h 6).trans rfl, (Go.Proofs.YtejnfbfikadpdaaGreatDoorW.PrintWords.blk_cell h 7).trans rfl, Go.Proofs.YtejnfbfikadpdaaGreatDoorW.PrintWords.blk_frozen h 0, Go.Proofs.YtejnfbfikadpdaaGreatDoorW.PrintWords.blk_frozen h 1, Go.Proofs.YtejnfbfikadpdaaGreatDoorW.PrintWords.blk_frozen h 2, Go.Proofs.YtejnfbfikadpdaaGreatDoorW.PrintWords.blk_frozen h 3, Go.Proofs.YtejnfbfikadpdaaGreatDoorW.PrintWords.blk_frozen h 4, Go.Proofs.YtejnfbfikadpdaaGreatDoorW.PrintWords.blk_frozen h 5, Go.Proofs.YtejnfbfikadpdaaGreatDoorW.PrintWords.blk_frozen h 6, Go.Proofs.YtejnfbfikadpdaaGreatDoorW.PrintWords.blk_frozen h 7⟩
attribute [local go_sem] max2_int min2_int max_two min_two max_three min_three max_four min_four   -- for this text's walks alone
set_option linter.unusedVariables false
set_option linter.unusedSimpArgs false
mutual
def isoglossref06_Subtags.j0 : Nat → List ByteArray → ByteArray → List ByteArray → ByteArray → ByteArray → List ByteArray → List (S47) → List ByteArray → ByteArray → Option (List ByteArray)
 | 0, _, _, _, _, _, _, _, _, _ => none
 | k + 1, x3, x293000, x293001, x293002, x293003, x293004, x293005, x293006, x293007 => isoglossref06_Subtags.l0 k x3 0 x293000 x293001 x293002 x293003 x293004 x293005 x293006 x293007
def isoglossref06_Subtags.l0 : Nat → List ByteArray → Int → ByteArray → List ByteArray → ByteArray → ByteArray → List ByteArray → List (S47) → List ByteArray → ByteArray → Option (List ByteArray)
 | 0, _, _, _, _, _, _, _, _, _, _ => none
 | k + 1, x3, x4, x293000, x293001, x293002, x293003, x293004, x293005, x293006, x293007 => if x4 < (x293001.length : Int) then (if 0 ≤ x4 then (if x3.length < 8796093022208 then (isoglossref06_Subtags.l0 k (x3 ++ [rdOf ByteArray.empty x293001 x4]) (wrap64 (x4 + 1)) x293000 x293001 x293002 x293003 x293004 x293005 x293006 x293007) else (none)) else (none)) else (if x293002.toList = ([] : List UInt8) then (isoglossref06_Subtags.j2 k x3 x293000 x293001 x293002 x293003 x293004 x293005 x293006 x293007) else (if x3.length < 8796093022208 then (isoglossref06_Subtags.j2 k (x3 ++ [x293002]) x293000 x293001 x293002 x293003 x293004 x293005 x293006 x293007) else (none)))
def isoglossref06_Subtags.j2 : Nat → List ByteArray → ByteArray → List ByteArray → ByteArray → ByteArray → List ByteArray → List (S47) → List ByteArray → ByteArray → Option (List ByteArray)
 | 0, _, _, _, _, _, _, _, _, _ => none
 | k + 1, x3, x293000, x293001, x293002, x293003, x293004, x293005, x293006, x293007 => if x293003.toList = ([] : List UInt8) then (isoglossref06_Subtags.j3 k x3 x293000 x293001 x293002 x293003 x293004 x293005 x293006 x293007) else (if x3.length < 8796093022208 then (isoglossref06_Subtags.j3 k (x3 ++ [x293003]) x293000 x293001 x293002 x293003 x293004 x293005 x293006 x293007) else (none))
def isoglossref06_Subtags.j3 : Nat → List ByteArray → ByteArray → List ByteArray → ByteArray → ByteArray → List ByteArray → List (S47) → List ByteArray → ByteArray → Option (List ByteArray)
 | 0, _, _, _, _, _, _, _, _, _ => none
 | k + 1, x3, x293000, x293001, x293002, x293003, x293004, x293005, x293006, x293007 => isoglossref06_Subtags.l1 k x3 0 x293000 x293001 x293002 x293003 x293004 x293005 x293006 x293007
def isoglossref06_Subtags.l1 : Nat → List ByteArray → Int → ByteArray → List ByteArray → ByteArray → ByteArray → List ByteArray → List (S47) → List ByteArray → ByteArray → Option (List ByteArray)
 | 0, _, _, _, _, _, _, _, _, _, _ => none
 | k + 1, x3, x5, x293000, x293001, x293002, x293003, x293004, x293005, x293006, x293007 => if x5 < (x293004.length : Int) then (if 0 ≤ x5 then (if x3.length < 8796093022208 then (isoglossref06_Subtags.l1 k (x3 ++ [rdOf ByteArray.empty x293004 x5]) (wrap64 (x5 + 1)) x293000 x293001 x293002 x293003 x293004 x293005 x293006 x293007) else (none)) else (none)) else (isoglossref06_Subtags.l2 k x3 0 x293000 x293001 x293002 x293003 x293004 x293005 x293006 x293007)
def isoglossref06_Subtags.l2 : Nat → List ByteArray → Int → ByteArray → List ByteArray → ByteArray → ByteArray → List ByteArray → List (S47) → List ByteArray → ByteArray → Option (List ByteArray)
 | 0, _, _, _, _, _, _, _, _, _, _ => none
 | k + 1, x3, x6, x293000, x293001, x293002, x293003, x293004, x293005, x293006, x293007 => if x6 < (x293005.length : Int) then (if 0 ≤ x6 then (if x3.length < 8796093022208 then (isoglossref06_Subtags.l3 k (x3 ++ [(rd_T47 x293005 x6).f0]) x6 0 x293000 x293001 x293002 x293003 x293004 x293005 x293006 x293007) else (none)) else (none)) else (if (x293006.length : Int) > 0 then (if x3.length < 8796093022208 then (isoglossref06_Subtags.j7 k (x3 ++ [(⟨#[120]⟩ : ByteArray)]) x293000 x293001 x293002 x293003 x293004 x293005 x293006 x293007) else (none)) else (isoglossref06_Subtags.j7 k x3 x293000 x293001 x293002 x293003 x293004 x293005 x293006 x293007))
def isoglossref06_Subtags.l3 : Nat → List ByteArray → Int → Int → ByteArray → List ByteArray → ByteArray → ByteArray → List ByteArray → List (S47) → List ByteArray → ByteArray → Option (List ByteArray)
 | 0, _, _, _, _, _, _, _, _, _, _, _ => none
 | k + 1, x3, x6, x7, x293000, x293001, x293002, x293003, x293004, x293005, x293006, x293007 => if 0 ≤ x6 then (if x6 < (x293005.length : Int) then (if x7 < (((rd_T47 x293005 x6).f1).length : Int) then (if 0 ≤ x7 then (if x3.length < 8796093022208 then (isoglossref06_Subtags.l3 k (x3 ++ [rdOf ByteArray.empty ((rd_T47 x293005 x6).f1) x7]) x6 (wrap64 (x7 + 1)) x293000 x293001 x293002 x293003 x293004 x293005 x293006 x293007) else (none)) else (none)) else (isoglossref06_Subtags.l2 k x3 (wrap64 (x6 + 1)) x293000 x293001 x293002 x293003 x293004 x293005 x293006 x293007)) else (none)) else (none)
def isoglossref06_Subtags.j7 : Nat → List ByteArray → ByteArray → List ByteArray → ByteArray → ByteArray → List ByteArray → List (S47) → List ByteArray → ByteArray → Option (List ByteArray)
 | 0, _, _, _, _, _, _, _, _, _ => none
 | k + 1, x3, x293000, x293001, x293002, x293003, x293004, x293005, x293006, x293007 => isoglossref06_Subtags.l4 k x3 0 x293000 x293001 x293002 x293003 x293004 x293005 x293006 x293007
def isoglossref06_Subtags.l4 : Nat → List ByteArray → Int → ByteArray → List ByteArray → ByteArray → ByteArray → List ByteArray → List (S47) → List ByteArray → ByteArray → Option (List ByteArray)
 | 0, _, _, _, _, _, _, _, _, _, _ => none
 | k + 1, x3, x8, x293000, x293001, x293002, x293003, x293004, x293005, x293006, x293007 => if x8 < (x293006.length : Int) then (if 0 ≤ x8 then (if x3.length < 8796093022208 then (isoglossref06_Subtags.l4 k (x3 ++ [rdOf ByteArray.empty x293006 x8]) (wrap64 (x8 + 1)) x293000 x293001 x293002 x293003 x293004 x293005 x293006 x293007) else (none)) else (none)) else (some x3)
end
def isoglossref06_Subtags.f (k : Nat) (a0_0 : ByteArray) (l0_1 : List ByteArray) (a0_2 : ByteArray) (a0_3 : ByteArray) (l0_4 : List ByteArray) (l0_5 : List (S47)) (l0_6 : List ByteArray) (a0_7 : ByteArray) : Option (List ByteArray) := if a0_7.toList = ([] : List UInt8) then (if a0_0.toList = ([] : List UInt8) then (isoglossref06_Subtags.j0 k ([] : List ByteArray) a0_0 l0_1 a0_2 a0_3 l0_4 l0_5 l0_6 a0_7) else (if ([] : List ByteArray).length < 8796093022208 then (isoglossref06_Subtags.j0 k (([] : List ByteArray) ++ [a0_0]) a0_0 l0_1 a0_2 a0_3 l0_4 l0_5 l0_6 a0_7) else (none))) else ((isoglossref04_Split.f k a0_7).bind fun t293 => (some t293))
set_option maxHeartbeats 8000000 in
set_option maxRecDepth 100000 in
theorem isoglossref06_Subtags.calls (k : Nat) (a0_0 : ByteArray) (A0_1 : Option Addr) (c0_1 : Nat) (l0_1 : List ByteArray) (a0_2 : ByteArray) (a0_3 : ByteArray) (A0_4 : Option Addr) (c0_4 : Nat) (l0_4 : List ByteArray) (A0_5 : Option Addr) (c0_5 : Nat) (l0_5 : List (S47)) (A0_6 : Option Addr) (c0_6 : Nat) (l0_6 : List ByteArray) (a0_7 : ByteArray) (r : List ByteArray) (w : World) (hr0_1 : Kd.C Kd.string w A0_1 l0_1.length l0_1) (hc0_1 : l0_1.length ≤ c0_1) (hr0_4 : Kd.C Kd.string w A0_4 l0_4.length l0_4) (hc0_4 : l0_4.length ≤ c0_4) (hr0_5 : Kd.C k47 w A0_5 l0_5.length l0_5) (hc0_5 : l0_5.length ≤ c0_5) (hr0_6 : Kd.C Kd.string w A0_6 l0_6.length l0_6) (hc0_6 : l0_6.length ≤ c0_6) (h : isoglossref06_Subtags.f k a0_0 l0_1 a0_2 a0_3 l0_4 l0_5 l0_6 a0_7 = some r) :
  Calls Tryz.prog 40 #[.agg #[.string a0_0, .slice A0_1 l0_1.length c0_1, .string a0_2, .string a0_3, .slice A0_4 l0_4.length c0_4, .slice A0_5 l0_5.length c0_5, .slice A0_6 l0_6.length c0_6, .string a0_7]] w fun e w' => ∃ v0_ : Value, e = .returned (v0_) ∧ Kd.R Kd.string 9 w' w.heap.size (fun _ => True) v0_ r ∧ Below w.heap.size w w' := by
 have hu29 := Tryz.underlying29
 have HR0_1 := Aside0.mk hr0_1
 have HC0_1 := Aside0.mk hc0_1
 clear hr0_1 hc0_1
 have HR0_4 := Aside0.mk hr0_4
 have HC0_4 := Aside0.mk hc0_4
 clear hr0_4 hc0_4
 have HR0_5 := Aside0.mk hr0_5
 have HC0_5 := Aside0.mk hc0_5
 clear hr0_5 hc0_5
 have HR0_6 := Aside0.mk hr0_6
 have HC0_6 := Aside0.mk hc0_6
 clear hr0_6 hc0_6
 have HB := Aside0.mk (Below.refl w.heap.size w)
 have H : (if a0_7.toList = ([] : List UInt8) then (if a0_0.toList = ([] : List UInt8) then (isoglossref06_Subtags.j0 k ([] : List ByteArray) a0_0 l0_1 a0_2 a0_3 l0_4 l0_5 l0_6 a0_7) else (if ([] : List ByteArray).length < 8796093022208 then (isoglossref06_Subtags.j0 k (([] : List ByteArray) ++ [a0_0]) a0_0 l0_1 a0_2 a0_3 l0_4 l0_5 l0_6 a0_7) else (none))) else ((isoglossref04_Split.f k a0_7).bind fun t293 => (some t293))) = some r := h
 clear h
 by_cases c2 : a0_7.toList = ([] : List UInt8)
 ·rw [if_pos c2] at H
  have c2b0 : (a0_7.toList == ([] : List UInt8)) = true := beq_iff_eq.mpr c2
  have c2e0 : a0_7.toList.isEmpty = true := List.isEmpty_iff.2 c2
  have c2e1 : (!a0_7.toList.isEmpty) = false := by rw [c2e0]; rfl
  have c2b1 : (a0_7.toList != ([] : List UInt8)) = false := bne_eq_false_iff_eq.mpr c2
  clear c2
  have HC3 := Aside0.mk H
  clear H
  go_enter Tryz.func40, Tryz.ntmps40
  go_upto_if 17 with (first | ((with_reducible refine gate_dst (N := 1) rfl ?_); refine box_event ?hg (N := 1) ?hd (cs := #[.string a0_0, .slice A0_1 l0_1.length c0_1, .string a0_2, .string a0_3, .slice A0_4 l0_4.length c0_4, .slice A0_5 l0_5.length c0_5, .slice A0_6 l0_6.length c0_6, .string a0_7]) (t := 29) ?hr ?_; (case hd => rfl); (case hg => rfl); (case hr => first | (go_simp; done) | (go_simp; rfl)); intro gb292 hg w4 hbox hb; have n0_ := Aside0.mk (below_step (by repeat (first | (with_reducible first | exact HB.out | apply wA_ | apply wN_ | apply wD_) | exact HB.out)) hb); have n1_ := Aside0.mk (hbox); have n2_ := Aside0.mk ((by rw [hg]; exact (wZ_ (by repeat (first | (with_reducible first | exact HB.out | apply wA_ | apply wN_ | apply wD_) | exact HB.out))) : w.heap.size ≤ gb292)); have n3_ := Aside0.mk ((by rw [hg]; exact (wZ_ (by repeat (first | (with_reducible first | exact HB.out | apply wA_ | apply wN_ | apply wD_) | exact HB.out))) : w.heap.size ≤ gb292)); clear HB; have HB := n0_; have BK292 := n1_; have GW292 := n2_; have GE292 := n3_; clear n0_ n1_ n2_ n3_; clear hb hbox hg; have hcz5_0 : w4.cell? ⟨gb292, 0, none⟩ = some (.string a0_0) := (bC_ BK292.out 0).trans rfl; have hcz5_1 : w4.cell? ⟨gb292, 1, none⟩ = some (.slice A0_1 l0_1.length c0_1) := (bC_ BK292.out 1).trans rfl; have hcz5_2 : w4.cell? ⟨gb292, 2, none⟩ = some (.string a0_2) := (bC_ BK292.out 2).trans rfl; have hcz5_3 : w4.cell? ⟨gb292, 3, none⟩ = some (.string a0_3) := (bC_ BK292.out 3).trans rfl; have hcz5_4 : w4.cell? ⟨gb292, 4, none⟩ = some (.slice A0_4 l0_4.length c0_4) := (bC_ BK292.out 4).trans rfl; have hcz5_5 : w4.cell? ⟨gb292, 5, none⟩ = some (.slice A0_5 l0_5.length c0_5) := (bC_ BK292.out 5).trans rfl; have hcz5_6 : w4.cell? ⟨gb292, 6, none⟩ = some (.slice A0_6 l0_6.length c0_6) := (bC_ BK292.out 6).trans rfl; have hcz5_7 : w4.cell? ⟨gb292, 7, none⟩ = some (.string a0_7) := (bC_ BK292.out 7).trans rfl; have hfz5_0 := bF_ BK292.out 0; have hfz5_1 := bF_ BK292.out 1; have hfz5_2 := bF_ BK292.out 2; have hfz5_3 := bF_ BK292.out 3; have hfz5_4 := bF_ BK292.out 4; have hfz5_5 := bF_ BK292.out 5; have hfz5_6 := bF_ BK292.out 6; have hfz5_7 := bF_ BK292.out 7))
  (try simp only [Act.put, List.setIfInBounds_toArray, List.set_cons_zero, List.set_cons_succ])
  go_cut [3] (fun v3 wc => ∃ (kq : Nat) (x3_2 : List ByteArray), Aside0 (isoglossref06_Subtags.j0 kq x3_2 a0_0 l0_1 a0_2 a0_3 l0_4 l0_5 l0_6 a0_7 = some r) ∧ Aside0 (kq ≤ k) ∧ Aside0 (Kd.R Kd.string 9 wc w.heap.size (fun _ => True) v3 x3_2) ∧ Aside0 (wc.heap[gb292]? = some (.cells #[.string a0_0, (.slice A0_1 l0_1.length c0_1), .string a0_2, .string a0_3, (.slice A0_4 l0_4.length c0_4), (.slice A0_5 l0_5.length c0_5), (.slice A0_6 l0_6.length c0_6), .string a0_7] 29 (0, 0))) ∧ Aside0 (Below w.heap.size w wc))
  case first =>
   have H := HC3.out
   clear HC3
   by_cases c6 : a0_0.toList = ([] : List UInt8)
   ·rw [if_pos c6] at H
    have c6b0 : (a0_0.toList == ([] : List UInt8)) = true := beq_iff_eq.mpr c6
    have c6e0 : a0_0.toList.isEmpty = true := List.isEmpty_iff.2 c6
    have c6e1 : (!a0_0.toList.isEmpty) = false := by rw [c6e0]; rfl
    have c6b1 : (a0_0.toList != ([] : List UInt8)) = false := bne_eq_false_iff_eq.mpr c6
    clear c6
    (first | rw [c6e1] | rw [c6e0] | rw [c6b0] | rw [c6b1] | (simp only [i64_w, i32_w]; rw [c6b0]) | skip)
    have H' := Aside0.mk H
    clear H
    go_wp2
    go_meet
    case rel => exact ⟨_, (([] : List ByteArray)), H', ⟨by first | omega | exact Nat.le_refl _⟩, ⟨by first | exact Kd.R_nil _ _ _ _ _ | exact Kd.N_nil _ _ _ _ _ | exact Kd.V_nil _ _ _ _ _ | exact Kd.Q_nil _ _ _ _ _ | exact Kd.S_nil _ _ _ _ _⟩, ⟨by (with_reducible repeat (first | refine bN_ ?_ _ | refine bD_ ?_ | refine bA_ ?_ _)); exact BK292.out⟩, ⟨by repeat (first | (with_reducible first | exact HB.out | apply wA_ | apply wN_ | apply wD_ | refine wS_ ?_ GE292.out) | exact HB.out)⟩⟩
   ·rw [if_neg c6] at H
    have c6b0 : (a0_0.toList == ([] : List UInt8)) = false := beq_eq_false_iff_ne.mpr c6
    have c6e0 : a0_0.toList.isEmpty = false := List.isEmpty_eq_false_iff.2 c6
    have c6e1 : (!a0_0.toList.isEmpty) = true := by rw [c6e0]; rfl
    have c6b1 : (a0_0.toList != ([] : List UInt8)) = true := bne_iff_ne.mpr c6
    (first | rw [c6e1] | rw [c6e0] | rw [c6b0] | rw [c6b1] | (simp only [i64_w, i32_w]; rw [c6b0]) | skip)
    by_cases c7 : ([] : List ByteArray).length < 8796093022208
    ·rw [if_pos c7] at H
     have LMc7 := Aside0.mk c7
     clear c7
     obtain ⟨y296, hy296⟩ : ∃ y_ : List ByteArray, y_ = (([] : List ByteArray) ++ [a0_0]) := ⟨_, rfl⟩
     replace H : (isoglossref06_Subtags.j0 k y296 a0_0 l0_1 a0_2 a0_3 l0_4 l0_5 l0_6 a0_7) = some r := by first | (rw [hy296]; with_reducible exact H) | (have H2_ := (Option.bind_some _ _).symm.trans H; rw [hy296]; with_reducible exact H2_) | (have H2_ := (Option.bind_some _ _).symm.trans H; with_reducible exact H2_) | with_reducible exact H | (rw [hy296]; exact H) | exact H
     have Ny296 := Aside0.mk hy296
     clear hy296
     have H' := Aside0.mk H
     clear H
     obtain ⟨hcz8_0, hcz8_1, hcz8_2, hcz8_3, hcz8_4, hcz8_5, hcz8_6, hcz8_7, hfz8_0, hfz8_1, hfz8_2, hfz8_3, hfz8_4, hfz8_5, hfz8_6, hfz8_7⟩ := c8_9 BK292.out
     go_wp2_with (first | ((with_reducible refine gate_builtin (b := .append) (xs := #[.tmp 18, .tmp 21]) rfl ?_); at_builtin; refine Kd.R_append Kd.string (w0 := w) w.heap.size rfl (.tmp 18) (.tmp 21) 26 9 (.string ⟨#[]⟩) 16 rfl Tryz.underlying26 info9 rfl (by decide) (by omega) (.slice none 0 0) ([] : List ByteArray) a0_0 [.string a0_0] (fun _ => True) (fun _ => False) rfl rfl ?aP (fun _ hk => hk.elim) ?aF ?aO ?aB ?aS ?aL ?_; (case aP => exact rfl); (case aB => exact (by repeat (first | (with_reducible first | exact HB.out | apply wA_ | apply wN_ | apply wD_ | refine wS_ ?_ GE292.out) | exact HB.out))); (case aF => exact (fun _ _ => trivial)); (case aO => exact ((Kd.R_nil _ _ _ _ (fun _ => True)))); (case aS => exact (wZ_ (by repeat (first | (with_reducible first | exact HB.out | apply wA_ | apply wN_ | apply wD_ | refine wS_ ?_ GE292.out) | exact HB.out)))); (case aL => have := LMc7.out; omega); intro v297 w9 ho hb hg hat; rw [← Ny296.out] at ho; have n0_ := Aside0.mk (blk_grown (g := gb292) (o := .cells #[.string a0_0, .slice A0_1 l0_1.length c0_1, .string a0_2, .string a0_3, .slice A0_4 l0_4.length c0_4, .slice A0_5 l0_5.length c0_5, .slice A0_6 l0_6.length c0_6, .string a0_7] 29 (0, 0)) (by (with_reducible repeat (first | refine bN_ ?_ _ | refine bD_ ?_ | refine bA_ ?_ _)); exact BK292.out) hg (by simp [Value.ownBlock])); have n1_ := Aside0.mk (hb); have n2_ := Aside0.mk (ho); clear BK292; clear HB; have BK292 := n0_; have HB := n1_; have HO298 := n2_; clear n0_ n1_ n2_; clear ho hb hg hat))
     go_meet
     case rel => exact ⟨_, (y296), H', ⟨by first | omega | exact Nat.le_refl _⟩, ⟨by (with_reducible repeat (first | apply rA_ | apply rN_ | apply rD_)); exact HO298.out⟩, ⟨by (with_reducible repeat (first | refine bN_ ?_ _ | refine bD_ ?_ | refine bA_ ?_ _)); exact BK292.out⟩, ⟨by repeat (first | (with_reducible first | exact HB.out | apply wA_ | apply wN_ | apply wD_ | refine wS_ ?_ GE292.out) | exact HB.out)⟩⟩
    ·rw [if_neg c7] at H
     exact absurd H (by simp)
  case rest =>
   clear HC3
   try clear c2; try clear c2b0; try clear c2b1; try clear p2; try clear c4; try clear c6; try clear c6b0; try clear c6b1; try clear c7
   try clear hcz5_0 hcz5_1 hcz5_2 hcz5_3 hcz5_4 hcz5_5 hcz5_6 hcz5_7; try clear hcz8_0 hcz8_1 hcz8_2 hcz8_3 hcz8_4 hcz8_5 hcz8_6 hcz8_7; try clear hfz5_0 hfz5_1 hfz5_2 hfz5_3 hfz5_4 hfz5_5 hfz5_6 hfz5_7; try clear hfz8_0 hfz8_1 hfz8_2 hfz8_3 hfz8_4 hfz8_5 hfz8_6 hfz8_7
   obtain ⟨kq, x3_2, HA, HJ2, HO_3, BK292, HB⟩ := hcut
   cases kq with
   | zero => exact absurd HA.out (by simp [isoglossref06_Subtags.j0])
   | succ kj2 =>
    have H := HA.out
    clear HA
    simp only [isoglossref06_Subtags.j0] at H
    have H' := Aside0.mk H
    clear H
    go_wp2
    go_loopg [3, 4] kj2 (fun kq v3 v4 w' => ∃ (x3_2 : List ByteArray) (x4_2 : Int), v4 = .int .i64 x4_2 ∧ Aside0 (isoglossref06_Subtags.l0 kq x3_2 x4_2 a0_0 l0_1 a0_2 a0_3 l0_4 l0_5 l0_6 a0_7 = some r) ∧ Aside0 (kq ≤ kj2) ∧ Aside0 (Kd.R Kd.string 9 w' w.heap.size (fun _ => True) v3 x3_2) ∧ Aside0 (w'.heap[gb292]? = some (.cells #[.string a0_0, (.slice A0_1 l0_1.length c0_1), .string a0_2, .string a0_3, (.slice A0_4 l0_4.length c0_4), (.slice A0_5 l0_5.length c0_5), (.slice A0_6 l0_6.length c0_6), .string a0_7] 29 (0, 0))) ∧ Aside0 (Below w.heap.size w w'))
    case atStart => exact ⟨(x3_2), (0), (by first | rfl | (simp; done) | (simp [*]; done)), H', ⟨Nat.le_refl _⟩, ⟨by (with_reducible repeat (first | apply rA_ | apply rN_ | apply rD_)); exact HO_3.out⟩, ⟨by (with_reducible repeat (first | refine bN_ ?_ _ | refine bD_ ?_ | refine bA_ ?_ _)); exact BK292.out⟩, ⟨by repeat (first | (with_reducible first | exact HB.out | apply wA_ | apply wN_ | apply wD_ | refine wS_ ?_ GE292.out) | exact HB.out)⟩⟩
    case round =>
     clear H'
     try clear c2; try clear c2b0; try clear c2b1; try clear p2; try clear c4; try clear c6; try clear c6b0; try clear c6b1; try clear c7
     try clear hcz5_0 hcz5_1 hcz5_2 hcz5_3 hcz5_4 hcz5_5 hcz5_6 hcz5_7; try clear hcz8_0 hcz8_1 hcz8_2 hcz8_3 hcz8_4 hcz8_5 hcz8_6 hcz8_7; try clear hfz5_0 hfz5_1 hfz5_2 hfz5_3 hfz5_4 hfz5_5 hfz5_6 hfz5_7; try clear hfz8_0 hfz8_1 hfz8_2 hfz8_3 hfz8_4 hfz8_5 hfz8_6 hfz8_7
     try clear p2
     obtain ⟨x3_2, x4_2, rfl, HA, HK2, HO_3, BK292, HB⟩ := hrel
     cases gk with
     | zero => exact absurd HA.out (by simp [isoglossref06_Subtags.l0])
     | succ k2 =>
      have H := HA.out
      clear HA
      simp only [isoglossref06_Subtags.l0] at H
      by_cases c10 : x4_2 < (l0_1.length : Int)
      ·rw [if_pos c10] at H
       have c10b0 : decide (x4_2 < (l0_1.length : Int)) = true := decide_eq_true c10
       clear c10
       by_cases c11 : 0 ≤ x4_2
       ·rw [if_pos c11] at H
        have c11b0 : decide (0 ≤ x4_2) = true := decide_eq_true c11
        clear c11
        by_cases c12 : x3_2.length < 8796093022208
        ·rw [if_pos c12] at H
         have LMc12 := Aside0.mk c12
         clear c12
         obtain ⟨y300, hy300⟩ : ∃ y_ : List ByteArray, y_ = (x3_2 ++ [rdOf ByteArray.empty l0_1 x4_2]) := ⟨_, rfl⟩
         replace H : (isoglossref06_Subtags.l0 k2 y300 (wrap64 (x4_2 + 1)) a0_0 l0_1 a0_2 a0_3 l0_4 l0_5 l0_6 a0_7) = some r := by first | (rw [hy300]; with_reducible exact H) | (have H2_ := (Option.bind_some _ _).symm.trans H; rw [hy300]; with_reducible exact H2_) | (have H2_ := (Option.bind_some _ _).symm.trans H; with_reducible exact H2_) | with_reducible exact H | (rw [hy300]; exact H) | exact H
         have Ny300 := Aside0.mk hy300
         clear hy300
         have H' := Aside0.mk H
         clear H
         obtain ⟨hcz13_0, hcz13_1, hcz13_2, hcz13_3, hcz13_4, hcz13_5, hcz13_6, hcz13_7, hfz13_0, hfz13_1, hfz13_2, hfz13_3, hfz13_4, hfz13_5, hfz13_6, hfz13_7⟩ := c8_9 BK292.out
         have p299 : 0 ≤ (x4_2 : Int) := of_decide_eq_true (by first | (with_reducible assumption) | assumption)
         have q299 : x4_2 < (l0_1.length : Int) := of_decide_eq_true (by first | (with_reducible assumption) | assumption)
         obtain ⟨ad299, e299, hx299_0⟩ := Kd.at_string HR0_1.out x4_2 p299 q299
         cases e299
         replace hx299_0 := (HB.out.cell (World.block_lt_of_cell? w _ hx299_0)).trans hx299_0
         replace p299 := eq_true p299
         replace q299 := eq_true q299
         go_wp2_with (first | ((with_reducible refine gate_builtin (b := .append) (xs := #[.tmp 30, .tmp 36]) rfl ?_); at_builtin; refine Kd.R_append Kd.string (w0 := w) w.heap.size rfl (.tmp 30) (.tmp 36) 26 9 (.string ⟨#[]⟩) 16 rfl Tryz.underlying26 info9 rfl (by decide) (by omega) u3 x3_2 (rdOf ByteArray.empty l0_1 x4_2) [.string (rdOf ByteArray.empty l0_1 x4_2)] (fun _ => True) (fun _ => False) rfl rfl ?aP (fun _ hk => hk.elim) ?aF ?aO ?aB ?aS ?aL ?_; (case aP => exact rfl); (case aB => exact (by repeat (first | (with_reducible first | exact HB.out | apply wA_ | apply wN_ | apply wD_ | refine wS_ ?_ GE292.out) | exact HB.out))); (case aF => exact (fun _ _ => trivial)); (case aO => exact (by (with_reducible repeat (first | apply rA_ | apply rN_ | apply rD_)); exact HO_3.out)); (case aS => exact (wZ_ (by repeat (first | (with_reducible first | exact HB.out | apply wA_ | apply wN_ | apply wD_ | refine wS_ ?_ GE292.out) | exact HB.out)))); (case aL => have := LMc12.out; omega); intro v301 w14 ho hb hg hat; rw [← Ny300.out] at ho; have n0_ := Aside0.mk (blk_grown (g := gb292) (o := .cells #[.string a0_0, .slice (some ad299) l0_1.length c0_1, .string a0_2, .string a0_3, .slice A0_4 l0_4.length c0_4, .slice A0_5 l0_5.length c0_5, .slice A0_6 l0_6.length c0_6, .string a0_7] 29 (0, 0)) (by (with_reducible repeat (first | refine bN_ ?_ _ | refine bD_ ?_ | refine bA_ ?_ _)); exact BK292.out) hg (Kd.R_ne HO_3.out BK292.out (by decide))); have n1_ := Aside0.mk (hb); have n2_ := Aside0.mk (ho); clear BK292; clear HB; clear HO_3; have BK292 := n0_; have HB := n1_; have HO302 := n2_; clear n0_ n1_ n2_; clear ho hb hg hat))
         go_roundg k2
         case measure => have := HJ2.out; have := HK2.out; omega
         case rel => exact ⟨(y300), (wrap64 (x4_2 + 1)), (by first | rfl | (simp; done) | (simp [*]; done)), H', ⟨by have := HJ2.out; have := HK2.out; omega⟩, ⟨by (with_reducible repeat (first | apply rA_ | apply rN_ | apply rD_)); exact HO302.out⟩, ⟨by (with_reducible repeat (first | refine bN_ ?_ _ | refine bD_ ?_ | refine bA_ ?_ _)); exact BK292.out⟩, ⟨by repeat (first | (with_reducible first | exact HB.out | apply wA_ | apply wN_ | apply wD_ | refine wS_ ?_ GE292.out) | exact HB.out)⟩⟩
        ·rw [if_neg c12] at H
         exact absurd H (by simp)
       ·rw [if_neg c11] at H
        exact absurd H (by simp)
      ·rw [if_neg c10] at H
       have c10b0 : decide (x4_2 < (l0_1.length : Int)) = false := decide_eq_false c10
       clear c10
       have HC15 := Aside0.mk H
       clear H
       obtain ⟨hcz16_0, hcz16_1, hcz16_2, hcz16_3, hcz16_4, hcz16_5, hcz16_6, hcz16_7, hfz16_0, hfz16_1, hfz16_2, hfz16_3, hfz16_4, hfz16_5, hfz16_6, hfz16_7⟩ := c8_9 BK292.out
       go_upto_if 40 with (fail)
       go_cut [3] (fun v3 wc => ∃ (kq : Nat) (x3_14 : List ByteArray), Aside0 (isoglossref06_Subtags.j2 kq x3_14 a0_0 l0_1 a0_2 a0_3 l0_4 l0_5 l0_6 a0_7 = some r) ∧ Aside0 (kq ≤ k2) ∧ Aside0 (Kd.R Kd.string 9 wc w.heap.size (fun _ => True) v3 x3_14) ∧ Aside0 (wc.heap[gb292]? = some (.cells #[.string a0_0, (.slice A0_1 l0_1.length c0_1), .string a0_2, .string a0_3, (.slice A0_4 l0_4.length c0_4), (.slice A0_5 l0_5.length c0_5), (.slice A0_6 l0_6.length c0_6), .string a0_7] 29 (0, 0))) ∧ Aside0 (Below w.heap.size w wc))
       case first =>
        have H := HC15.out
        clear HC15
        by_cases c17 : a0_2.toList = ([] : List UInt8)
        ·rw [if_pos c17] at H
         have c17b0 : (a0_2.toList == ([] : List UInt8)) = true := beq_iff_eq.mpr c17
         have c17e0 : a0_2.toList.isEmpty = true := List.isEmpty_iff.2 c17
         have c17e1 : (!a0_2.toList.isEmpty) = false := by rw [c17e0]; rfl
         have c17b1 : (a0_2.toList != ([] : List UInt8)) = false := bne_eq_false_iff_eq.mpr c17
         clear c17
         (first | rw [c17e1] | rw [c17e0] | rw [c17b0] | rw [c17b1] | (simp only [i64_w, i32_w]; rw [c17b0]) | skip)
         have H' := Aside0.mk H
         clear H
         go_wp2
         go_meet
         case rel => exact ⟨_, (x3_2), H', ⟨by have := HJ2.out; have := HK2.out; first | omega | exact Nat.le_refl _⟩, ⟨by (with_reducible repeat (first | apply rA_ | apply rN_ | apply rD_)); exact HO_3.out⟩, ⟨by (with_reducible repeat (first | refine bN_ ?_ _ | refine bD_ ?_ | refine bA_ ?_ _)); exact BK292.out⟩, ⟨by repeat (first | (with_reducible first | exact HB.out | apply wA_ | apply wN_ | apply wD_ | refine wS_ ?_ GE292.out) | exact HB.out)⟩⟩
        ·rw [if_neg c17] at H
         have c17b0 : (a0_2.toList == ([] : List UInt8)) = false := beq_eq_false_iff_ne.mpr c17
         have c17e0 : a0_2.toList.isEmpty = false := List.isEmpty_eq_false_iff.2 c17
         have c17e1 : (!a0_2.toList.isEmpty) = true := by rw [c17e0]; rfl
         have c17b1 : (a0_2.toList != ([] : List UInt8)) = true := bne_iff_ne.mpr c17
         (first | rw [c17e1] | rw [c17e0] | rw [c17b0] | rw [c17b1] | (simp only [i64_w, i32_w]; rw [c17b0]) | skip)
         by_cases c18 : x3_2.length < 8796093022208
         ·rw [if_pos c18] at H
          have LMc18 := Aside0.mk c18
          clear c18
          obtain ⟨y303, hy303⟩ : ∃ y_ : List ByteArray, y_ = (x3_2 ++ [a0_2]) := ⟨_, rfl⟩
          replace H : (isoglossref06_Subtags.j2 k2 y303 a0_0 l0_1 a0_2 a0_3 l0_4 l0_5 l0_6 a0_7) = some r := by first | (rw [hy303]; with_reducible exact H) | (have H2_ := (Option.bind_some _ _).symm.trans H; rw [hy303]; with_reducible exact H2_) | (have H2_ := (Option.bind_some _ _).symm.trans H; with_reducible exact H2_) | with_reducible exact H | (rw [hy303]; exact H) | exact H
          have Ny303 := Aside0.mk hy303
          clear hy303
          have H' := Aside0.mk H
          clear H
          obtain ⟨hcz19_0, hcz19_1, hcz19_2, hcz19_3, hcz19_4, hcz19_5, hcz19_6, hcz19_7, hfz19_0, hfz19_1, hfz19_2, hfz19_3, hfz19_4, hfz19_5, hfz19_6, hfz19_7⟩ := c8_9 BK292.out
          go_wp2_with (first | ((with_reducible refine gate_builtin (b := .append) (xs := #[.tmp 41, .tmp 44]) rfl ?_); at_builtin; refine Kd.R_append Kd.string (w0 := w) w.heap.size rfl (.tmp 41) (.tmp 44) 26 9 (.string ⟨#[]⟩) 16 rfl Tryz.underlying26 info9 rfl (by decide) (by omega) u3 x3_2 a0_2 [.string a0_2] (fun _ => True) (fun _ => False) rfl rfl ?aP (fun _ hk => hk.elim) ?aF ?aO ?aB ?aS ?aL ?_; (case aP => exact rfl); (case aB => exact (by repeat (first | (with_reducible first | exact HB.out | apply wA_ | apply wN_ | apply wD_ | refine wS_ ?_ GE292.out) | exact HB.out))); (case aF => exact (fun _ _ => trivial)); (case aO => exact (by (with_reducible repeat (first | apply rA_ | apply rN_ | apply rD_)); exact HO_3.out)); (case aS => exact (wZ_ (by repeat (first | (with_reducible first | exact HB.out | apply wA_ | apply wN_ | apply wD_ | refine wS_ ?_ GE292.out) | exact HB.out)))); (case aL => have := LMc18.out; omega); intro v304 w20 ho hb hg hat; rw [← Ny303.out] at ho; have n0_ := Aside0.mk (blk_grown (g := gb292) (o := .cells #[.string a0_0, .slice A0_1 l0_1.length c0_1, .string a0_2, .string a0_3, .slice A0_4 l0_4.length c0_4, .slice A0_5 l0_5.length c0_5, .slice A0_6 l0_6.length c0_6, .string a0_7] 29 (0, 0)) (by (with_reducible repeat (first | refine bN_ ?_ _ | refine bD_ ?_ | refine bA_ ?_ _)); exact BK292.out) hg (Kd.R_ne HO_3.out BK292.out (by decide))); have n1_ := Aside0.mk (hb); have n2_ := Aside0.mk (ho); clear BK292; clear HB; clear HO_3; have BK292 := n0_; have HB := n1_; have HO305 := n2_; clear n0_ n1_ n2_; clear ho hb hg hat))
          go_meet
          case rel => exact ⟨_, (y303), H', ⟨by have := HJ2.out; have := HK2.out; first | omega | exact Nat.le_refl _⟩, ⟨by (with_reducible repeat (first | apply rA_ | apply rN_ | apply rD_)); exact HO305.out⟩, ⟨by (with_reducible repeat (first | refine bN_ ?_ _ | refine bD_ ?_ | refine bA_ ?_ _)); exact BK292.out⟩, ⟨by repeat (first | (with_reducible first | exact HB.out | apply wA_ | apply wN_ | apply wD_ | refine wS_ ?_ GE292.out) | exact HB.out)⟩⟩
         ·rw [if_neg c18] at H
          exact absurd H (by simp)
       case rest =>
        clear HC15
        try clear c1; try clear c2; try clear c2b0; try clear c2b1; try clear p2; try clear q2; try clear hx2; try clear c4; try clear c6; try clear c6b0; try clear c6b1; try clear p6; try clear c7; try clear c10; try clear c10b0; try clear c11; try clear c11b0; try clear c12; try clear c17; try clear c17b0; try clear c17b1; try clear c18
        try clear hcz13_0 hcz13_1 hcz13_2 hcz13_3 hcz13_4 hcz13_5 hcz13_6 hcz13_7; try clear hcz16_0 hcz16_1 hcz16_2 hcz16_3 hcz16_4 hcz16_5 hcz16_6 hcz16_7; try clear hcz19_0 hcz19_1 hcz19_2 hcz19_3 hcz19_4 hcz19_5 hcz19_6 hcz19_7; try clear hcz5_0 hcz5_1 hcz5_2 hcz5_3 hcz5_4 hcz5_5 hcz5_6 hcz5_7; try clear hcz8_0 hcz8_1 hcz8_2 hcz8_3 hcz8_4 hcz8_5 hcz8_6 hcz8_7; try clear hfz13_0 hfz13_1 hfz13_2 hfz13_3 hfz13_4 hfz13_5 hfz13_6 hfz13_7; try clear hfz16_0 hfz16_1 hfz16_2 hfz16_3 hfz16_4 hfz16_5 hfz16_6 hfz16_7; try clear hfz19_0 hfz19_1 hfz19_2 hfz19_3 hfz19_4 hfz19_5 hfz19_6 hfz19_7; try clear hfz5_0 hfz5_1 hfz5_2 hfz5_3 hfz5_4 hfz5_5 hfz5_6 hfz5_7; try clear hfz8_0 hfz8_1 hfz8_2 hfz8_3 hfz8_4 hfz8_5 hfz8_6 hfz8_7
        try clear hx299_0; try clear p2; try clear p299; try clear q299
        obtain ⟨kq, x3_14, HA, HJ14, HO_3, BK292, HB⟩ := hcut
        cases kq with
        | zero => exact absurd HA.out (by simp [isoglossref06_Subtags.j2])
        | succ kj14 =>
         have H := HA.out
         clear HA
         simp only [isoglossref06_Subtags.j2] at H
         have HC21 := Aside0.mk H
         clear H
         obtain ⟨hcz22_0, hcz22_1, hcz22_2, hcz22_3, hcz22_4, hcz22_5, hcz22_6, hcz22_7, hfz22_0, hfz22_1, hfz22_2, hfz22_3, hfz22_4, hfz22_5, hfz22_6, hfz22_7⟩ := c8_9 BK292.out
         go_upto_if 48 with (fail)
         go_cut [3] (fun v3 wc => ∃ (kq : Nat) (x3_20 : List ByteArray), Aside0 (isoglossref06_Subtags.j3 kq x3_20 a0_0 l0_1 a0_2 a0_3 l0_4 l0_5 l0_6 a0_7 = some r) ∧ Aside0 (kq ≤ kj14) ∧ Aside0 (Kd.R Kd.string 9 wc w.heap.size (fun _ => True) v3 x3_20) ∧ Aside0 (wc.heap[gb292]? = some (.cells #[.string a0_0, (.slice A0_1 l0_1.length c0_1), .string a0_2, .string a0_3, (.slice A0_4 l0_4.length c0_4), (.slice A0_5 l0_5.length c0_5), (.slice A0_6 l0_6.length c0_6), .string a0_7] 29 (0, 0))) ∧ Aside0 (Below w.heap.size w wc))
         case first =>
          have H := HC21.out
          clear HC21
          by_cases c23 : a0_3.toList = ([] : List UInt8)
          ·rw [if_pos c23] at H
           have c23b0 : (a0_3.toList == ([] : List UInt8)) = true := beq_iff_eq.mpr c23
           have c23e0 : a0_3.toList.isEmpty = true := List.isEmpty_iff.2 c23
           have c23e1 : (!a0_3.toList.isEmpty) = false := by rw [c23e0]; rfl
           have c23b1 : (a0_3.toList != ([] : List UInt8)) = false := bne_eq_false_iff_eq.mpr c23
           clear c23
           (first | rw [c23e1] | rw [c23e0] | rw [c23b0] | rw [c23b1] | (simp only [i64_w, i32_w]; rw [c23b0]) | skip)
           have H' := Aside0.mk H
           clear H
           go_wp2
           go_meet
           case rel => exact ⟨_, (x3_14), H', ⟨by have := HJ2.out; have := HK2.out; have := HJ14.out; first | omega | exact Nat.le_refl _⟩, ⟨by (with_reducible repeat (first | apply rA_ | apply rN_ | apply rD_)); exact HO_3.out⟩, ⟨by (with_reducible repeat (first | refine bN_ ?_ _ | refine bD_ ?_ | refine bA_ ?_ _)); exact BK292.out⟩, ⟨by repeat (first | (with_reducible first | exact HB.out | apply wA_ | apply wN_ | apply wD_ | refine wS_ ?_ GE292.out) | exact HB.out)⟩⟩
          ·rw [if_neg c23] at H
           have c23b0 : (a0_3.toList == ([] : List UInt8)) = false := beq_eq_false_iff_ne.mpr c23
           have c23e0 : a0_3.toList.isEmpty = false := List.isEmpty_eq_false_iff.2 c23
           have c23e1 : (!a0_3.toList.isEmpty) = true := by rw [c23e0]; rfl
           have c23b1 : (a0_3.toList != ([] : List UInt8)) = true := bne_iff_ne.mpr c23
           (first | rw [c23e1] | rw [c23e0] | rw [c23b0] | rw [c23b1] | (simp only [i64_w, i32_w]; rw [c23b0]) | skip)
           by_cases c24 : x3_14.length < 8796093022208
           ·rw [if_pos c24] at H
            have LMc24 := Aside0.mk c24
            clear c24
            obtain ⟨y306, hy306⟩ : ∃ y_ : List ByteArray, y_ = (x3_14 ++ [a0_3]) := ⟨_, rfl⟩
            replace H : (isoglossref06_Subtags.j3 kj14 y306 a0_0 l0_1 a0_2 a0_3 l0_4 l0_5 l0_6 a0_7) = some r := by first | (rw [hy306]; with_reducible exact H) | (have H2_ := (Option.bind_some _ _).symm.trans H; rw [hy306]; with_reducible exact H2_) | (have H2_ := (Option.bind_some _ _).symm.trans H; with_reducible exact H2_) | with_reducible exact H | (rw [hy306]; exact H) | exact H
            have Ny306 := Aside0.mk hy306
            clear hy306
            have H' := Aside0.mk H
            clear H
            obtain ⟨hcz25_0, hcz25_1, hcz25_2, hcz25_3, hcz25_4, hcz25_5, hcz25_6, hcz25_7, hfz25_0, hfz25_1, hfz25_2, hfz25_3, hfz25_4, hfz25_5, hfz25_6, hfz25_7⟩ := c8_9 BK292.out
            go_wp2_with (first | ((with_reducible refine gate_builtin (b := .append) (xs := #[.tmp 49, .tmp 52]) rfl ?_); at_builtin; refine Kd.R_append Kd.string (w0 := w) w.heap.size rfl (.tmp 49) (.tmp 52) 26 9 (.string ⟨#[]⟩) 16 rfl Tryz.underlying26 info9 rfl (by decide) (by omega) u3 x3_14 a0_3 [.string a0_3] (fun _ => True) (fun _ => False) rfl rfl ?aP (fun _ hk => hk.elim) ?aF ?aO ?aB ?aS ?aL ?_; (case aP => exact rfl); (case aB => exact (by repeat (first | (with_reducible first | exact HB.out | apply wA_ | apply wN_ | apply wD_ | refine wS_ ?_ GE292.out) | exact HB.out))); (case aF => exact (fun _ _ => trivial)); (case aO => exact (by (with_reducible repeat (first | apply rA_ | apply rN_ | apply rD_)); exact HO_3.out)); (case aS => exact (wZ_ (by repeat (first | (with_reducible first | exact HB.out | apply wA_ | apply wN_ | apply wD_ | refine wS_ ?_ GE292.out) | exact HB.out)))); (case aL => have := LMc24.out; omega); intro v307 w26 ho hb hg hat; rw [← Ny306.out] at ho; have n0_ := Aside0.mk (blk_grown (g := gb292) (o := .cells #[.string a0_0, .slice A0_1 l0_1.length c0_1, .string a0_2, .string a0_3, .slice A0_4 l0_4.length c0_4, .slice A0_5 l0_5.length c0_5, .slice A0_6 l0_6.length c0_6, .string a0_7] 29 (0, 0)) (by (with_reducible repeat (first | refine bN_ ?_ _ | refine bD_ ?_ | refine bA_ ?_ _)); exact BK292.out) hg (Kd.R_ne HO_3.out BK292.out (by decide))); have n1_ := Aside0.mk (hb); have n2_ := Aside0.mk (ho); clear BK292; clear HB; clear HO_3; have BK292 := n0_; have HB := n1_; have HO308 := n2_; clear n0_ n1_ n2_; clear ho hb hg hat))
            go_meet
            case rel => exact ⟨_, (y306), H', ⟨by have := HJ2.out; have := HK2.out; have := HJ14.out; first | omega | exact Nat.le_refl _⟩, ⟨by (with_reducible repeat (first | apply rA_ | apply rN_ | apply rD_)); exact HO308.out⟩, ⟨by (with_reducible repeat (first | refine bN_ ?_ _ | refine bD_ ?_ | refine bA_ ?_ _)); exact BK292.out⟩, ⟨by repeat (first | (with_reducible first | exact HB.out | apply wA_ | apply wN_ | apply wD_ | refine wS_ ?_ GE292.out) | exact HB.out)⟩⟩
           ·rw [if_neg c24] at H
            exact absurd H (by simp)
         case rest =>
          clear HC21
          try clear c1; try clear c2; try clear c2b0; try clear c2b1; try clear p2; try clear q2; try clear hx2; try clear c4; try clear c6; try clear c6b0; try clear c6b1; try clear p6; try clear c7; try clear c10; try clear c10b0; try clear c11; try clear c11b0; try clear c12; try clear c17; try clear c17b0; try clear c17b1; try clear c18; try clear c23; try clear c23b0; try clear c23b1; try clear c24
          try clear hcz13_0 hcz13_1 hcz13_2 hcz13_3 hcz13_4 hcz13_5 hcz13_6 hcz13_7; try clear hcz16_0 hcz16_1 hcz16_2 hcz16_3 hcz16_4 hcz16_5 hcz16_6 hcz16_7; try clear hcz19_0 hcz19_1 hcz19_2 hcz19_3 hcz19_4 hcz19_5 hcz19_6 hcz19_7; try clear hcz22_0 hcz22_1 hcz22_2 hcz22_3 hcz22_4 hcz22_5 hcz22_6 hcz22_7; try clear hcz25_0 hcz25_1 hcz25_2 hcz25_3 hcz25_4 hcz25_5 hcz25_6 hcz25_7; try clear hcz5_0 hcz5_1 hcz5_2 hcz5_3 hcz5_4 hcz5_5 hcz5_6 hcz5_7; try clear hcz8_0 hcz8_1 hcz8_2 hcz8_3 hcz8_4 hcz8_5 hcz8_6 hcz8_7; try clear hfz13_0 hfz13_1 hfz13_2 hfz13_3 hfz13_4 hfz13_5 hfz13_6 hfz13_7; try clear hfz16_0 hfz16_1 hfz16_2 hfz16_3 hfz16_4 hfz16_5 hfz16_6 hfz16_7; try clear hfz19_0 hfz19_1 hfz19_2 hfz19_3 hfz19_4 hfz19_5 hfz19_6 hfz19_7; try clear hfz22_0 hfz22_1 hfz22_2 hfz22_3 hfz22_4 hfz22_5 hfz22_6 hfz22_7; try clear hfz25_0 hfz25_1 hfz25_2 hfz25_3 hfz25_4 hfz25_5 hfz25_6 hfz25_7; try clear hfz5_0 hfz5_1 hfz5_2 hfz5_3 hfz5_4 hfz5_5 hfz5_6 hfz5_7; try clear hfz8_0 hfz8_1 hfz8_2 hfz8_3 hfz8_4 hfz8_5 hfz8_6 hfz8_7
          try clear hx299_0; try clear p2; try clear p299; try clear p6; try clear q2; try clear q299
          obtain ⟨kq, x3_20, HA, HJ20, HO_3, BK292, HB⟩ := hcut
          cases kq with
          | zero => exact absurd HA.out (by simp [isoglossref06_Subtags.j3])
          | succ kj20 =>
           have H := HA.out
           clear HA
           simp only [isoglossref06_Subtags.j3] at H
           have H' := Aside0.mk H
           clear H
           go_wp2
           go_loopg [3, 5] kj20 (fun kq v3 v5 w' => ∃ (x3_5 : List ByteArray) (x5_5 : Int), v5 = .int .i64 x5_5 ∧ Aside0 (isoglossref06_Subtags.l1 kq x3_5 x5_5 a0_0 l0_1 a0_2 a0_3 l0_4 l0_5 l0_6 a0_7 = some r) ∧ Aside0 (kq ≤ kj20) ∧ Aside0 (Kd.R Kd.string 9 w' w.heap.size (fun _ => True) v3 x3_5) ∧ Aside0 (w'.heap[gb292]? = some (.cells #[.string a0_0, (.slice A0_1 l0_1.length c0_1), .string a0_2, .string a0_3, (.slice A0_4 l0_4.length c0_4), (.slice A0_5 l0_5.length c0_5), (.slice A0_6 l0_6.length c0_6), .string a0_7] 29 (0, 0))) ∧ Aside0 (Below w.heap.size w w'))
           case atStart => exact ⟨(x3_20), (0), (by first | rfl | (simp; done) | (simp [*]; done)), H', ⟨Nat.le_refl _⟩, ⟨by (with_reducible repeat (first | apply rA_ | apply rN_ | apply rD_)); exact HO_3.out⟩, ⟨by (with_reducible repeat (first | refine bN_ ?_ _ | refine bD_ ?_ | refine bA_ ?_ _)); exact BK292.out⟩, ⟨by repeat (first | (with_reducible first | exact HB.out | apply wA_ | apply wN_ | apply wD_ | refine wS_ ?_ GE292.out) | exact HB.out)⟩⟩
           case round =>
            clear H'
            try clear c1; try clear c2; try clear c2b0; try clear c2b1; try clear p2; try clear q2; try clear hx2; try clear c4; try clear c6; try clear c6b0; try clear c6b1; try clear p6; try clear c7; try clear c10; try clear c10b0; try clear c11; try clear c11b0; try clear c12; try clear c17; try clear c17b0; try clear c17b1; try clear c18; try clear c23; try clear c23b0; try clear c23b1; try clear c24
            try clear hcz13_0 hcz13_1 hcz13_2 hcz13_3 hcz13_4 hcz13_5 hcz13_6 hcz13_7; try clear hcz16_0 hcz16_1 hcz16_2 hcz16_3 hcz16_4 hcz16_5 hcz16_6 hcz16_7; try clear hcz19_0 hcz19_1 hcz19_2 hcz19_3 hcz19_4 hcz19_5 hcz19_6 hcz19_7; try clear hcz22_0 hcz22_1 hcz22_2 hcz22_3 hcz22_4 hcz22_5 hcz22_6 hcz22_7; try clear hcz25_0 hcz25_1 hcz25_2 hcz25_3 hcz25_4 hcz25_5 hcz25_6 hcz25_7; try clear hcz5_0 hcz5_1 hcz5_2 hcz5_3 hcz5_4 hcz5_5 hcz5_6 hcz5_7; try clear hcz8_0 hcz8_1 hcz8_2 hcz8_3 hcz8_4 hcz8_5 hcz8_6 hcz8_7; try clear hfz13_0 hfz13_1 hfz13_2 hfz13_3 hfz13_4 hfz13_5 hfz13_6 hfz13_7; try clear hfz16_0 hfz16_1 hfz16_2 hfz16_3 hfz16_4 hfz16_5 hfz16_6 hfz16_7; try clear hfz19_0 hfz19_1 hfz19_2 hfz19_3 hfz19_4 hfz19_5 hfz19_6 hfz19_7; try clear hfz22_0 hfz22_1 hfz22_2 hfz22_3 hfz22_4 hfz22_5 hfz22_6 hfz22_7; try clear hfz25_0 hfz25_1 hfz25_2 hfz25_3 hfz25_4 hfz25_5 hfz25_6 hfz25_7; try clear hfz5_0 hfz5_1 hfz5_2 hfz5_3 hfz5_4 hfz5_5 hfz5_6 hfz5_7; try clear hfz8_0 hfz8_1 hfz8_2 hfz8_3 hfz8_4 hfz8_5 hfz8_6 hfz8_7
            try clear hx299_0; try clear p2; try clear p299; try clear p6; try clear q2; try clear q299
            obtain ⟨x3_5, x5_5, rfl, HA, HK5, HO_3, BK292, HB⟩ := hrel
            cases gk with
            | zero => exact absurd HA.out (by simp [isoglossref06_Subtags.l1])
            | succ k5 =>
             have H := HA.out
             clear HA
             simp only [isoglossref06_Subtags.l1] at H
             by_cases c27 : x5_5 < (l0_4.length : Int)
             ·rw [if_pos c27] at H
              have c27b0 : decide (x5_5 < (l0_4.length : Int)) = true := decide_eq_true c27
              clear c27
              by_cases c28 : 0 ≤ x5_5
              ·rw [if_pos c28] at H
               have c28b0 : decide (0 ≤ x5_5) = true := decide_eq_true c28
               clear c28
               by_cases c29 : x3_5.length < 8796093022208
               ·rw [if_pos c29] at H
                have LMc29 := Aside0.mk c29
                clear c29
                obtain ⟨y310, hy310⟩ : ∃ y_ : List ByteArray, y_ = (x3_5 ++ [rdOf ByteArray.empty l0_4 x5_5]) := ⟨_, rfl⟩
                replace H : (isoglossref06_Subtags.l1 k5 y310 (wrap64 (x5_5 + 1)) a0_0 l0_1 a0_2 a0_3 l0_4 l0_5 l0_6 a0_7) = some r := by first | (rw [hy310]; with_reducible exact H) | (have H2_ := (Option.bind_some _ _).symm.trans H; rw [hy310]; with_reducible exact H2_) | (have H2_ := (Option.bind_some _ _).symm.trans H; with_reducible exact H2_) | with_reducible exact H | (rw [hy310]; exact H) | exact H
                have Ny310 := Aside0.mk hy310
                clear hy310
                have H' := Aside0.mk H
                clear H
                obtain ⟨hcz30_0, hcz30_1, hcz30_2, hcz30_3, hcz30_4, hcz30_5, hcz30_6, hcz30_7, hfz30_0, hfz30_1, hfz30_2, hfz30_3, hfz30_4, hfz30_5, hfz30_6, hfz30_7⟩ := c8_9 BK292.out
                have p309 : 0 ≤ (x5_5 : Int) := of_decide_eq_true (by first | (with_reducible assumption) | assumption)
                have q309 : x5_5 < (l0_4.length : Int) := of_decide_eq_true (by first | (with_reducible assumption) | assumption)
                obtain ⟨ad309, e309, hx309_0⟩ := Kd.at_string HR0_4.out x5_5 p309 q309
                cases e309
                replace hx309_0 := (HB.out.cell (World.block_lt_of_cell? w _ hx309_0)).trans hx309_0
                replace p309 := eq_true p309
                replace q309 := eq_true q309
                go_wp2_with (first | ((with_reducible refine gate_builtin (b := .append) (xs := #[.tmp 61, .tmp 67]) rfl ?_); at_builtin; refine Kd.R_append Kd.string (w0 := w) w.heap.size rfl (.tmp 61) (.tmp 67) 26 9 (.string ⟨#[]⟩) 16 rfl Tryz.underlying26 info9 rfl (by decide) (by omega) u3 x3_5 (rdOf ByteArray.empty l0_4 x5_5) [.string (rdOf ByteArray.empty l0_4 x5_5)] (fun _ => True) (fun _ => False) rfl rfl ?aP (fun _ hk => hk.elim) ?aF ?aO ?aB ?aS ?aL ?_; (case aP => exact rfl); (case aB => exact (by repeat (first | (with_reducible first | exact HB.out | apply wA_ | apply wN_ | apply wD_ | refine wS_ ?_ GE292.out) | exact HB.out))); (case aF => exact (fun _ _ => trivial)); (case aO => exact (by (with_reducible repeat (first | apply rA_ | apply rN_ | apply rD_)); exact HO_3.out)); (case aS => exact (wZ_ (by repeat (first | (with_reducible first | exact HB.out | apply wA_ | apply wN_ | apply wD_ | refine wS_ ?_ GE292.out) | exact HB.out)))); (case aL => have := LMc29.out; omega); intro v311 w31 ho hb hg hat; rw [← Ny310.out] at ho; have n0_ := Aside0.mk (blk_grown (g := gb292) (o := .cells #[.string a0_0, .slice A0_1 l0_1.length c0_1, .string a0_2, .string a0_3, .slice (some ad309) l0_4.length c0_4, .slice A0_5 l0_5.length c0_5, .slice A0_6 l0_6.length c0_6, .string a0_7] 29 (0, 0)) (by (with_reducible repeat (first | refine bN_ ?_ _ | refine bD_ ?_ | refine bA_ ?_ _)); exact BK292.out) hg (Kd.R_ne HO_3.out BK292.out (by decide))); have n1_ := Aside0.mk (hb); have n2_ := Aside0.mk (ho); clear BK292; clear HB; clear HO_3; have BK292 := n0_; have HB := n1_; have HO312 := n2_; clear n0_ n1_ n2_; clear ho hb hg hat))
                go_roundg k5
                case measure => have := HJ2.out; have := HK2.out; have := HJ14.out; have := HJ20.out; have := HK5.out; omega
                case rel => exact ⟨(y310), (wrap64 (x5_5 + 1)), (by first | rfl | (simp; done) | (simp [*]; done)), H', ⟨by have := HJ2.out; have := HK2.out; have := HJ14.out; have := HJ20.out; have := HK5.out; omega⟩, ⟨by (with_reducible repeat (first | apply rA_ | apply rN_ | apply rD_)); exact HO312.out⟩, ⟨by (with_reducible repeat (first | refine bN_ ?_ _ | refine bD_ ?_ | refine bA_ ?_ _)); exact BK292.out⟩, ⟨by repeat (first | (with_reducible first | exact HB.out | apply wA_ | apply wN_ | apply wD_ | refine wS_ ?_ GE292.out) | exact HB.out)⟩⟩
               ·rw [if_neg c29] at H
                exact absurd H (by simp)
              ·rw [if_neg c28] at H
               exact absurd H (by simp)
             ·rw [if_neg c27] at H
              have c27b0 : decide (x5_5 < (l0_4.length : Int)) = false := decide_eq_false c27
              clear c27
              have H' := Aside0.mk H
              clear H
              obtain ⟨hcz32_0, hcz32_1, hcz32_2, hcz32_3, hcz32_4, hcz32_5, hcz32_6, hcz32_7, hfz32_0, hfz32_1, hfz32_2, hfz32_3, hfz32_4, hfz32_5, hfz32_6, hfz32_7⟩ := c8_9 BK292.out
              go_wp2
              go_loopg [3, 6] k5 (fun kq v3 v6 w' => ∃ (x3_6 : List ByteArray) (x6_6 : Int), v6 = .int .i64 x6_6 ∧ Aside0 (isoglossref06_Subtags.l2 kq x3_6 x6_6 a0_0 l0_1 a0_2 a0_3 l0_4 l0_5 l0_6 a0_7 = some r) ∧ Aside0 (kq ≤ k5) ∧ Aside0 (Kd.R Kd.string 9 w' w.heap.size (fun _ => True) v3 x3_6) ∧ Aside0 (w'.heap[gb292]? = some (.cells #[.string a0_0, (.slice A0_1 l0_1.length c0_1), .string a0_2, .string a0_3, (.slice A0_4 l0_4.length c0_4), (.slice A0_5 l0_5.length c0_5), (.slice A0_6 l0_6.length c0_6), .string a0_7] 29 (0, 0))) ∧ Aside0 (Below w.heap.size w w'))
              case atStart => exact ⟨(x3_5), (0), (by first | rfl | (simp; done) | (simp [*]; done)), H', ⟨Nat.le_refl _⟩, ⟨by (with_reducible repeat (first | apply rA_ | apply rN_ | apply rD_)); exact HO_3.out⟩, ⟨by (with_reducible repeat (first | refine bN_ ?_ _ | refine bD_ ?_ | refine bA_ ?_ _)); exact BK292.out⟩, ⟨by repeat (first | (with_reducible first | exact HB.out | apply wA_ | apply wN_ | apply wD_ | refine wS_ ?_ GE292.out) | exact HB.out)⟩⟩
              case round =>
               clear H'
               try clear c1; try clear c2; try clear c2b0; try clear c2b1; try clear p2; try clear q2; try clear hx2; try clear p3; try clear q3; try clear hx3; try clear c4; try clear c6; try clear c6b0; try clear c6b1; try clear p6; try clear c7; try clear c10; try clear c10b0; try clear c11; try clear c11b0; try clear c12; try clear c17; try clear c17b0; try clear c17b1; try clear c18; try clear c23; try clear c23b0; try clear c23b1; try clear c24; try clear c27; try clear c27b0; try clear c28; try clear c28b0; try clear c29; try clear p29; try clear q29; try clear hx29; try clear p30; try clear q30; try clear hx30
               try clear hcz13_0 hcz13_1 hcz13_2 hcz13_3 hcz13_4 hcz13_5 hcz13_6 hcz13_7; try clear hcz16_0 hcz16_1 hcz16_2 hcz16_3 hcz16_4 hcz16_5 hcz16_6 hcz16_7; try clear hcz19_0 hcz19_1 hcz19_2 hcz19_3 hcz19_4 hcz19_5 hcz19_6 hcz19_7; try clear hcz22_0 hcz22_1 hcz22_2 hcz22_3 hcz22_4 hcz22_5 hcz22_6 hcz22_7; try clear hcz25_0 hcz25_1 hcz25_2 hcz25_3 hcz25_4 hcz25_5 hcz25_6 hcz25_7; try clear hcz30_0 hcz30_1 hcz30_2 hcz30_3 hcz30_4 hcz30_5 hcz30_6 hcz30_7; try clear hcz32_0 hcz32_1 hcz32_2 hcz32_3 hcz32_4 hcz32_5 hcz32_6 hcz32_7; try clear hcz5_0 hcz5_1 hcz5_2 hcz5_3 hcz5_4 hcz5_5 hcz5_6 hcz5_7; try clear hcz8_0 hcz8_1 hcz8_2 hcz8_3 hcz8_4 hcz8_5 hcz8_6 hcz8_7; try clear hfz13_0 hfz13_1 hfz13_2 hfz13_3 hfz13_4 hfz13_5 hfz13_6 hfz13_7; try clear hfz16_0 hfz16_1 hfz16_2 hfz16_3 hfz16_4 hfz16_5 hfz16_6 hfz16_7; try clear hfz19_0 hfz19_1 hfz19_2 hfz19_3 hfz19_4 hfz19_5 hfz19_6 hfz19_7; try clear hfz22_0 hfz22_1 hfz22_2 hfz22_3 hfz22_4 hfz22_5 hfz22_6 hfz22_7; try clear hfz25_0 hfz25_1 hfz25_2 hfz25_3 hfz25_4 hfz25_5 hfz25_6 hfz25_7; try clear hfz30_0 hfz30_1 hfz30_2 hfz30_3 hfz30_4 hfz30_5 hfz30_6 hfz30_7; try clear hfz32_0 hfz32_1 hfz32_2 hfz32_3 hfz32_4 hfz32_5 hfz32_6 hfz32_7; try clear hfz5_0 hfz5_1 hfz5_2 hfz5_3 hfz5_4 hfz5_5 hfz5_6 hfz5_7; try clear hfz8_0 hfz8_1 hfz8_2 hfz8_3 hfz8_4 hfz8_5 hfz8_6 hfz8_7
               try clear hx299_0; try clear hx309_0; try clear p2; try clear p299; try clear p309; try clear p6; try clear q2; try clear q299; try clear q309
               obtain ⟨x3_6, x6_6, rfl, HA, HK6, HO_3, BK292, HB⟩ := hrel
               cases gk with
               | zero => exact absurd HA.out (by simp [isoglossref06_Subtags.l2])
               | succ k6 =>
                have H := HA.out
                clear HA
                simp only [isoglossref06_Subtags.l2] at H
                by_cases c33 : x6_6 < (l0_5.length : Int)
                ·rw [if_pos c33] at H
                 have c33b0 : decide (x6_6 < (l0_5.length : Int)) = true := decide_eq_true c33
                 clear c33
                 by_cases c34 : 0 ≤ x6_6
                 ·rw [if_pos c34] at H
                  have c34b0 : decide (0 ≤ x6_6) = true := decide_eq_true c34
                  clear c34
                  by_cases c35 : x3_6.length < 8796093022208
                  ·rw [if_pos c35] at H
                   have LMc35 := Aside0.mk c35
                   clear c35
                   obtain ⟨y314, hy314⟩ : ∃ y_ : List ByteArray, y_ = (x3_6 ++ [(rd_T47 l0_5 x6_6).f0]) := ⟨_, rfl⟩
                   replace H : (isoglossref06_Subtags.l3 k6 y314 x6_6 0 a0_0 l0_1 a0_2 a0_3 l0_4 l0_5 l0_6 a0_7) = some r := by first | (rw [hy314]; with_reducible exact H) | (have H2_ := (Option.bind_some _ _).symm.trans H; rw [hy314]; with_reducible exact H2_) | (have H2_ := (Option.bind_some _ _).symm.trans H; with_reducible exact H2_) | with_reducible exact H | (rw [hy314]; exact H) | exact H
                   have Ny314 := Aside0.mk hy314
                   clear hy314
                   have H' := Aside0.mk H
                   clear H
                   obtain ⟨hcz36_0, hcz36_1, hcz36_2, hcz36_3, hcz36_4, hcz36_5, hcz36_6, hcz36_7, hfz36_0, hfz36_1, hfz36_2, hfz36_3, hfz36_4, hfz36_5, hfz36_6, hfz36_7⟩ := c8_9 BK292.out
                   have p313 : 0 ≤ (x6_6 : Int) := of_decide_eq_true (by first | (with_reducible assumption) | assumption)
                   have q313 : x6_6 < (l0_5.length : Int) := of_decide_eq_true (by first | (with_reducible assumption) | assumption)
                   obtain ⟨ad313, A313_1, c313_1, e313, hx313_0, hx313_1, hl313_1, hi313_1⟩ := at_T47 HR0_5.out x6_6 p313 q313
                   cases e313
                   replace hx313_0 := (HB.out.cell (World.block_lt_of_cell? w _ hx313_0)).trans hx313_0
                   replace hx313_1 := (HB.out.cell (World.block_lt_of_cell? w _ hx313_1)).trans hx313_1
                   have HR313_1 := Aside0.mk hi313_1
                   have HC313_1 := Aside0.mk hl313_1
                   clear hi313_1 hl313_1
                   replace p313 := eq_true p313
                   replace q313 := eq_true q313
                   go_wp2_with (first | ((with_reducible refine gate_builtin (b := .append) (xs := #[.tmp 76, .tmp 83]) rfl ?_); at_builtin; refine Kd.R_append Kd.string (w0 := w) w.heap.size rfl (.tmp 76) (.tmp 83) 26 9 (.string ⟨#[]⟩) 16 rfl Tryz.underlying26 info9 rfl (by decide) (by omega) u3 x3_6 ((rd_T47 l0_5 x6_6).f0) [.string ((rd_T47 l0_5 x6_6).f0)] (fun _ => True) (fun _ => False) rfl rfl ?aP (fun _ hk => hk.elim) ?aF ?aO ?aB ?aS ?aL ?_; (case aP => exact rfl); (case aB => exact (by repeat (first | (with_reducible first | exact HB.out | apply wA_ | apply wN_ | apply wD_ | refine wS_ ?_ GE292.out) | exact HB.out))); (case aF => exact (fun _ _ => trivial)); (case aO => exact (by (with_reducible repeat (first | apply rA_ | apply rN_ | apply rD_)); exact HO_3.out)); (case aS => exact (wZ_ (by repeat (first | (with_reducible first | exact HB.out | apply wA_ | apply wN_ | apply wD_ | refine wS_ ?_ GE292.out) | exact HB.out)))); (case aL => have := LMc35.out; omega); intro v315 w37 ho hb hg hat; rw [← Ny314.out] at ho; have n0_ := Aside0.mk (blk_grown (g := gb292) (o := .cells #[.string a0_0, .slice A0_1 l0_1.length c0_1, .string a0_2, .string a0_3, .slice A0_4 l0_4.length c0_4, .slice (some ad313) l0_5.length c0_5, .slice A0_6 l0_6.length c0_6, .string a0_7] 29 (0, 0)) (by (with_reducible repeat (first | refine bN_ ?_ _ | refine bD_ ?_ | refine bA_ ?_ _)); exact BK292.out) hg (Kd.R_ne HO_3.out BK292.out (by decide))); have n1_ := Aside0.mk (hb); have n2_ := Aside0.mk (ho); clear BK292; clear HB; clear HO_3; have BK292 := n0_; have HB := n1_; have HO316 := n2_; clear n0_ n1_ n2_; clear ho hb hg hat))
                   go_loopg [3, 7] k6 (fun kq v3 v7 w' => ∃ (x3_7 : List ByteArray) (x7_7 : Int), v7 = .int .i64 x7_7 ∧ Aside0 (isoglossref06_Subtags.l3 kq x3_7 x6_6 x7_7 a0_0 l0_1 a0_2 a0_3 l0_4 l0_5 l0_6 a0_7 = some r) ∧ Aside0 (kq ≤ k6) ∧ Aside0 (Kd.R Kd.string 9 w' w.heap.size (fun _ => True) v3 x3_7) ∧ Aside0 (w'.heap[gb292]? = some (.cells #[.string a0_0, (.slice A0_1 l0_1.length c0_1), .string a0_2, .string a0_3, (.slice A0_4 l0_4.length c0_4), (.slice (some ad313) l0_5.length c0_5), (.slice A0_6 l0_6.length c0_6), .string a0_7] 29 (0, 0))) ∧ Aside0 (Below w.heap.size w w'))
                   case atStart => exact ⟨(y314), (0), (by first | rfl | (simp; done) | (simp [*]; done)), H', ⟨Nat.le_refl _⟩, ⟨by (with_reducible repeat (first | apply rA_ | apply rN_ | apply rD_)); exact HO316.out⟩, ⟨by (with_reducible repeat (first | refine bN_ ?_ _ | refine bD_ ?_ | refine bA_ ?_ _)); exact BK292.out⟩, ⟨by repeat (first | (with_reducible first | exact HB.out | apply wA_ | apply wN_ | apply wD_ | refine wS_ ?_ GE292.out) | exact HB.out)⟩⟩
                   case round =>
                    clear H'
                    try clear c1; try clear c2; try clear c2b0; try clear c2b1; try clear p2; try clear q2; try clear hx2; try clear c3; try clear p3; try clear q3; try clear hx3; try clear c4; try clear c6; try clear c6b0; try clear c6b1; try clear p6; try clear c7; try clear c10; try clear c10b0; try clear c11; try clear c11b0; try clear c12; try clear c17; try clear c17b0; try clear c17b1; try clear c18; try clear c23; try clear c23b0; try clear c23b1; try clear c24; try clear c27; try clear c27b0; try clear c28; try clear c28b0; try clear c29; try clear p29; try clear q29; try clear hx29; try clear p30; try clear q30; try clear hx30; try clear c31; try clear p31; try clear q31; try clear hx31; try clear c33; try clear c33b0; try clear c34; try clear c34b0; try clear c35
                    try clear hcz13_0 hcz13_1 hcz13_2 hcz13_3 hcz13_4 hcz13_5 hcz13_6 hcz13_7; try clear hcz16_0 hcz16_1 hcz16_2 hcz16_3 hcz16_4 hcz16_5 hcz16_6 hcz16_7; try clear hcz19_0 hcz19_1 hcz19_2 hcz19_3 hcz19_4 hcz19_5 hcz19_6 hcz19_7; try clear hcz22_0 hcz22_1 hcz22_2 hcz22_3 hcz22_4 hcz22_5 hcz22_6 hcz22_7; try clear hcz25_0 hcz25_1 hcz25_2 hcz25_3 hcz25_4 hcz25_5 hcz25_6 hcz25_7; try clear hcz30_0 hcz30_1 hcz30_2 hcz30_3 hcz30_4 hcz30_5 hcz30_6 hcz30_7; try clear hcz32_0 hcz32_1 hcz32_2 hcz32_3 hcz32_4 hcz32_5 hcz32_6 hcz32_7; try clear hcz36_0 hcz36_1 hcz36_2 hcz36_3 hcz36_4 hcz36_5 hcz36_6 hcz36_7; try clear hcz5_0 hcz5_1 hcz5_2 hcz5_3 hcz5_4 hcz5_5 hcz5_6 hcz5_7; try clear hcz8_0 hcz8_1 hcz8_2 hcz8_3 hcz8_4 hcz8_5 hcz8_6 hcz8_7; try clear hfz13_0 hfz13_1 hfz13_2 hfz13_3 hfz13_4 hfz13_5 hfz13_6 hfz13_7; try clear hfz16_0 hfz16_1 hfz16_2 hfz16_3 hfz16_4 hfz16_5 hfz16_6 hfz16_7; try clear hfz19_0 hfz19_1 hfz19_2 hfz19_3 hfz19_4 hfz19_5 hfz19_6 hfz19_7; try clear hfz22_0 hfz22_1 hfz22_2 hfz22_3 hfz22_4 hfz22_5 hfz22_6 hfz22_7; try clear hfz25_0 hfz25_1 hfz25_2 hfz25_3 hfz25_4 hfz25_5 hfz25_6 hfz25_7; try clear hfz30_0 hfz30_1 hfz30_2 hfz30_3 hfz30_4 hfz30_5 hfz30_6 hfz30_7; try clear hfz32_0 hfz32_1 hfz32_2 hfz32_3 hfz32_4 hfz32_5 hfz32_6 hfz32_7; try clear hfz36_0 hfz36_1 hfz36_2 hfz36_3 hfz36_4 hfz36_5 hfz36_6 hfz36_7; try clear hfz5_0 hfz5_1 hfz5_2 hfz5_3 hfz5_4 hfz5_5 hfz5_6 hfz5_7; try clear hfz8_0 hfz8_1 hfz8_2 hfz8_3 hfz8_4 hfz8_5 hfz8_6 hfz8_7
                    try clear hx299_0; try clear hx309_0; try clear hx313_0; try clear hx313_1; try clear p2; try clear p29; try clear p299; try clear p3; try clear p30; try clear p309; try clear p313; try clear p6; try clear q2; try clear q29; try clear q299; try clear q3; try clear q30; try clear q309; try clear q313
                    obtain ⟨x3_7, x7_7, rfl, HA, HK7, HO_3, BK292, HB⟩ := hrel
                    cases gk with
                    | zero => exact absurd HA.out (by simp [isoglossref06_Subtags.l3])
                    | succ k7 =>
                     have H := HA.out
                     clear HA
                     simp only [isoglossref06_Subtags.l3] at H
                     by_cases c38 : 0 ≤ x6_6
                     ·rw [if_pos c38] at H
                      have c38b0 : decide (0 ≤ x6_6) = true := decide_eq_true c38
                      clear c38
                      by_cases c39 : x6_6 < (l0_5.length : Int)
                      ·rw [if_pos c39] at H
                       have c39b0 : decide (x6_6 < (l0_5.length : Int)) = true := decide_eq_true c39
                       clear c39
                       by_cases c40 : x7_7 < (((rd_T47 l0_5 x6_6).f1).length : Int)
                       ·rw [if_pos c40] at H
                        have c40b0 : decide (x7_7 < (((rd_T47 l0_5 x6_6).f1).length : Int)) = true := decide_eq_true c40
                        clear c40
                        by_cases c41 : 0 ≤ x7_7
                        ·rw [if_pos c41] at H
                         have c41b0 : decide (0 ≤ x7_7) = true := decide_eq_true c41
                         clear c41
                         by_cases c42 : x3_7.length < 8796093022208
                         ·rw [if_pos c42] at H
                          have LMc42 := Aside0.mk c42
                          clear c42
                          obtain ⟨y320, hy320⟩ : ∃ y_ : List ByteArray, y_ = (x3_7 ++ [rdOf ByteArray.empty ((rd_T47 l0_5 x6_6).f1) x7_7]) := ⟨_, rfl⟩
                          replace H : (isoglossref06_Subtags.l3 k7 y320 x6_6 (wrap64 (x7_7 + 1)) a0_0 l0_1 a0_2 a0_3 l0_4 l0_5 l0_6 a0_7) = some r := by first | (rw [hy320]; with_reducible exact H) | (have H2_ := (Option.bind_some _ _).symm.trans H; rw [hy320]; with_reducible exact H2_) | (have H2_ := (Option.bind_some _ _).symm.trans H; with_reducible exact H2_) | with_reducible exact H | (rw [hy320]; exact H) | exact H
                          have Ny320 := Aside0.mk hy320
                          clear hy320
                          have H' := Aside0.mk H
                          clear H
                          obtain ⟨hcz43_0, hcz43_1, hcz43_2, hcz43_3, hcz43_4, hcz43_5, hcz43_6, hcz43_7, hfz43_0, hfz43_1, hfz43_2, hfz43_3, hfz43_4, hfz43_5, hfz43_6, hfz43_7⟩ := c8_9 BK292.out
                          have p317 : 0 ≤ (x6_6 : Int) := of_decide_eq_true (by first | (with_reducible assumption) | assumption)
                          have q317 : x6_6 < (l0_5.length : Int) := of_decide_eq_true (by first | (with_reducible assumption) | assumption)
                          obtain ⟨ad317, A317_1, c317_1, e317, hx317_0, hx317_1, hl317_1, hi317_1⟩ := at_T47 HR0_5.out x6_6 p317 q317
                          obtain rfl : ad313 = ad317 := (by injection e317)
                          replace hx317_0 := (HB.out.cell (World.block_lt_of_cell? w _ hx317_0)).trans hx317_0
                          replace hx317_1 := (HB.out.cell (World.block_lt_of_cell? w _ hx317_1)).trans hx317_1
                          have HR317_1 := Aside0.mk hi317_1
                          have HC317_1 := Aside0.mk hl317_1
                          clear hi317_1 hl317_1
                          replace p317 := eq_true p317
                          replace q317 := eq_true q317
                          have p318 : 0 ≤ (x6_6 : Int) := of_decide_eq_true (by first | (with_reducible assumption) | assumption)
                          have q318 : x6_6 < (l0_5.length : Int) := of_decide_eq_true (by first | (with_reducible assumption) | assumption)
                          obtain ⟨ad318, A318_1, c318_1, e318, hx318_0, hx318_1, hl318_1, hi318_1⟩ := at_T47 HR0_5.out x6_6 p318 q318
                          obtain rfl : ad313 = ad318 := (by injection e318)
                          replace hx318_0 := (HB.out.cell (World.block_lt_of_cell? w _ hx318_0)).trans hx318_0
                          replace hx318_1 := (HB.out.cell (World.block_lt_of_cell? w _ hx318_1)).trans hx318_1
                          have HR318_1 := Aside0.mk hi318_1
                          have HC318_1 := Aside0.mk hl318_1
                          clear hi318_1 hl318_1
                          replace p318 := eq_true p318
                          replace q318 := eq_true q318
                          have ea_ := Option.some.inj (hx317_1.symm.trans hx318_1)
                          injection ea_ with ea_ en_ ec_
                          subst ea_
                          subst ec_
                          clear en_
                          have p319 : 0 ≤ (x7_7 : Int) := of_decide_eq_true (by first | (with_reducible assumption) | assumption)
                          have q319 : x7_7 < (((rd_T47 l0_5 x6_6).f1).length : Int) := of_decide_eq_true (by first | (with_reducible assumption) | assumption)
                          obtain ⟨ad319, e319, hx319_0⟩ := Kd.at_string HR318_1.out x7_7 p319 q319
                          cases e319
                          replace hx319_0 := (HB.out.cell (World.block_lt_of_cell? w _ hx319_0)).trans hx319_0
                          replace p319 := eq_true p319
                          replace q319 := eq_true q319
                          go_wp2_with (first | ((with_reducible refine gate_builtin (b := .append) (xs := #[.tmp 96, .tmp 106]) rfl ?_); at_builtin; refine Kd.R_append Kd.string (w0 := w) w.heap.size rfl (.tmp 96) (.tmp 106) 26 9 (.string ⟨#[]⟩) 16 rfl Tryz.underlying26 info9 rfl (by decide) (by omega) u3 x3_7 (rdOf ByteArray.empty ((rd_T47 l0_5 x6_6).f1) x7_7) [.string (rdOf ByteArray.empty ((rd_T47 l0_5 x6_6).f1) x7_7)] (fun _ => True) (fun _ => False) rfl rfl ?aP (fun _ hk => hk.elim) ?aF ?aO ?aB ?aS ?aL ?_; (case aP => exact rfl); (case aB => exact (by repeat (first | (with_reducible first | exact HB.out | apply wA_ | apply wN_ | apply wD_ | refine wS_ ?_ GE292.out) | exact HB.out))); (case aF => exact (fun _ _ => trivial)); (case aO => exact (by (with_reducible repeat (first | apply rA_ | apply rN_ | apply rD_)); exact HO_3.out)); (case aS => exact (wZ_ (by repeat (first | (with_reducible first | exact HB.out | apply wA_ | apply wN_ | apply wD_ | refine wS_ ?_ GE292.out) | exact HB.out)))); (case aL => have := LMc42.out; omega); intro v321 w44 ho hb hg hat; rw [← Ny320.out] at ho; have n0_ := Aside0.mk (blk_grown (g := gb292) (o := .cells #[.string a0_0, .slice A0_1 l0_1.length c0_1, .string a0_2, .string a0_3, .slice A0_4 l0_4.length c0_4, .slice (some ad313) l0_5.length c0_5, .slice A0_6 l0_6.length c0_6, .string a0_7] 29 (0, 0)) (by (with_reducible repeat (first | refine bN_ ?_ _ | refine bD_ ?_ | refine bA_ ?_ _)); exact BK292.out) hg (Kd.R_ne HO_3.out BK292.out (by decide))); have n1_ := Aside0.mk (hb); have n2_ := Aside0.mk (ho); clear BK292; clear HB; clear HO_3; have BK292 := n0_; have HB := n1_; have HO322 := n2_; clear n0_ n1_ n2_; clear ho hb hg hat))
                          go_roundg k7
                          case measure => have := HJ2.out; have := HK2.out; have := HJ14.out; have := HJ20.out; have := HK5.out; have := HK6.out; have := HK7.out; omega
                          case rel => exact ⟨(y320), (wrap64 (x7_7 + 1)), (by first | rfl | (simp; done) | (simp [*]; done)), H', ⟨by have := HJ2.out; have := HK2.out; have := HJ14.out; have := HJ20.out; have := HK5.out; have := HK6.out; have := HK7.out; omega⟩, ⟨by (with_reducible repeat (first | apply rA_ | apply rN_ | apply rD_)); exact HO322.out⟩, ⟨by (with_reducible repeat (first | refine bN_ ?_ _ | refine bD_ ?_ | refine bA_ ?_ _)); exact BK292.out⟩, ⟨by repeat (first | (with_reducible first | exact HB.out | apply wA_ | apply wN_ | apply wD_ | refine wS_ ?_ GE292.out) | exact HB.out)⟩⟩
                         ·rw [if_neg c42] at H
                          exact absurd H (by simp)
                        ·rw [if_neg c41] at H
                         exact absurd H (by simp)
                       ·rw [if_neg c40] at H
                        have c40b0 : decide (x7_7 < (((rd_T47 l0_5 x6_6).f1).length : Int)) = false := decide_eq_false c40
                        clear c40
                        have H' := Aside0.mk H
                        clear H
                        obtain ⟨hcz45_0, hcz45_1, hcz45_2, hcz45_3, hcz45_4, hcz45_5, hcz45_6, hcz45_7, hfz45_0, hfz45_1, hfz45_2, hfz45_3, hfz45_4, hfz45_5, hfz45_6, hfz45_7⟩ := c8_9 BK292.out
                        have p317 : 0 ≤ (x6_6 : Int) := of_decide_eq_true (by first | (with_reducible assumption) | assumption)
                        have q317 : x6_6 < (l0_5.length : Int) := of_decide_eq_true (by first | (with_reducible assumption) | assumption)
                        obtain ⟨ad317, A317_1, c317_1, e317, hx317_0, hx317_1, hl317_1, hi317_1⟩ := at_T47 HR0_5.out x6_6 p317 q317
                        obtain rfl : ad313 = ad317 := (by injection e317)
                        replace hx317_0 := (HB.out.cell (World.block_lt_of_cell? w _ hx317_0)).trans hx317_0
                        replace hx317_1 := (HB.out.cell (World.block_lt_of_cell? w _ hx317_1)).trans hx317_1
                        have HR317_1 := Aside0.mk hi317_1
                        have HC317_1 := Aside0.mk hl317_1
                        clear hi317_1 hl317_1
                        replace p317 := eq_true p317
                        replace q317 := eq_true q317
                        go_wp2
                        go_roundg k7
                        case measure => have := HJ2.out; have := HK2.out; have := HJ14.out; have := HJ20.out; have := HK5.out; have := HK6.out; have := HK7.out; omega
                        case rel => exact ⟨(x3_7), (wrap64 (x6_6 + 1)), (by first | rfl | (simp; done) | (simp [*]; done)), H', ⟨by have := HJ2.out; have := HK2.out; have := HJ14.out; have := HJ20.out; have := HK5.out; have := HK6.out; have := HK7.out; omega⟩, ⟨by (with_reducible repeat (first | apply rA_ | apply rN_ | apply rD_)); exact HO_3.out⟩, ⟨by (with_reducible repeat (first | refine bN_ ?_ _ | refine bD_ ?_ | refine bA_ ?_ _)); exact BK292.out⟩, ⟨by repeat (first | (with_reducible first | exact HB.out | apply wA_ | apply wN_ | apply wD_ | refine wS_ ?_ GE292.out) | exact HB.out)⟩⟩
                      ·rw [if_neg c39] at H
                       exact absurd H (by simp)
                     ·rw [if_neg c38] at H
                      exact absurd H (by simp)
                  ·rw [if_neg c35] at H
                   exact absurd H (by simp)
                 ·rw [if_neg c34] at H
                  exact absurd H (by simp)
                ·rw [if_neg c33] at H
                 have c33b0 : decide (x6_6 < (l0_5.length : Int)) = false := decide_eq_false c33
                 clear c33
                 have HC46 := Aside0.mk H
                 clear H
                 obtain ⟨hcz47_0, hcz47_1, hcz47_2, hcz47_3, hcz47_4, hcz47_5, hcz47_6, hcz47_7, hfz47_0, hfz47_1, hfz47_2, hfz47_3, hfz47_4, hfz47_5, hfz47_6, hfz47_7⟩ := c8_9 BK292.out
                 go_upto_if 111 with (fail)
                 go_cut [3] (fun v3 wc => ∃ (kq : Nat) (x3_45 : List ByteArray), Aside0 (isoglossref06_Subtags.j7 kq x3_45 a0_0 l0_1 a0_2 a0_3 l0_4 l0_5 l0_6 a0_7 = some r) ∧ Aside0 (kq ≤ k6) ∧ Aside0 (Kd.R Kd.string 9 wc w.heap.size (fun _ => True) v3 x3_45) ∧ Aside0 (wc.heap[gb292]? = some (.cells #[.string a0_0, (.slice A0_1 l0_1.length c0_1), .string a0_2, .string a0_3, (.slice A0_4 l0_4.length c0_4), (.slice A0_5 l0_5.length c0_5), (.slice A0_6 l0_6.length c0_6), .string a0_7] 29 (0, 0))) ∧ Aside0 (Below w.heap.size w wc))
                 case first =>
                  have H := HC46.out
                  clear HC46
                  by_cases c48 : (l0_6.length : Int) > 0
                  ·rw [if_pos c48] at H
                   have c48b0 : decide (0 < (l0_6.length : Int)) = true := decide_eq_true c48
                   have c48b1 : decide (0 < l0_6.length) = true := decide_eq_true (by omega)
                   clear c48
                   (first | rw [c48b0] | rw [c48b1] | (simp only [i64_w, i32_w]; rw [c48b0]) | skip)
                   by_cases c49 : x3_6.length < 8796093022208
                   ·rw [if_pos c49] at H
                    have LMc49 := Aside0.mk c49
                    clear c49
                    obtain ⟨y323, hy323⟩ : ∃ y_ : List ByteArray, y_ = (x3_6 ++ [(⟨#[120]⟩ : ByteArray)]) := ⟨_, rfl⟩
                    replace H : (isoglossref06_Subtags.j7 k6 y323 a0_0 l0_1 a0_2 a0_3 l0_4 l0_5 l0_6 a0_7) = some r := by first | (rw [hy323]; with_reducible exact H) | (have H2_ := (Option.bind_some _ _).symm.trans H; rw [hy323]; with_reducible exact H2_) | (have H2_ := (Option.bind_some _ _).symm.trans H; with_reducible exact H2_) | with_reducible exact H | (rw [hy323]; exact H) | exact H
                    have Ny323 := Aside0.mk hy323
                    clear hy323
                    have H' := Aside0.mk H
                    clear H
                    go_wp2_with (first | ((with_reducible refine gate_builtin (b := .append) (xs := #[.tmp 112, .tmp 113]) rfl ?_); at_builtin; refine Kd.R_append Kd.string (w0 := w) w.heap.size rfl (.tmp 112) (.tmp 113) 26 9 (.string ⟨#[]⟩) 16 rfl Tryz.underlying26 info9 rfl (by decide) (by omega) u3 x3_6 (⟨#[120]⟩ : ByteArray) [.string (⟨#[120]⟩ : ByteArray)] (fun _ => True) (fun _ => False) rfl rfl ?aP (fun _ hk => hk.elim) ?aF ?aO ?aB ?aS ?aL ?_; (case aP => exact rfl); (case aB => exact (by repeat (first | (with_reducible first | exact HB.out | apply wA_ | apply wN_ | apply wD_ | refine wS_ ?_ GE292.out) | exact HB.out))); (case aF => exact (fun _ _ => trivial)); (case aO => exact (by (with_reducible repeat (first | apply rA_ | apply rN_ | apply rD_)); exact HO_3.out)); (case aS => exact (wZ_ (by repeat (first | (with_reducible first | exact HB.out | apply wA_ | apply wN_ | apply wD_ | refine wS_ ?_ GE292.out) | exact HB.out)))); (case aL => have := LMc49.out; omega); intro v324 w50 ho hb hg hat; rw [← Ny323.out] at ho; have n0_ := Aside0.mk (blk_grown (g := gb292) (o := .cells #[.string a0_0, .slice A0_1 l0_1.length c0_1, .string a0_2, .string a0_3, .slice A0_4 l0_4.length c0_4, .slice A0_5 l0_5.length c0_5, .slice A0_6 l0_6.length c0_6, .string a0_7] 29 (0, 0)) (by (with_reducible repeat (first | refine bN_ ?_ _ | refine bD_ ?_ | refine bA_ ?_ _)); exact BK292.out) hg (Kd.R_ne HO_3.out BK292.out (by decide))); have n1_ := Aside0.mk (hb); have n2_ := Aside0.mk (ho); clear BK292; clear HB; clear HO_3; have BK292 := n0_; have HB := n1_; have HO325 := n2_; clear n0_ n1_ n2_; clear ho hb hg hat))
                    go_meet
                    case rel => exact ⟨_, (y323), H', ⟨by have := HJ2.out; have := HK2.out; have := HJ14.out; have := HJ20.out; have := HK5.out; have := HK6.out; first | omega | exact Nat.le_refl _⟩, ⟨by (with_reducible repeat (first | apply rA_ | apply rN_ | apply rD_)); exact HO325.out⟩, ⟨by (with_reducible repeat (first | refine bN_ ?_ _ | refine bD_ ?_ | refine bA_ ?_ _)); exact BK292.out⟩, ⟨by repeat (first | (with_reducible first | exact HB.out | apply wA_ | apply wN_ | apply wD_ | refine wS_ ?_ GE292.out) | exact HB.out)⟩⟩
                   ·rw [if_neg c49] at H
                    exact absurd H (by simp)
                  ·rw [if_neg c48] at H
                   have c48b0 : decide (0 < (l0_6.length : Int)) = false := decide_eq_false c48
                   have c48b1 : decide (0 < l0_6.length) = false := decide_eq_false (by omega)
                   clear c48
                   (first | rw [c48b0] | rw [c48b1] | (simp only [i64_w, i32_w]; rw [c48b0]) | skip)
                   have H' := Aside0.mk H
                   clear H
                   go_wp2
                   go_meet
                   case rel => exact ⟨_, (x3_6), H', ⟨by have := HJ2.out; have := HK2.out; have := HJ14.out; have := HJ20.out; have := HK5.out; have := HK6.out; first | omega | exact Nat.le_refl _⟩, ⟨by (with_reducible repeat (first | apply rA_ | apply rN_ | apply rD_)); exact HO_3.out⟩, ⟨by (with_reducible repeat (first | refine bN_ ?_ _ | refine bD_ ?_ | refine bA_ ?_ _)); exact BK292.out⟩, ⟨by repeat (first | (with_reducible first | exact HB.out | apply wA_ | apply wN_ | apply wD_ | refine wS_ ?_ GE292.out) | exact HB.out)⟩⟩
                 case rest =>
                  clear HC46
                  try clear c1; try clear c2; try clear c2b0; try clear c2b1; try clear p2; try clear q2; try clear hx2; try clear c3; try clear p3; try clear q3; try clear hx3; try clear c4; try clear c6; try clear c6b0; try clear c6b1; try clear p6; try clear c7; try clear c10; try clear c10b0; try clear c11; try clear c11b0; try clear c12; try clear c17; try clear c17b0; try clear c17b1; try clear c18; try clear c23; try clear c23b0; try clear c23b1; try clear c24; try clear c27; try clear c27b0; try clear c28; try clear c28b0; try clear c29; try clear p29; try clear q29; try clear hx29; try clear p30; try clear q30; try clear hx30; try clear c31; try clear p31; try clear q31; try clear hx31; try clear c33; try clear c33b0; try clear c34; try clear c34b0; try clear c35; try clear c38; try clear c38b0; try clear c39; try clear c39b0; try clear c40; try clear c40b0; try clear c41; try clear c41b0; try clear c42; try clear c48; try clear c48b0; try clear c48b1; try clear c49
                  try clear hcz13_0 hcz13_1 hcz13_2 hcz13_3 hcz13_4 hcz13_5 hcz13_6 hcz13_7; try clear hcz16_0 hcz16_1 hcz16_2 hcz16_3 hcz16_4 hcz16_5 hcz16_6 hcz16_7; try clear hcz19_0 hcz19_1 hcz19_2 hcz19_3 hcz19_4 hcz19_5 hcz19_6 hcz19_7; try clear hcz22_0 hcz22_1 hcz22_2 hcz22_3 hcz22_4 hcz22_5 hcz22_6 hcz22_7; try clear hcz25_0 hcz25_1 hcz25_2 hcz25_3 hcz25_4 hcz25_5 hcz25_6 hcz25_7; try clear hcz30_0 hcz30_1 hcz30_2 hcz30_3 hcz30_4 hcz30_5 hcz30_6 hcz30_7; try clear hcz32_0 hcz32_1 hcz32_2 hcz32_3 hcz32_4 hcz32_5 hcz32_6 hcz32_7; try clear hcz36_0 hcz36_1 hcz36_2 hcz36_3 hcz36_4 hcz36_5 hcz36_6 hcz36_7; try clear hcz43_0 hcz43_1 hcz43_2 hcz43_3 hcz43_4 hcz43_5 hcz43_6 hcz43_7; try clear hcz45_0 hcz45_1 hcz45_2 hcz45_3 hcz45_4 hcz45_5 hcz45_6 hcz45_7; try clear hcz47_0 hcz47_1 hcz47_2 hcz47_3 hcz47_4 hcz47_5 hcz47_6 hcz47_7; try clear hcz5_0 hcz5_1 hcz5_2 hcz5_3 hcz5_4 hcz5_5 hcz5_6 hcz5_7; try clear hcz8_0 hcz8_1 hcz8_2 hcz8_3 hcz8_4 hcz8_5 hcz8_6 hcz8_7; try clear hfz13_0 hfz13_1 hfz13_2 hfz13_3 hfz13_4 hfz13_5 hfz13_6 hfz13_7; try clear hfz16_0 hfz16_1 hfz16_2 hfz16_3 hfz16_4 hfz16_5 hfz16_6 hfz16_7; try clear hfz19_0 hfz19_1 hfz19_2 hfz19_3 hfz19_4 hfz19_5 hfz19_6 hfz19_7; try clear hfz22_0 hfz22_1 hfz22_2 hfz22_3 hfz22_4 hfz22_5 hfz22_6 hfz22_7; try clear hfz25_0 hfz25_1 hfz25_2 hfz25_3 hfz25_4 hfz25_5 hfz25_6 hfz25_7; try clear hfz30_0 hfz30_1 hfz30_2 hfz30_3 hfz30_4 hfz30_5 hfz30_6 hfz30_7; try clear hfz32_0 hfz32_1 hfz32_2 hfz32_3 hfz32_4 hfz32_5 hfz32_6 hfz32_7; try clear hfz36_0 hfz36_1 hfz36_2 hfz36_3 hfz36_4 hfz36_5 hfz36_6 hfz36_7; try clear hfz43_0 hfz43_1 hfz43_2 hfz43_3 hfz43_4 hfz43_5 hfz43_6 hfz43_7; try clear hfz45_0 hfz45_1 hfz45_2 hfz45_3 hfz45_4 hfz45_5 hfz45_6 hfz45_7; try clear hfz47_0 hfz47_1 hfz47_2 hfz47_3 hfz47_4 hfz47_5 hfz47_6 hfz47_7; try clear hfz5_0 hfz5_1 hfz5_2 hfz5_3 hfz5_4 hfz5_5 hfz5_6 hfz5_7; try clear hfz8_0 hfz8_1 hfz8_2 hfz8_3 hfz8_4 hfz8_5 hfz8_6 hfz8_7
                  try clear hx299_0; try clear hx309_0; try clear hx313_0; try clear hx313_1; try clear hx317_0; try clear hx317_1; try clear hx318_0; try clear hx318_1; try clear hx319_0; try clear p2; try clear p29; try clear p299; try clear p3; try clear p30; try clear p309; try clear p31; try clear p313; try clear p317; try clear p318; try clear p319; try clear p6; try clear q2; try clear q29; try clear q299; try clear q3; try clear q30; try clear q309; try clear q31; try clear q313; try clear q317; try clear q318; try clear q319
                  obtain ⟨kq, x3_45, HA, HJ45, HO_3, BK292, HB⟩ := hcut
                  cases kq with
                  | zero => exact absurd HA.out (by simp [isoglossref06_Subtags.j7])
                  | succ kj45 =>
                   have H := HA.out
                   clear HA
                   simp only [isoglossref06_Subtags.j7] at H
                   have H' := Aside0.mk H
                   clear H
                   go_wp2
                   go_loopg [3, 8] kj45 (fun kq v3 v8 w' => ∃ (x3_8 : List ByteArray) (x8_8 : Int), v8 = .int .i64 x8_8 ∧ Aside0 (isoglossref06_Subtags.l4 kq x3_8 x8_8 a0_0 l0_1 a0_2 a0_3 l0_4 l0_5 l0_6 a0_7 = some r) ∧ Aside0 (kq ≤ kj45) ∧ Aside0 (Kd.R Kd.string 9 w' w.heap.size (fun _ => True) v3 x3_8) ∧ Aside0 (w'.heap[gb292]? = some (.cells #[.string a0_0, (.slice A0_1 l0_1.length c0_1), .string a0_2, .string a0_3, (.slice A0_4 l0_4.length c0_4), (.slice A0_5 l0_5.length c0_5), (.slice A0_6 l0_6.length c0_6), .string a0_7] 29 (0, 0))) ∧ Aside0 (Below w.heap.size w w'))
                   case atStart => exact ⟨(x3_45), (0), (by first | rfl | (simp; done) | (simp [*]; done)), H', ⟨Nat.le_refl _⟩, ⟨by (with_reducible repeat (first | apply rA_ | apply rN_ | apply rD_)); exact HO_3.out⟩, ⟨by (with_reducible repeat (first | refine bN_ ?_ _ | refine bD_ ?_ | refine bA_ ?_ _)); exact BK292.out⟩, ⟨by repeat (first | (with_reducible first | exact HB.out | apply wA_ | apply wN_ | apply wD_ | refine wS_ ?_ GE292.out) | exact HB.out)⟩⟩
                   case round =>
                    clear H'
                    try clear c1; try clear c2; try clear c2b0; try clear c2b1; try clear p2; try clear q2; try clear hx2; try clear c3; try clear p3; try clear q3; try clear hx3; try clear c4; try clear c6; try clear c6b0; try clear c6b1; try clear p6; try clear c7; try clear c10; try clear c10b0; try clear c11; try clear c11b0; try clear c12; try clear c17; try clear c17b0; try clear c17b1; try clear c18; try clear c23; try clear c23b0; try clear c23b1; try clear c24; try clear c27; try clear c27b0; try clear c28; try clear c28b0; try clear c29; try clear p29; try clear q29; try clear hx29; try clear p30; try clear q30; try clear hx30; try clear c31; try clear p31; try clear q31; try clear hx31; try clear c33; try clear c33b0; try clear c34; try clear c34b0; try clear c35; try clear c38; try clear c38b0; try clear c39; try clear c39b0; try clear c40; try clear c40b0; try clear c41; try clear c41b0; try clear c42; try clear c48; try clear c48b0; try clear c48b1; try clear c49
                    try clear hcz13_0 hcz13_1 hcz13_2 hcz13_3 hcz13_4 hcz13_5 hcz13_6 hcz13_7; try clear hcz16_0 hcz16_1 hcz16_2 hcz16_3 hcz16_4 hcz16_5 hcz16_6 hcz16_7; try clear hcz19_0 hcz19_1 hcz19_2 hcz19_3 hcz19_4 hcz19_5 hcz19_6 hcz19_7; try clear hcz22_0 hcz22_1 hcz22_2 hcz22_3 hcz22_4 hcz22_5 hcz22_6 hcz22_7; try clear hcz25_0 hcz25_1 hcz25_2 hcz25_3 hcz25_4 hcz25_5 hcz25_6 hcz25_7; try clear hcz30_0 hcz30_1 hcz30_2 hcz30_3 hcz30_4 hcz30_5 hcz30_6 hcz30_7; try clear hcz32_0 hcz32_1 hcz32_2 hcz32_3 hcz32_4 hcz32_5 hcz32_6 hcz32_7; try clear hcz36_0 hcz36_1 hcz36_2 hcz36_3 hcz36_4 hcz36_5 hcz36_6 hcz36_7; try clear hcz43_0 hcz43_1 hcz43_2 hcz43_3 hcz43_4 hcz43_5 hcz43_6 hcz43_7; try clear hcz45_0 hcz45_1 hcz45_2 hcz45_3 hcz45_4 hcz45_5 hcz45_6 hcz45_7; try clear hcz47_0 hcz47_1 hcz47_2 hcz47_3 hcz47_4 hcz47_5 hcz47_6 hcz47_7; try clear hcz5_0 hcz5_1 hcz5_2 hcz5_3 hcz5_4 hcz5_5 hcz5_6 hcz5_7; try clear hcz8_0 hcz8_1 hcz8_2 hcz8_3 hcz8_4 hcz8_5 hcz8_6 hcz8_7; try clear hfz13_0 hfz13_1 hfz13_2 hfz13_3 hfz13_4 hfz13_5 hfz13_6 hfz13_7; try clear hfz16_0 hfz16_1 hfz16_2 hfz16_3 hfz16_4 hfz16_5 hfz16_6 hfz16_7; try clear hfz19_0 hfz19_1 hfz19_2 hfz19_3 hfz19_4 hfz19_5 hfz19_6 hfz19_7; try clear hfz22_0 hfz22_1 hfz22_2 hfz22_3 hfz22_4 hfz22_5 hfz22_6 hfz22_7; try clear hfz25_0 hfz25_1 hfz25_2 hfz25_3 hfz25_4 hfz25_5 hfz25_6 hfz25_7; try clear hfz30_0 hfz30_1 hfz30_2 hfz30_3 hfz30_4 hfz30_5 hfz30_6 hfz30_7; try clear hfz32_0 hfz32_1 hfz32_2 hfz32_3 hfz32_4 hfz32_5 hfz32_6 hfz32_7; try clear hfz36_0 hfz36_1 hfz36_2 hfz36_3 hfz36_4 hfz36_5 hfz36_6 hfz36_7; try clear hfz43_0 hfz43_1 hfz43_2 hfz43_3 hfz43_4 hfz43_5 hfz43_6 hfz43_7; try clear hfz45_0 hfz45_1 hfz45_2 hfz45_3 hfz45_4 hfz45_5 hfz45_6 hfz45_7; try clear hfz47_0 hfz47_1 hfz47_2 hfz47_3 hfz47_4 hfz47_5 hfz47_6 hfz47_7; try clear hfz5_0 hfz5_1 hfz5_2 hfz5_3 hfz5_4 hfz5_5 hfz5_6 hfz5_7; try clear hfz8_0 hfz8_1 hfz8_2 hfz8_3 hfz8_4 hfz8_5 hfz8_6 hfz8_7
                    try clear hx299_0; try clear hx309_0; try clear hx313_0; try clear hx313_1; try clear hx317_0; try clear hx317_1; try clear hx318_0; try clear hx318_1; try clear hx319_0; try clear p2; try clear p29; try clear p299; try clear p3; try clear p30; try clear p309; try clear p31; try clear p313; try clear p317; try clear p318; try clear p319; try clear p6; try clear q2; try clear q29; try clear q299; try clear q3; try clear q30; try clear q309; try clear q31; try clear q313; try clear q317; try clear q318; try clear q319
                    obtain ⟨x3_8, x8_8, rfl, HA, HK8, HO_3, BK292, HB⟩ := hrel
                    cases gk with
                    | zero => exact absurd HA.out (by simp [isoglossref06_Subtags.l4])
                    | succ k8 =>
                     have H := HA.out
                     clear HA
                     simp only [isoglossref06_Subtags.l4] at H
                     by_cases c51 : x8_8 < (l0_6.length : Int)
                     ·rw [if_pos c51] at H
                      have c51b0 : decide (x8_8 < (l0_6.length : Int)) = true := decide_eq_true c51
                      clear c51
                      by_cases c52 : 0 ≤ x8_8
                      ·rw [if_pos c52] at H
                       have c52b0 : decide (0 ≤ x8_8) = true := decide_eq_true c52
                       clear c52
                       by_cases c53 : x3_8.length < 8796093022208
                       ·rw [if_pos c53] at H
                        have LMc53 := Aside0.mk c53
                        clear c53
                        obtain ⟨y327, hy327⟩ : ∃ y_ : List ByteArray, y_ = (x3_8 ++ [rdOf ByteArray.empty l0_6 x8_8]) := ⟨_, rfl⟩
                        replace H : (isoglossref06_Subtags.l4 k8 y327 (wrap64 (x8_8 + 1)) a0_0 l0_1 a0_2 a0_3 l0_4 l0_5 l0_6 a0_7) = some r := by first | (rw [hy327]; with_reducible exact H) | (have H2_ := (Option.bind_some _ _).symm.trans H; rw [hy327]; with_reducible exact H2_) | (have H2_ := (Option.bind_some _ _).symm.trans H; with_reducible exact H2_) | with_reducible exact H | (rw [hy327]; exact H) | exact H
                        have Ny327 := Aside0.mk hy327
                        clear hy327
                        have H' := Aside0.mk H
                        clear H
                        obtain ⟨hcz54_0, hcz54_1, hcz54_2, hcz54_3, hcz54_4, hcz54_5, hcz54_6, hcz54_7, hfz54_0, hfz54_1, hfz54_2, hfz54_3, hfz54_4, hfz54_5, hfz54_6, hfz54_7⟩ := c8_9 BK292.out
                        have p326 : 0 ≤ (x8_8 : Int) := of_decide_eq_true (by first | (with_reducible assumption) | assumption)
                        have q326 : x8_8 < (l0_6.length : Int) := of_decide_eq_true (by first | (with_reducible assumption) | assumption)
                        obtain ⟨ad326, e326, hx326_0⟩ := Kd.at_string HR0_6.out x8_8 p326 q326
                        cases e326
                        replace hx326_0 := (HB.out.cell (World.block_lt_of_cell? w _ hx326_0)).trans hx326_0
                        replace p326 := eq_true p326
                        replace q326 := eq_true q326
                        go_wp2_with (first | ((with_reducible refine gate_builtin (b := .append) (xs := #[.tmp 122, .tmp 128]) rfl ?_); at_builtin; refine Kd.R_append Kd.string (w0 := w) w.heap.size rfl (.tmp 122) (.tmp 128) 26 9 (.string ⟨#[]⟩) 16 rfl Tryz.underlying26 info9 rfl (by decide) (by omega) u3 x3_8 (rdOf ByteArray.empty l0_6 x8_8) [.string (rdOf ByteArray.empty l0_6 x8_8)] (fun _ => True) (fun _ => False) rfl rfl ?aP (fun _ hk => hk.elim) ?aF ?aO ?aB ?aS ?aL ?_; (case aP => exact rfl); (case aB => exact (by repeat (first | (with_reducible first | exact HB.out | apply wA_ | apply wN_ | apply wD_ | refine wS_ ?_ GE292.out) | exact HB.out))); (case aF => exact (fun _ _ => trivial)); (case aO => exact (by (with_reducible repeat (first | apply rA_ | apply rN_ | apply rD_)); exact HO_3.out)); (case aS => exact (wZ_ (by repeat (first | (with_reducible first | exact HB.out | apply wA_ | apply wN_ | apply wD_ | refine wS_ ?_ GE292.out) | exact HB.out)))); (case aL => have := LMc53.out; omega); intro v328 w55 ho hb hg hat; rw [← Ny327.out] at ho; have n0_ := Aside0.mk (blk_grown (g := gb292) (o := .cells #[.string a0_0, .slice A0_1 l0_1.length c0_1, .string a0_2, .string a0_3, .slice A0_4 l0_4.length c0_4, .slice A0_5 l0_5.length c0_5, .slice (some ad326) l0_6.length c0_6, .string a0_7] 29 (0, 0)) (by (with_reducible repeat (first | refine bN_ ?_ _ | refine bD_ ?_ | refine bA_ ?_ _)); exact BK292.out) hg (Kd.R_ne HO_3.out BK292.out (by decide))); have n1_ := Aside0.mk (hb); have n2_ := Aside0.mk (ho); clear BK292; clear HB; clear HO_3; have BK292 := n0_; have HB := n1_; have HO329 := n2_; clear n0_ n1_ n2_; clear ho hb hg hat))
                        go_roundg k8
                        case measure => have := HJ2.out; have := HK2.out; have := HJ14.out; have := HJ20.out; have := HK5.out; have := HK6.out; have := HJ45.out; have := HK8.out; omega
                        case rel => exact ⟨(y327), (wrap64 (x8_8 + 1)), (by first | rfl | (simp; done) | (simp [*]; done)), H', ⟨by have := HJ2.out; have := HK2.out; have := HJ14.out; have := HJ20.out; have := HK5.out; have := HK6.out; have := HJ45.out; have := HK8.out; omega⟩, ⟨by (with_reducible repeat (first | apply rA_ | apply rN_ | apply rD_)); exact HO329.out⟩, ⟨by (with_reducible repeat (first | refine bN_ ?_ _ | refine bD_ ?_ | refine bA_ ?_ _)); exact BK292.out⟩, ⟨by repeat (first | (with_reducible first | exact HB.out | apply wA_ | apply wN_ | apply wD_ | refine wS_ ?_ GE292.out) | exact HB.out)⟩⟩
                       ·rw [if_neg c53] at H
                        exact absurd H (by simp)
                      ·rw [if_neg c52] at H
                       exact absurd H (by simp)
                     ·rw [if_neg c51] at H
                      have c51b0 : decide (x8_8 < (l0_6.length : Int)) = false := decide_eq_false c51
                      clear c51
                      obtain rfl := Option.some.inj H
                      obtain ⟨hcz56_0, hcz56_1, hcz56_2, hcz56_3, hcz56_4, hcz56_5, hcz56_6, hcz56_7, hfz56_0, hfz56_1, hfz56_2, hfz56_3, hfz56_4, hfz56_5, hfz56_6, hfz56_7⟩ := c8_9 BK292.out
                      go_wp2
                      go_ret
                      exact ⟨_, by first | rfl | (simp [errW_none, errW_some] <;> rfl) | (simp [*, errW_none, errW_some] <;> rfl), by (with_reducible repeat (first | apply rA_ | apply rN_ | apply rD_)); exact HO_3.out, by repeat (first | (with_reducible first | exact HB.out | apply wA_ | apply wN_ | apply wD_ | refine wS_ ?_ GE292.out) | exact HB.out)⟩
 ·rw [if_neg c2] at H
  have c2b0 : (a0_7.toList == ([] : List UInt8)) = false := beq_eq_false_iff_ne.mpr c2
  have c2e0 : a0_7.toList.isEmpty = false := List.isEmpty_eq_false_iff.2 c2
  have c2e1 : (!a0_7.toList.isEmpty) = true := by rw [c2e0]; rfl
  have c2b1 : (a0_7.toList != ([] : List UInt8)) = true := bne_iff_ne.mpr c2
  replace H := Option.bind_eq_some_iff.mp H
  obtain ⟨t293, A570, H⟩ := H
  replace H : (some t293) = some r := H
  have A57 := Aside0.mk A570
  clear A570
  obtain rfl := Option.some.inj H
  go_enter Tryz.func40, Tryz.ntmps40
  go_wp2_with (first | ((with_reducible refine gate_dst (N := 1) rfl ?_); refine box_event ?hg (N := 1) ?hd (cs := #[.string a0_0, .slice A0_1 l0_1.length c0_1, .string a0_2, .string a0_3, .slice A0_4 l0_4.length c0_4, .slice A0_5 l0_5.length c0_5, .slice A0_6 l0_6.length c0_6, .string a0_7]) (t := 29) ?hr ?_; (case hd => rfl); (case hg => rfl); (case hr => first | (go_simp; done) | (go_simp; rfl)); intro gb292 hg w58 hbox hb; have n0_ := Aside0.mk (below_step (by repeat (first | (with_reducible first | exact HB.out | apply wA_ | apply wN_ | apply wD_) | exact HB.out)) hb); have n1_ := Aside0.mk (hbox); have n2_ := Aside0.mk ((by rw [hg]; exact (wZ_ (by repeat (first | (with_reducible first | exact HB.out | apply wA_ | apply wN_ | apply wD_) | exact HB.out))) : w.heap.size ≤ gb292)); have n3_ := Aside0.mk ((by rw [hg]; exact (wZ_ (by repeat (first | (with_reducible first | exact HB.out | apply wA_ | apply wN_ | apply wD_) | exact HB.out))) : w.heap.size ≤ gb292)); clear HB; have HB := n0_; have BK292 := n1_; have GW292 := n2_; have GE292 := n3_; clear n0_ n1_ n2_ n3_; clear hb hbox hg; have hcz59_0 : w58.cell? ⟨gb292, 0, none⟩ = some (.string a0_0) := (bC_ BK292.out 0).trans rfl; have hcz59_1 : w58.cell? ⟨gb292, 1, none⟩ = some (.slice A0_1 l0_1.length c0_1) := (bC_ BK292.out 1).trans rfl; have hcz59_2 : w58.cell? ⟨gb292, 2, none⟩ = some (.string a0_2) := (bC_ BK292.out 2).trans rfl; have hcz59_3 : w58.cell? ⟨gb292, 3, none⟩ = some (.string a0_3) := (bC_ BK292.out 3).trans rfl; have hcz59_4 : w58.cell? ⟨gb292, 4, none⟩ = some (.slice A0_4 l0_4.length c0_4) := (bC_ BK292.out 4).trans rfl; have hcz59_5 : w58.cell? ⟨gb292, 5, none⟩ = some (.slice A0_5 l0_5.length c0_5) := (bC_ BK292.out 5).trans rfl; have hcz59_6 : w58.cell? ⟨gb292, 6, none⟩ = some (.slice A0_6 l0_6.length c0_6) := (bC_ BK292.out 6).trans rfl; have hcz59_7 : w58.cell? ⟨gb292, 7, none⟩ = some (.string a0_7) := (bC_ BK292.out 7).trans rfl; have hfz59_0 := bF_ BK292.out 0; have hfz59_1 := bF_ BK292.out 1; have hfz59_2 := bF_ BK292.out 2; have hfz59_3 := bF_ BK292.out 3; have hfz59_4 := bF_ BK292.out 4; have hfz59_5 := bF_ BK292.out 5; have hfz59_6 := bF_ BK292.out 6; have hfz59_7 := bF_ BK292.out 7) | ((with_reducible refine gate_callee (f := 23) rfl ?_); refine goesL_ (some 14) rfl rfl Tryz.func23 (by kernel_rfl) rfl #[.string a0_7] rfl (by (try simp only [List.map_toArray, List.map_cons, List.map_nil]); first | done | rfl | (simp only [List.length_drop, List.length_take]; rfl)) ?_; (with_reducible refine (isoglossref04_Split.calls k a0_7 t293 _ A57.out).mono ?_); rintro e w60 ⟨v294, rfl, ho0, hb⟩; refine ⟨_, rfl, ?_⟩; have n0_ := Aside0.mk (Kd.R_lower ho0 (wZ_ (by repeat (first | (with_reducible first | exact HB.out | apply wA_ | apply wN_ | apply wD_ | refine wS_ ?_ GE292.out) | exact HB.out)))); have n1_ := Aside0.mk (blk_below (g := gb292) (o := .cells #[.string a0_0, .slice A0_1 l0_1.length c0_1, .string a0_2, .string a0_3, .slice A0_4 l0_4.length c0_4, .slice A0_5 l0_5.length c0_5, .slice A0_6 l0_6.length c0_6, .string a0_7] 29 (0, 0)) (by (with_reducible repeat (first | refine bN_ ?_ _ | refine bD_ ?_ | refine bA_ ?_ _)); exact BK292.out) hb); have n2_ := Aside0.mk (below_step (by repeat (first | (with_reducible first | exact HB.out | apply wA_ | apply wN_ | apply wD_ | refine wS_ ?_ GE292.out) | exact HB.out)) hb); clear BK292; clear HB; have HO295 := n0_; have BK292 := n1_; have HB := n2_; clear n0_ n1_ n2_; (try clear hb); (try clear hb2); (try clear hk); (try clear hi); (try clear ho0)))
  go_ret
  exact ⟨_, by first | rfl | (simp [errW_none, errW_some] <;> rfl) | (simp [*, errW_none, errW_some] <;> rfl), by (with_reducible repeat (first | apply rA_ | apply rN_ | apply rD_)); exact HO295.out, by repeat (first | (with_reducible first | exact HB.out | apply wA_ | apply wN_ | apply wD_ | refine wS_ ?_ GE292.out) | exact HB.out)⟩
end Go.Proofs.YtejnfbfikadpdaaGreatDoor.P
