-- Written for this claim by the session's own run of the print, functions proved by hand put in.
import Derived.Test.YtejnfbfikadpdaaGreatDoorPx0
import Derived.Test.YtejnfbfikadpdaaGreatDoorPx8
import Derived.Test.YtejnfbfikadpdaaGreatDoorPx9
namespace Go.Proofs.YtejnfbfikadpdaaGreatDoor.P
open Go.RowKit Go.Proofs.YtejnfbfikadpdaaGreatDoorW.PrintWords Go.Proofs.YtejnfbfikadpdaaGreatDoorW.PrintLast Go.Proofs.YtejnfbfikadpdaaGreatDoorW.PrintMore
open Go.Proofs.YtejnfbfikadpdaaGreatDoorW.PrintWords renaming blk_alloc → bA_, blk_drewN → bN_, blk_drew → bD_, blk_frozen → bF_, blk_cell → bC_, below_alloc → wA_, pw_below_drewN → wN_, below_drew1 → wD_, below_set → wS_, below_size → wZ_, below_step → wT_
open Go.Proofs.YtejnfbfikadpdaaGreatDoorW.PrintWords.Kd renaming C_alloc → cA_, C_drewN → cN_, C_drew → cD_, C_below → cB_
theorem c8_10 {w : World} {g : Nat} {t : TypeId} {x0 x1 x2 x3 x4 x5 x6 x7 : Value} (h : w.heap[g]? = some (.cells #[x0, x1, x2, x3, x4, x5, x6, x7] t (0, 0))) : w.cell? ⟨g, 0, none⟩ = some x0 ∧ w.cell? ⟨g, 1, none⟩ = some x1 ∧ w.cell? ⟨g, 2, none⟩ = some x2 ∧ w.cell? ⟨g, 3, none⟩ = some x3 ∧ w.cell? ⟨g, 4, none⟩ = some x4 ∧ w.cell? ⟨g, 5, none⟩ = some x5 ∧ w.cell? ⟨g, 6, none⟩ = some x6 ∧ w.cell? ⟨g, 7, none⟩ = some x7 ∧ w.frozen? ⟨g, 0, none⟩ = false ∧ w.frozen? ⟨g, 1, none⟩ = false ∧ w.frozen? ⟨g, 2, none⟩ = false ∧ w.frozen? ⟨g, 3, none⟩ = false ∧ w.frozen? ⟨g, 4, none⟩ = false ∧ w.frozen? ⟨g, 5, none⟩ = false ∧ w.frozen? ⟨g, 6, none⟩ = false ∧ w.frozen? ⟨g, 7, none⟩ = false :=
  ⟨(Go.Proofs.YtejnfbfikadpdaaGreatDoorW.PrintWords.blk_cell h 0).trans rfl, (Go.Proofs.YtejnfbfikadpdaaGreatDoorW.PrintWords.blk_cell h 1).trans rfl, (Go.Proofs.YtejnfbfikadpdaaGreatDoorW.PrintWords.blk_cell h 2).trans rfl, (Go.Proofs.YtejnfbfikadpdaaGreatDoorW.PrintWords.blk_cell h 3).trans rfl, (Go.Proofs.YtejnfbfikadpdaaGreatDoorW.PrintWords.blk_cell h 4).trans rfl, (Go.Proofs.YtejnfbfikadpdaaGreatDoorW.PrintWords.blk_cell h 5).trans rfl, (Go.Proofs.YtejnfbfikadpdaaGreatDoorW.PrintWords.blk_cell h 6).trans rfl, (Go.Proofs.YtejnfbfikadpdaaGreatDoorW.PrintWords.blk_cell h 7).trans rfl, Go.Proofs.YtejnfbfikadpdaaGreatDoorW.PrintWords.blk_frozen h 0, Go.Proofs.YtejnfbfikadpdaaGreatDoorW.PrintWords.blk_frozen h 1, Go.Proofs.YtejnfbfikadpdaaGreatDoorW.PrintWords.blk_frozen h 2, Go.Proofs.YtejnfbfikadpdaaGreatDoorW.PrintWords.blk_frozen h 3, Go.Proofs.YtejnfbfikadpdaaGreatDoorW.PrintWords.blk_frozen h 4, Go.Proofs.YtejnfbfikadpdaaGreatDoorW.PrintWords.blk_frozen h 5, Go.Proofs.YtejnfbfikadpdaaGreatDoorW.PrintWords.blk_frozen h 6, Go.Proofs.YtejnfbfikadpdaaGreatDoorW.PrintWords.blk_frozen h 7⟩
attribute [local go_sem] max2_int min2_int max_two min_two max_three min_three max_four min_four   -- for this text's walks alone
set_option linter.unusedVariables false
set_option linter.unusedSimpArgs false
def isoglossref07_Text.f (k : Nat) (a0_0 : ByteArray) (l0_1 : List ByteArray) (a0_2 : ByteArray) (a0_3 : ByteArray) (l0_4 : List ByteArray) (l0_5 : List (S47)) (l0_6 : List ByteArray) (a0_7 : ByteArray) : Option (ByteArray) := (isoglossref06_Subtags.f k a0_0 l0_1 a0_2 a0_3 l0_4 l0_5 l0_6 a0_7).bind fun t331 => ((isoglossref04_Join.f k t331).bind fun t334 => (some t334))
set_option maxHeartbeats 8000000 in
set_option maxRecDepth 100000 in
theorem isoglossref07_Text.calls (k : Nat) (a0_0 : ByteArray) (A0_1 : Option Addr) (c0_1 : Nat) (l0_1 : List ByteArray) (a0_2 : ByteArray) (a0_3 : ByteArray) (A0_4 : Option Addr) (c0_4 : Nat) (l0_4 : List ByteArray) (A0_5 : Option Addr) (c0_5 : Nat) (l0_5 : List (S47)) (A0_6 : Option Addr) (c0_6 : Nat) (l0_6 : List ByteArray) (a0_7 : ByteArray) (r : ByteArray) (w : World) (hr0_1 : Kd.C Kd.string w A0_1 l0_1.length l0_1) (hc0_1 : l0_1.length ≤ c0_1) (hr0_4 : Kd.C Kd.string w A0_4 l0_4.length l0_4) (hc0_4 : l0_4.length ≤ c0_4) (hr0_5 : Kd.C k47 w A0_5 l0_5.length l0_5) (hc0_5 : l0_5.length ≤ c0_5) (hr0_6 : Kd.C Kd.string w A0_6 l0_6.length l0_6) (hc0_6 : l0_6.length ≤ c0_6) (h : isoglossref07_Text.f k a0_0 l0_1 a0_2 a0_3 l0_4 l0_5 l0_6 a0_7 = some r) :
  Calls Tryz.prog 12 #[.agg #[.string a0_0, .slice A0_1 l0_1.length c0_1, .string a0_2, .string a0_3, .slice A0_4 l0_4.length c0_4, .slice A0_5 l0_5.length c0_5, .slice A0_6 l0_6.length c0_6, .string a0_7]] w fun e w' => e = .returned (.string r) ∧ Below w.heap.size w w' := by
 have hu29 := Tryz.underlying29
 have HR0_1 := Aside0.mk hr0_1
 have HC0_1 := Aside0.mk hc0_1
 clear hr0_1 hc0_1
 have HR0_4 := Aside0.mk hr0_4
 have HC0_4 := Aside0.mk hc0_4
 clear hr0_4 hc0_4
 have HR0_5 := Aside0.mk hr0_5
 have HC0_5 := Aside0.mk hc0_5
 clear hr0_5 hc0_5
 have HR0_6 := Aside0.mk hr0_6
 have HC0_6 := Aside0.mk hc0_6
 clear hr0_6 hc0_6
 have HB := Aside0.mk (Below.refl w.heap.size w)
 have H : ((isoglossref06_Subtags.f k a0_0 l0_1 a0_2 a0_3 l0_4 l0_5 l0_6 a0_7).bind fun t331 => ((isoglossref04_Join.f k t331).bind fun t334 => (some t334))) = some r := h
 clear h
 replace H := Option.bind_eq_some_iff.mp H
 obtain ⟨t331, A20, H⟩ := H
 replace H : ((isoglossref04_Join.f k t331).bind fun t334 => (some t334)) = some r := H
 have A2 := Aside0.mk A20
 clear A20
 replace H := Option.bind_eq_some_iff.mp H
 obtain ⟨t334, A30, H⟩ := H
 replace H : (some t334) = some r := H
 have A3 := Aside0.mk A30
 clear A30
 obtain rfl := Option.some.inj H
 go_enter Tryz.func12, Tryz.ntmps12
 go_wp2_with (first | ((with_reducible refine gate_dst (N := 1) rfl ?_); refine box_event ?hg (N := 1) ?hd (cs := #[.string a0_0, .slice A0_1 l0_1.length c0_1, .string a0_2, .string a0_3, .slice A0_4 l0_4.length c0_4, .slice A0_5 l0_5.length c0_5, .slice A0_6 l0_6.length c0_6, .string a0_7]) (t := 29) ?hr ?_; (case hd => rfl); (case hg => rfl); (case hr => first | (go_simp; done) | (go_simp; rfl)); intro gb330 hg w4 hbox hb; have n0_ := Aside0.mk (wT_ (by repeat (first | (with_reducible first | exact HB.out | apply wA_ | apply wN_ | apply wD_) | exact HB.out)) hb); have n1_ := Aside0.mk (hbox); have n2_ := Aside0.mk ((by rw [hg]; exact (wZ_ (by repeat (first | (with_reducible first | exact HB.out | apply wA_ | apply wN_ | apply wD_) | exact HB.out))) : w.heap.size ≤ gb330)); have n3_ := Aside0.mk ((by rw [hg]; exact (wZ_ (by repeat (first | (with_reducible first | exact HB.out | apply wA_ | apply wN_ | apply wD_) | exact HB.out))) : w.heap.size ≤ gb330)); clear HB; have HB := n0_; have BK330 := n1_; have GW330 := n2_; have GE330 := n3_; clear n0_ n1_ n2_ n3_; clear hb hbox hg; have hcz5_0 : w4.cell? ⟨gb330, 0, none⟩ = some (.string a0_0) := (bC_ BK330.out 0).trans rfl; have hcz5_1 : w4.cell? ⟨gb330, 1, none⟩ = some (.slice A0_1 l0_1.length c0_1) := (bC_ BK330.out 1).trans rfl; have hcz5_2 : w4.cell? ⟨gb330, 2, none⟩ = some (.string a0_2) := (bC_ BK330.out 2).trans rfl; have hcz5_3 : w4.cell? ⟨gb330, 3, none⟩ = some (.string a0_3) := (bC_ BK330.out 3).trans rfl; have hcz5_4 : w4.cell? ⟨gb330, 4, none⟩ = some (.slice A0_4 l0_4.length c0_4) := (bC_ BK330.out 4).trans rfl; have hcz5_5 : w4.cell? ⟨gb330, 5, none⟩ = some (.slice A0_5 l0_5.length c0_5) := (bC_ BK330.out 5).trans rfl; have hcz5_6 : w4.cell? ⟨gb330, 6, none⟩ = some (.slice A0_6 l0_6.length c0_6) := (bC_ BK330.out 6).trans rfl; have hcz5_7 : w4.cell? ⟨gb330, 7, none⟩ = some (.string a0_7) := (bC_ BK330.out 7).trans rfl; have hfz5_0 := bF_ BK330.out 0; have hfz5_1 := bF_ BK330.out 1; have hfz5_2 := bF_ BK330.out 2; have hfz5_3 := bF_ BK330.out 3; have hfz5_4 := bF_ BK330.out 4; have hfz5_5 := bF_ BK330.out 5; have hfz5_6 := bF_ BK330.out 6; have hfz5_7 := bF_ BK330.out 7) | ((with_reducible refine gate_callee (f := 40) rfl ?_); refine goesL_ (some 4) rfl rfl Tryz.func40 (by kernel_rfl) rfl #[.agg #[.string a0_0, .slice A0_1 l0_1.length c0_1, .string a0_2, .string a0_3, .slice A0_4 l0_4.length c0_4, .slice A0_5 l0_5.length c0_5, .slice A0_6 l0_6.length c0_6, .string a0_7]] rfl (by (try simp only [List.map_toArray, List.map_cons, List.map_nil]); first | done | rfl | (simp only [List.length_drop, List.length_take]; rfl)) ?_; (with_reducible refine (isoglossref06_Subtags.calls k a0_0 _ _ l0_1 a0_2 a0_3 _ _ l0_4 _ _ l0_5 _ _ l0_6 a0_7 t331 _ ?side1 ?side2 ?side3 ?side4 ?side5 ?side6 ?side7 ?side8 A2.out).mono ?_); (case side1 => repeat (first | exact (cB_ HR0_1.out HB.out) | (with_reducible refine cA_ ?_ _) | (with_reducible refine cN_ ?_ _) | (with_reducible refine cD_ ?_))); (case side2 => exact HC0_1.out); (case side3 => repeat (first | exact (cB_ HR0_4.out HB.out) | (with_reducible refine cA_ ?_ _) | (with_reducible refine cN_ ?_ _) | (with_reducible refine cD_ ?_))); (case side4 => exact HC0_4.out); (case side5 => repeat (first | exact (cB_ HR0_5.out HB.out) | (with_reducible refine cA_ ?_ _) | (with_reducible refine cN_ ?_ _) | (with_reducible refine cD_ ?_))); (case side6 => exact HC0_5.out); (case side7 => repeat (first | exact (cB_ HR0_6.out HB.out) | (with_reducible refine cA_ ?_ _) | (with_reducible refine cN_ ?_ _) | (with_reducible refine cD_ ?_))); (case side8 => exact HC0_6.out); rintro e w6 ⟨v332, rfl, ho0, hb⟩; refine ⟨_, rfl, ?_⟩; have n0_ := Aside0.mk (Kd.R_lower ho0 (wZ_ (by repeat (first | (with_reducible first | exact HB.out | apply wA_ | apply wN_ | apply wD_ | refine wS_ ?_ GE330.out) | exact HB.out)))); have n1_ := Aside0.mk (blk_below (g := gb330) (o := .cells #[.string a0_0, .slice A0_1 l0_1.length c0_1, .string a0_2, .string a0_3, .slice A0_4 l0_4.length c0_4, .slice A0_5 l0_5.length c0_5, .slice A0_6 l0_6.length c0_6, .string a0_7] 29 (0, 0)) (by (with_reducible repeat (first | refine bN_ ?_ _ | refine bD_ ?_ | refine bA_ ?_ _)); exact BK330.out) hb); have n2_ := Aside0.mk (wT_ (by repeat (first | (with_reducible first | exact HB.out | apply wA_ | apply wN_ | apply wD_ | refine wS_ ?_ GE330.out) | exact HB.out)) hb); clear BK330; clear HB; have HO333 := n0_; have BK330 := n1_; have HB := n2_; clear n0_ n1_ n2_; (try clear hb); (try clear hb2); (try clear hk); (try clear hi); (try clear ho0); obtain ⟨Ao7, co7, eo7⟩ := Kd.R_slice HO333.out; subst eo7) | ((with_reducible refine gate_callee (f := 39) rfl ?_); refine goesL_ (some 5) rfl rfl Tryz.func39 (by kernel_rfl) rfl #[.slice Ao7 t331.length co7] rfl (by (try simp only [List.map_toArray, List.map_cons, List.map_nil]); first | done | rfl | (simp only [List.length_drop, List.length_take]; rfl)) ?_; (with_reducible refine (isoglossref04_Join.calls k _ _ t331 t334 _ ?side1 ?side2 A3.out).mono ?_); (case side1 => repeat (first | exact (Kd.R_reads' HO333.out).2.2 | (with_reducible refine cA_ ?_ _) | (with_reducible refine cN_ ?_ _) | (with_reducible refine cD_ ?_))); (case side2 => exact (Kd.R_reads' HO333.out).2.1); rintro e w' ⟨rfl, ⟨nd, rfl⟩⟩; refine ⟨_, rfl, ?_⟩))
 go_ret
 exact ⟨by first | rfl | (simp [errW_none, errW_some] <;> rfl) | (simp [*, errW_none, errW_some] <;> rfl), by repeat (first | (with_reducible first | exact HB.out | apply wA_ | apply wN_ | apply wD_ | refine wS_ ?_ GE330.out) | exact HB.out)⟩
def isoglossref04_Same.l0 : Nat → List ByteArray → List ByteArray → Int → Option (Bool)
 | 0, _, _, _ => none
 | k + 1, x0, x1, x5 => if x5 < (x0.length : Int) then (if 0 ≤ x5 then (if x5 < (x1.length : Int) then (if (rdOf ByteArray.empty x0 x5).toList = (rdOf ByteArray.empty x1 x5).toList then (isoglossref04_Same.l0 k x0 x1 (wrap64 (x5 + 1))) else (some false)) else (none)) else (none)) else (some true)
def isoglossref04_Same.f (k : Nat) (l0 : List ByteArray) (l1 : List ByteArray) : Option (Bool) := if (l0.length : Int) = (l1.length : Int) then (isoglossref04_Same.l0 k l0 l1 0) else (some false)
set_option maxHeartbeats 8000000 in
set_option maxRecDepth 100000 in
theorem isoglossref04_Same.calls (k : Nat) (A0 : Option Addr) (c0 : Nat) (l0 : List ByteArray) (A1 : Option Addr) (c1 : Nat) (l1 : List ByteArray) (r : Bool) (w : World) (hr0 : Kd.C Kd.string w A0 l0.length l0) (hc0 : l0.length ≤ c0) (hr1 : Kd.C Kd.string w A1 l1.length l1) (hc1 : l1.length ≤ c1) (h : isoglossref04_Same.f k l0 l1 = some r) :
  Calls Tryz.prog 22 #[.slice A0 l0.length c0, .slice A1 l1.length c1] w fun e w' => e = .returned (.bool r) ∧ Drawn0 w w' := by
 have HR0 := Aside0.mk hr0
 have HC0 := Aside0.mk hc0
 clear hr0 hc0
 have HR1 := Aside0.mk hr1
 have HC1 := Aside0.mk hc1
 clear hr1 hc1
 have H : (if (l0.length : Int) = (l1.length : Int) then (isoglossref04_Same.l0 k l0 l1 0) else (some false)) = some r := h
 clear h
 by_cases c3 : (l0.length : Int) = (l1.length : Int)
 ·rw [if_pos c3] at H
  have c3b0 : ((l0.length : Int) == (l1.length : Int)) = true := beq_iff_eq.mpr c3
  have c3b1 : ((l0.length : Int) != (l1.length : Int)) = false := bne_eq_false_iff_eq.mpr c3
  have c3b2 : (l0.length == l1.length) = true := by first | simpa using c3 | (simp at c3 ⊢; omega)
  clear c3
  have H' := Aside0.mk H
  clear H
  go_enter Tryz.func22, Tryz.ntmps22
  go_wp2
  repeat (go_quiet (fail); try go_wp2)
  go_loopg [5] k (fun kq v5 w' => ∃ (x5_1 : Int), v5 = .int .i64 x5_1 ∧ Aside0 (isoglossref04_Same.l0 kq l0 l1 x5_1 = some r) ∧ Aside0 (kq ≤ k) ∧ Drawn0 w w')
  case atStart => exact ⟨(0), (by first | rfl | (simp; done) | (simp [*]; done)), H', ⟨Nat.le_refl _⟩, by repeat (first | exact Drawn0.refl _ | apply Drawn0.step)⟩
  case round =>
   clear H'
   try clear c1; try clear c2; try clear p2; try clear c3; try clear c3b0; try clear c3b1; try clear c3b2
   obtain ⟨x5_1, rfl, HA, HK1, ⟨m1, rfl⟩⟩ := hrel
   cases gk with
   | zero => exact absurd HA.out (by simp [isoglossref04_Same.l0])
   | succ k1 =>
    have H := HA.out
    clear HA
    simp only [isoglossref04_Same.l0] at H
    by_cases c4 : x5_1 < (l0.length : Int)
    ·rw [if_pos c4] at H
     have c4b0 : decide (x5_1 < (l0.length : Int)) = true := decide_eq_true c4
     clear c4
     by_cases c5 : 0 ≤ x5_1
     ·rw [if_pos c5] at H
      have c5b0 : decide (0 ≤ x5_1) = true := decide_eq_true c5
      clear c5
      by_cases c6 : x5_1 < (l1.length : Int)
      ·rw [if_pos c6] at H
       have c6b0 : decide (x5_1 < (l1.length : Int)) = true := decide_eq_true c6
       clear c6
       by_cases c7 : (rdOf ByteArray.empty l0 x5_1).toList = (rdOf ByteArray.empty l1 x5_1).toList
       ·rw [if_pos c7] at H
        have c7b0 : ((rdOf ByteArray.empty l0 x5_1).toList == (rdOf ByteArray.empty l1 x5_1).toList) = true := beq_iff_eq.mpr c7
        have c7b1 : ((rdOf ByteArray.empty l0 x5_1).toList != (rdOf ByteArray.empty l1 x5_1).toList) = false := bne_eq_false_iff_eq.mpr c7
        clear c7
        have H' := Aside0.mk H
        clear H
        have p335 : 0 ≤ (x5_1 : Int) := of_decide_eq_true (by first | (with_reducible assumption) | assumption)
        have q335 : x5_1 < (l0.length : Int) := of_decide_eq_true (by first | (with_reducible assumption) | assumption)
        obtain ⟨ad335, e335, hx335_0⟩ := Kd.at_string HR0.out x5_1 p335 q335
        cases e335
        replace p335 := eq_true p335
        replace q335 := eq_true q335
        have p336 : 0 ≤ (x5_1 : Int) := of_decide_eq_true (by first | (with_reducible assumption) | assumption)
        have q336 : x5_1 < (l1.length : Int) := of_decide_eq_true (by first | (with_reducible assumption) | assumption)
        obtain ⟨ad336, e336, hx336_0⟩ := Kd.at_string HR1.out x5_1 p336 q336
        cases e336
        replace p336 := eq_true p336
        replace q336 := eq_true q336
        go_wp2
        repeat (go_quiet (fail); try go_wp2)
        go_roundg k1
        case measure => have := HK1.out; omega
        case rel => exact ⟨(wrap64 (x5_1 + 1)), (by first | rfl | (simp; done) | (simp [*]; done)), H', ⟨by have := HK1.out; omega⟩, by repeat (first | exact Drawn0.refl _ | apply Drawn0.step)⟩
       ·rw [if_neg c7] at H
        have c7b0 : ((rdOf ByteArray.empty l0 x5_1).toList == (rdOf ByteArray.empty l1 x5_1).toList) = false := beq_eq_false_iff_ne.mpr c7
        have c7b1 : ((rdOf ByteArray.empty l0 x5_1).toList != (rdOf ByteArray.empty l1 x5_1).toList) = true := bne_iff_ne.mpr c7
        obtain rfl := Option.some.inj H
        have p335 : 0 ≤ (x5_1 : Int) := of_decide_eq_true (by first | (with_reducible assumption) | assumption)
        have q335 : x5_1 < (l0.length : Int) := of_decide_eq_true (by first | (with_reducible assumption) | assumption)
        obtain ⟨ad335, e335, hx335_0⟩ := Kd.at_string HR0.out x5_1 p335 q335
        cases e335
        replace p335 := eq_true p335
        replace q335 := eq_true q335
        have p336 : 0 ≤ (x5_1 : Int) := of_decide_eq_true (by first | (with_reducible assumption) | assumption)
        have q336 : x5_1 < (l1.length : Int) := of_decide_eq_true (by first | (with_reducible assumption) | assumption)
        obtain ⟨ad336, e336, hx336_0⟩ := Kd.at_string HR1.out x5_1 p336 q336
        cases e336
        replace p336 := eq_true p336
        replace q336 := eq_true q336
        go_wp2
        repeat (go_quiet (fail); try go_wp2)
        go_ret
        exact ⟨by first | rfl | (simp; done) | (simp [*]; done), by repeat (first | exact Drawn0.refl _ | apply Drawn0.step)⟩
      ·rw [if_neg c6] at H
       exact absurd H (by simp)
     ·rw [if_neg c5] at H
      exact absurd H (by simp)
    ·rw [if_neg c4] at H
     have c4b0 : decide (x5_1 < (l0.length : Int)) = false := decide_eq_false c4
     clear c4
     obtain rfl := Option.some.inj H
     go_wp2
     repeat (go_quiet (fail); try go_wp2)
     go_ret
     exact ⟨by first | rfl | (simp; done) | (simp [*]; done), by repeat (first | exact Drawn0.refl _ | apply Drawn0.step)⟩
 ·rw [if_neg c3] at H
  have c3b0 : ((l0.length : Int) == (l1.length : Int)) = false := beq_eq_false_iff_ne.mpr c3
  have c3b1 : ((l0.length : Int) != (l1.length : Int)) = true := bne_iff_ne.mpr c3
  have c3b2 : (l0.length == l1.length) = false := by first | simpa using c3 | (simp at c3 ⊢; omega)
  obtain rfl := Option.some.inj H
  go_enter Tryz.func22, Tryz.ntmps22
  go_wp2
  repeat (go_quiet (fail); try go_wp2)
  go_ret
  exact ⟨by first | rfl | (simp; done) | (simp [*]; done), by repeat (first | exact Drawn0.refl _ | apply Drawn0.step)⟩
mutual
def isoglossref06_Same.j0 : Nat → Bool → ByteArray → List ByteArray → ByteArray → ByteArray → List ByteArray → List (S47) → List ByteArray → ByteArray → ByteArray → List ByteArray → ByteArray → ByteArray → List ByteArray → List (S47) → List ByteArray → ByteArray → Option (Bool)
 | 0, _, _, _, _, _, _, _, _, _, _, _, _, _, _, _, _, _ => none
 | k + 1, x71, x338000, x338001, x338002, x338003, x338004, x338005, x338006, x338007, x339000, x339001, x339002, x339003, x339004, x339005, x339006, x339007 => if x71 = true then (some false) else (isoglossref06_Same.l0 k 0 x338000 x338001 x338002 x338003 x338004 x338005 x338006 x338007 x339000 x339001 x339002 x339003 x339004 x339005 x339006 x339007)
def isoglossref06_Same.l0 : Nat → Int → ByteArray → List ByteArray → ByteArray → ByteArray → List ByteArray → List (S47) → List ByteArray → ByteArray → ByteArray → List ByteArray → ByteArray → ByteArray → List ByteArray → List (S47) → List ByteArray → ByteArray → Option (Bool)
 | 0, _, _, _, _, _, _, _, _, _, _, _, _, _, _, _, _, _ => none
 | k + 1, x8, x338000, x338001, x338002, x338003, x338004, x338005, x338006, x338007, x339000, x339001, x339002, x339003, x339004, x339005, x339006, x339007 => if x8 < (x338005.length : Int) then (if 0 ≤ x8 then (if x8 < (x339005.length : Int) then ((isoglossref04_Same.f k ((rd_T47 x338005 x8).f1) ((rd_T47 x339005 x8).f1)).bind fun t344 => (if t344 = true then (if ((rd_T47 x338005 x8).f0).toList = ((rd_T47 x339005 x8).f0).toList then (isoglossref06_Same.l0 k (wrap64 (x8 + 1)) x338000 x338001 x338002 x338003 x338004 x338005 x338006 x338007 x339000 x339001 x339002 x339003 x339004 x339005 x339006 x339007) else (some false)) else (some false))) else (none)) else (none)) else (some true)
end
def isoglossref06_Same.f (k : Nat) (a0_0 : ByteArray) (l0_1 : List ByteArray) (a0_2 : ByteArray) (a0_3 : ByteArray) (l0_4 : List ByteArray) (l0_5 : List (S47)) (l0_6 : List ByteArray) (a0_7 : ByteArray) (a1_0 : ByteArray) (l1_1 : List ByteArray) (a1_2 : ByteArray) (a1_3 : ByteArray) (l1_4 : List ByteArray) (l1_5 : List (S47)) (l1_6 : List ByteArray) (a1_7 : ByteArray) : Option (Bool) := (isoglossref04_Same.f k l0_1 l1_1).bind fun t339 => ((isoglossref04_Same.f k l0_4 l1_4).bind fun t340 => ((isoglossref04_Same.f k l0_6 l1_6).bind fun t341 => (if t339 = true then (if t340 = true then (if t341 = true then (if a0_0.toList = a1_0.toList then (if a0_2.toList = a1_2.toList then (if a0_3.toList = a1_3.toList then (if a0_7.toList = a1_7.toList then (isoglossref06_Same.j0 k ((l0_5.length : Int) != (l1_5.length : Int)) a0_0 l0_1 a0_2 a0_3 l0_4 l0_5 l0_6 a0_7 a1_0 l1_1 a1_2 a1_3 l1_4 l1_5 l1_6 a1_7) else (isoglossref06_Same.j0 k true a0_0 l0_1 a0_2 a0_3 l0_4 l0_5 l0_6 a0_7 a1_0 l1_1 a1_2 a1_3 l1_4 l1_5 l1_6 a1_7)) else (isoglossref06_Same.j0 k true a0_0 l0_1 a0_2 a0_3 l0_4 l0_5 l0_6 a0_7 a1_0 l1_1 a1_2 a1_3 l1_4 l1_5 l1_6 a1_7)) else (isoglossref06_Same.j0 k true a0_0 l0_1 a0_2 a0_3 l0_4 l0_5 l0_6 a0_7 a1_0 l1_1 a1_2 a1_3 l1_4 l1_5 l1_6 a1_7)) else (isoglossref06_Same.j0 k true a0_0 l0_1 a0_2 a0_3 l0_4 l0_5 l0_6 a0_7 a1_0 l1_1 a1_2 a1_3 l1_4 l1_5 l1_6 a1_7)) else (isoglossref06_Same.j0 k true a0_0 l0_1 a0_2 a0_3 l0_4 l0_5 l0_6 a0_7 a1_0 l1_1 a1_2 a1_3 l1_4 l1_5 l1_6 a1_7)) else (isoglossref06_Same.j0 k true a0_0 l0_1 a0_2 a0_3 l0_4 l0_5 l0_6 a0_7 a1_0 l1_1 a1_2 a1_3 l1_4 l1_5 l1_6 a1_7)) else (isoglossref06_Same.j0 k true a0_0 l0_1 a0_2 a0_3 l0_4 l0_5 l0_6 a0_7 a1_0 l1_1 a1_2 a1_3 l1_4 l1_5 l1_6 a1_7))))
set_option maxHeartbeats 8000000 in
set_option maxRecDepth 100000 in
theorem isoglossref06_Same.calls (k : Nat) (a0_0 : ByteArray) (A0_1 : Option Addr) (c0_1 : Nat) (l0_1 : List ByteArray) (a0_2 : ByteArray) (a0_3 : ByteArray) (A0_4 : Option Addr) (c0_4 : Nat) (l0_4 : List ByteArray) (A0_5 : Option Addr) (c0_5 : Nat) (l0_5 : List (S47)) (A0_6 : Option Addr) (c0_6 : Nat) (l0_6 : List ByteArray) (a0_7 : ByteArray) (a1_0 : ByteArray) (A1_1 : Option Addr) (c1_1 : Nat) (l1_1 : List ByteArray) (a1_2 : ByteArray) (a1_3 : ByteArray) (A1_4 : Option Addr) (c1_4 : Nat) (l1_4 : List ByteArray) (A1_5 : Option Addr) (c1_5 : Nat) (l1_5 : List (S47)) (A1_6 : Option Addr) (c1_6 : Nat) (l1_6 : List ByteArray) (a1_7 : ByteArray) (r : Bool) (w : World) (hr0_1 : Kd.C Kd.string w A0_1 l0_1.length l0_1) (hc0_1 : l0_1.length ≤ c0_1) (hr0_4 : Kd.C Kd.string w A0_4 l0_4.length l0_4) (hc0_4 : l0_4.length ≤ c0_4) (hr0_5 : Kd.C k47 w A0_5 l0_5.length l0_5) (hc0_5 : l0_5.length ≤ c0_5) (hr0_6 : Kd.C Kd.string w A0_6 l0_6.length l0_6) (hc0_6 : l0_6.length ≤ c0_6) (hr1_1 : Kd.C Kd.string w A1_1 l1_1.length l1_1) (hc1_1 : l1_1.length ≤ c1_1) (hr1_4 : Kd.C Kd.string w A1_4 l1_4.length l1_4) (hc1_4 : l1_4.length ≤ c1_4) (hr1_5 : Kd.C k47 w A1_5 l1_5.length l1_5) (hc1_5 : l1_5.length ≤ c1_5) (hr1_6 : Kd.C Kd.string w A1_6 l1_6.length l1_6) (hc1_6 : l1_6.length ≤ c1_6) (h : isoglossref06_Same.f k a0_0 l0_1 a0_2 a0_3 l0_4 l0_5 l0_6 a0_7 a1_0 l1_1 a1_2 a1_3 l1_4 l1_5 l1_6 a1_7 = some r) :
  Calls Tryz.prog 16 #[.agg #[.string a0_0, .slice A0_1 l0_1.length c0_1, .string a0_2, .string a0_3, .slice A0_4 l0_4.length c0_4, .slice A0_5 l0_5.length c0_5, .slice A0_6 l0_6.length c0_6, .string a0_7], .agg #[.string a1_0, .slice A1_1 l1_1.length c1_1, .string a1_2, .string a1_3, .slice A1_4 l1_4.length c1_4, .slice A1_5 l1_5.length c1_5, .slice A1_6 l1_6.length c1_6, .string a1_7]] w fun e w' => e = .returned (.bool r) ∧ Below w.heap.size w w' := by
 have hu29 := Tryz.underlying29
 have HR0_1 := Aside0.mk hr0_1
 have HC0_1 := Aside0.mk hc0_1
 clear hr0_1 hc0_1
 have HR0_4 := Aside0.mk hr0_4
 have HC0_4 := Aside0.mk hc0_4
 clear hr0_4 hc0_4
 have HR0_5 := Aside0.mk hr0_5
 have HC0_5 := Aside0.mk hc0_5
 clear hr0_5 hc0_5
 have HR0_6 := Aside0.mk hr0_6
 have HC0_6 := Aside0.mk hc0_6
 clear hr0_6 hc0_6
 have HR1_1 := Aside0.mk hr1_1
 have HC1_1 := Aside0.mk hc1_1
 clear hr1_1 hc1_1
 have HR1_4 := Aside0.mk hr1_4
 have HC1_4 := Aside0.mk hc1_4
 clear hr1_4 hc1_4
 have HR1_5 := Aside0.mk hr1_5
 have HC1_5 := Aside0.mk hc1_5
 clear hr1_5 hc1_5
 have HR1_6 := Aside0.mk hr1_6
 have HC1_6 := Aside0.mk hc1_6
 clear hr1_6 hc1_6
 have HB := Aside0.mk (Below.refl w.heap.size w)
 have H : ((isoglossref04_Same.f k l0_1 l1_1).bind fun t339 => ((isoglossref04_Same.f k l0_4 l1_4).bind fun t340 => ((isoglossref04_Same.f k l0_6 l1_6).bind fun t341 => (if t339 = true then (if t340 = true then (if t341 = true then (if a0_0.toList = a1_0.toList then (if a0_2.toList = a1_2.toList then (if a0_3.toList = a1_3.toList then (if a0_7.toList = a1_7.toList then (isoglossref06_Same.j0 k ((l0_5.length : Int) != (l1_5.length : Int)) a0_0 l0_1 a0_2 a0_3 l0_4 l0_5 l0_6 a0_7 a1_0 l1_1 a1_2 a1_3 l1_4 l1_5 l1_6 a1_7) else (isoglossref06_Same.j0 k true a0_0 l0_1 a0_2 a0_3 l0_4 l0_5 l0_6 a0_7 a1_0 l1_1 a1_2 a1_3 l1_4 l1_5 l1_6 a1_7)) else (isoglossref06_Same.j0 k true a0_0 l0_1 a0_2 a0_3 l0_4 l0_5 l0_6 a0_7 a1_0 l1_1 a1_2 a1_3 l1_4 l1_5 l1_6 a1_7)) else (isoglossref06_Same.j0 k true a0_0 l0_1 a0_2 a0_3 l0_4 l0_5 l0_6 a0_7 a1_0 l1_1 a1_2 a1_3 l1_4 l1_5 l1_6 a1_7)) else (isoglossref06_Same.j0 k true a0_0 l0_1 a0_2 a0_3 l0_4 l0_5 l0_6 a0_7 a1_0 l1_1 a1_2 a1_3 l1_4 l1_5 l1_6 a1_7)) else (isoglossref06_Same.j0 k true a0_0 l0_1 a0_2 a0_3 l0_4 l0_5 l0_6 a0_7 a1_0 l1_1 a1_2 a1_3 l1_4 l1_5 l1_6 a1_7)) else (isoglossref06_Same.j0 k true a0_0 l0_1 a0_2 a0_3 l0_4 l0_5 l0_6 a0_7 a1_0 l1_1 a1_2 a1_3 l1_4 l1_5 l1_6 a1_7)) else (isoglossref06_Same.j0 k true a0_0 l0_1 a0_2 a0_3 l0_4 l0_5 l0_6 a0_7 a1_0 l1_1 a1_2 a1_3 l1_4 l1_5 l1_6 a1_7))))) = some r := h
 clear h
 replace H := Option.bind_eq_some_iff.mp H
 obtain ⟨t339, A30, H⟩ := H
 replace H : ((isoglossref04_Same.f k l0_4 l1_4).bind fun t340 => ((isoglossref04_Same.f k l0_6 l1_6).bind fun t341 => (if t339 = true then (if t340 = true then (if t341 = true then (if a0_0.toList = a1_0.toList then (if a0_2.toList = a1_2.toList then (if a0_3.toList = a1_3.toList then (if a0_7.toList = a1_7.toList then (isoglossref06_Same.j0 k ((l0_5.length : Int) != (l1_5.length : Int)) a0_0 l0_1 a0_2 a0_3 l0_4 l0_5 l0_6 a0_7 a1_0 l1_1 a1_2 a1_3 l1_4 l1_5 l1_6 a1_7) else (isoglossref06_Same.j0 k true a0_0 l0_1 a0_2 a0_3 l0_4 l0_5 l0_6 a0_7 a1_0 l1_1 a1_2 a1_3 l1_4 l1_5 l1_6 a1_7)) else (isoglossref06_Same.j0 k true a0_0 l0_1 a0_2 a0_3 l0_4 l0_5 l0_6 a0_7 a1_0 l1_1 a1_2 a1_3 l1_4 l1_5 l1_6 a1_7)) else (isoglossref06_Same.j0 k true a0_0 l0_1 a0_2 a0_3 l0_4 l0_5 l0_6 a0_7 a1_0 l1_1 a1_2 a1_3 l1_4 l1_5 l1_6 a1_7)) else (isoglossref06_Same.j0 k true a0_0 l0_1 a0_2 a0_3 l0_4 l0_5 l0_6 a0_7 a1_0 l1_1 a1_2 a1_3 l1_4 l1_5 l1_6 a1_7)) else (isoglossref06_Same.j0 k true a0_0 l0_1 a0_2 a0_3 l0_4 l0_5 l0_6 a0_7 a1_0 l1_1 a1_2 a1_3 l1_4 l1_5 l1_6 a1_7)) else (isoglossref06_Same.j0 k true a0_0 l0_1 a0_2 a0_3 l0_4 l0_5 l0_6 a0_7 a1_0 l1_1 a1_2 a1_3 l1_4 l1_5 l1_6 a1_7)) else (isoglossref06_Same.j0 k true a0_0 l0_1 a0_2 a0_3 l0_4 l0_5 l0_6 a0_7 a1_0 l1_1 a1_2 a1_3 l1_4 l1_5 l1_6 a1_7)))) = some r := H
 have A3 := Aside0.mk A30
 clear A30
 replace H := Option.bind_eq_some_iff.mp H
 obtain ⟨t340, A40, H⟩ := H
 replace H : ((isoglossref04_Same.f k l0_6 l1_6).bind fun t341 => (if t339 = true then (if t340 = true then (if t341 = true then (if a0_0.toList = a1_0.toList then (if a0_2.toList = a1_2.toList then (if a0_3.toList = a1_3.toList then (if a0_7.toList = a1_7.toList then (isoglossref06_Same.j0 k ((l0_5.length : Int) != (l1_5.length : Int)) a0_0 l0_1 a0_2 a0_3 l0_4 l0_5 l0_6 a0_7 a1_0 l1_1 a1_2 a1_3 l1_4 l1_5 l1_6 a1_7) else (isoglossref06_Same.j0 k true a0_0 l0_1 a0_2 a0_3 l0_4 l0_5 l0_6 a0_7 a1_0 l1_1 a1_2 a1_3 l1_4 l1_5 l1_6 a1_7)) else (isoglossref06_Same.j0 k true a0_0 l0_1 a0_2 a0_3 l0_4 l0_5 l0_6 a0_7 a1_0 l1_1 a1_2 a1_3 l1_4 l1_5 l1_6 a1_7)) else (isoglossref06_Same.j0 k true a0_0 l0_1 a0_2 a0_3 l0_4 l0_5 l0_6 a0_7 a1_0 l1_1 a1_2 a1_3 l1_4 l1_5 l1_6 a1_7)) else (isoglossref06_Same.j0 k true a0_0 l0_1 a0_2 a0_3 l0_4 l0_5 l0_6 a0_7 a1_0 l1_1 a1_2 a1_3 l1_4 l1_5 l1_6 a1_7)) else (isoglossref06_Same.j0 k true a0_0 l0_1 a0_2 a0_3 l0_4 l0_5 l0_6 a0_7 a1_0 l1_1 a1_2 a1_3 l1_4 l1_5 l1_6 a1_7)) else (isoglossref06_Same.j0 k true a0_0 l0_1 a0_2 a0_3 l0_4 l0_5 l0_6 a0_7 a1_0 l1_1 a1_2 a1_3 l1_4 l1_5 l1_6 a1_7)) else (isoglossref06_Same.j0 k true a0_0 l0_1 a0_2 a0_3 l0_4 l0_5 l0_6 a0_7 a1_0 l1_1 a1_2 a1_3 l1_4 l1_5 l1_6 a1_7))) = some r := H
 have A4 := Aside0.mk A40
 clear A40
 replace H := Option.bind_eq_some_iff.mp H
 obtain ⟨t341, A50, H⟩ := H
 replace H : (if t339 = true then (if t340 = true then (if t341 = true then (if a0_0.toList = a1_0.toList then (if a0_2.toList = a1_2.toList then (if a0_3.toList = a1_3.toList then (if a0_7.toList = a1_7.toList then (isoglossref06_Same.j0 k ((l0_5.length : Int) != (l1_5.length : Int)) a0_0 l0_1 a0_2 a0_3 l0_4 l0_5 l0_6 a0_7 a1_0 l1_1 a1_2 a1_3 l1_4 l1_5 l1_6 a1_7) else (isoglossref06_Same.j0 k true a0_0 l0_1 a0_2 a0_3 l0_4 l0_5 l0_6 a0_7 a1_0 l1_1 a1_2 a1_3 l1_4 l1_5 l1_6 a1_7)) else (isoglossref06_Same.j0 k true a0_0 l0_1 a0_2 a0_3 l0_4 l0_5 l0_6 a0_7 a1_0 l1_1 a1_2 a1_3 l1_4 l1_5 l1_6 a1_7)) else (isoglossref06_Same.j0 k true a0_0 l0_1 a0_2 a0_3 l0_4 l0_5 l0_6 a0_7 a1_0 l1_1 a1_2 a1_3 l1_4 l1_5 l1_6 a1_7)) else (isoglossref06_Same.j0 k true a0_0 l0_1 a0_2 a0_3 l0_4 l0_5 l0_6 a0_7 a1_0 l1_1 a1_2 a1_3 l1_4 l1_5 l1_6 a1_7)) else (isoglossref06_Same.j0 k true a0_0 l0_1 a0_2 a0_3 l0_4 l0_5 l0_6 a0_7 a1_0 l1_1 a1_2 a1_3 l1_4 l1_5 l1_6 a1_7)) else (isoglossref06_Same.j0 k true a0_0 l0_1 a0_2 a0_3 l0_4 l0_5 l0_6 a0_7 a1_0 l1_1 a1_2 a1_3 l1_4 l1_5 l1_6 a1_7)) else (isoglossref06_Same.j0 k true a0_0 l0_1 a0_2 a0_3 l0_4 l0_5 l0_6 a0_7 a1_0 l1_1 a1_2 a1_3 l1_4 l1_5 l1_6 a1_7)) = some r := H
 have A5 := Aside0.mk A50
 clear A50
 have HC6 := Aside0.mk H
 clear H
 go_enter Tryz.func16, Tryz.ntmps16
 go_upto_region 4 with (first | ((with_reducible refine gate_dst (N := 2) rfl ?_); (try (refine gate_guard (by rfl) ?_; dsimp only)); refine box_event ?hg (N := 2) ?hd (cs := #[.string a0_0, .slice A0_1 l0_1.length c0_1, .string a0_2, .string a0_3, .slice A0_4 l0_4.length c0_4, .slice A0_5 l0_5.length c0_5, .slice A0_6 l0_6.length c0_6, .string a0_7]) (t := 29) ?hr ?_; (case hd => rfl); (case hg => rfl); (case hr => first | (go_simp; done) | (go_simp; rfl)); intro gb337 hg w7 hbox hb; have n0_ := Aside0.mk (wT_ (by repeat (first | (with_reducible first | exact HB.out | apply wA_ | apply wN_ | apply wD_) | exact HB.out)) hb); have n1_ := Aside0.mk (hbox); have n2_ := Aside0.mk ((by rw [hg]; exact (wZ_ (by repeat (first | (with_reducible first | exact HB.out | apply wA_ | apply wN_ | apply wD_) | exact HB.out))) : w.heap.size ≤ gb337)); have n3_ := Aside0.mk ((by rw [hg]; exact (wZ_ (by repeat (first | (with_reducible first | exact HB.out | apply wA_ | apply wN_ | apply wD_) | exact HB.out))) : w.heap.size ≤ gb337)); clear HB; have HB := n0_; have BK337 := n1_; have GW337 := n2_; have GE337 := n3_; clear n0_ n1_ n2_ n3_; clear hb hbox hg) | ((with_reducible refine gate_dst (N := 3) rfl ?_); (try (refine gate_guard (by rfl) ?_; dsimp only)); refine box_event ?hg (N := 3) ?hd (cs := #[.string a1_0, .slice A1_1 l1_1.length c1_1, .string a1_2, .string a1_3, .slice A1_4 l1_4.length c1_4, .slice A1_5 l1_5.length c1_5, .slice A1_6 l1_6.length c1_6, .string a1_7]) (t := 29) ?hr ?_; (case hd => rfl); (case hg => rfl); (case hr => first | (go_simp; done) | (go_simp; rfl)); intro gb338 hg w8 hbox hb; have n0_ := Aside0.mk (blk_below (g := gb337) (o := .cells #[.string a0_0, .slice A0_1 l0_1.length c0_1, .string a0_2, .string a0_3, .slice A0_4 l0_4.length c0_4, .slice A0_5 l0_5.length c0_5, .slice A0_6 l0_6.length c0_6, .string a0_7] 29 (0, 0)) (by (with_reducible repeat (first | refine bN_ ?_ _ | refine bD_ ?_ | refine bA_ ?_ _)); exact BK337.out) hb); have n1_ := Aside0.mk (wT_ (by repeat (first | (with_reducible first | exact HB.out | apply wA_ | apply wN_ | apply wD_ | refine wS_ ?_ GE337.out) | exact HB.out)) hb); have n2_ := Aside0.mk (hbox); have n3_ := Aside0.mk ((by rw [hg]; exact (wZ_ (by repeat (first | (with_reducible first | exact HB.out | apply wA_ | apply wN_ | apply wD_ | refine wS_ ?_ GE337.out) | exact HB.out))) : w.heap.size ≤ gb338)); have n4_ := Aside0.mk ((by rw [hg]; exact (wZ_ (by repeat (first | (with_reducible first | exact HB.out | apply wA_ | apply wN_ | apply wD_ | refine wS_ ?_ GE337.out) | exact HB.out))) : w.heap.size ≤ gb338)); have n5_ := Aside0.mk ((by rw [hg]; exact Nat.ne_of_lt (blk_lt (g := gb337) (o := .cells #[.string a0_0, .slice A0_1 l0_1.length c0_1, .string a0_2, .string a0_3, .slice A0_4 l0_4.length c0_4, .slice A0_5 l0_5.length c0_5, .slice A0_6 l0_6.length c0_6, .string a0_7] 29 (0, 0)) (by (with_reducible repeat (first | refine bN_ ?_ _ | refine bD_ ?_ | refine bA_ ?_ _)); exact BK337.out)) : gb337 ≠ gb338)); have n6_ := Aside0.mk ((by rw [hg]; exact Nat.ne_of_gt (blk_lt (g := gb337) (o := .cells #[.string a0_0, .slice A0_1 l0_1.length c0_1, .string a0_2, .string a0_3, .slice A0_4 l0_4.length c0_4, .slice A0_5 l0_5.length c0_5, .slice A0_6 l0_6.length c0_6, .string a0_7] 29 (0, 0)) (by (with_reducible repeat (first | refine bN_ ?_ _ | refine bD_ ?_ | refine bA_ ?_ _)); exact BK337.out)) : gb338 ≠ gb337)); clear BK337; clear HB; have BK337 := n0_; have HB := n1_; have BK338 := n2_; have GW338 := n3_; have GE338 := n4_; have NB337_338 := n5_; have NB338_337 := n6_; clear n0_ n1_ n2_ n3_ n4_ n5_ n6_; clear hb hbox hg; have hnb9 := NB337_338.out; have hnc9 := NB338_337.out; have hcz10_0 : w8.cell? ⟨gb337, 0, none⟩ = some (.string a0_0) := (bC_ BK337.out 0).trans rfl; have hcz10_1 : w8.cell? ⟨gb337, 1, none⟩ = some (.slice A0_1 l0_1.length c0_1) := (bC_ BK337.out 1).trans rfl; have hcz10_2 : w8.cell? ⟨gb337, 2, none⟩ = some (.string a0_2) := (bC_ BK337.out 2).trans rfl; have hcz10_3 : w8.cell? ⟨gb337, 3, none⟩ = some (.string a0_3) := (bC_ BK337.out 3).trans rfl; have hcz10_4 : w8.cell? ⟨gb337, 4, none⟩ = some (.slice A0_4 l0_4.length c0_4) := (bC_ BK337.out 4).trans rfl; have hcz10_5 : w8.cell? ⟨gb337, 5, none⟩ = some (.slice A0_5 l0_5.length c0_5) := (bC_ BK337.out 5).trans rfl; have hcz10_6 : w8.cell? ⟨gb337, 6, none⟩ = some (.slice A0_6 l0_6.length c0_6) := (bC_ BK337.out 6).trans rfl; have hcz10_7 : w8.cell? ⟨gb337, 7, none⟩ = some (.string a0_7) := (bC_ BK337.out 7).trans rfl; have hfz10_0 := bF_ BK337.out 0; have hfz10_1 := bF_ BK337.out 1; have hfz10_2 := bF_ BK337.out 2; have hfz10_3 := bF_ BK337.out 3; have hfz10_4 := bF_ BK337.out 4; have hfz10_5 := bF_ BK337.out 5; have hfz10_6 := bF_ BK337.out 6; have hfz10_7 := bF_ BK337.out 7; have hcz11_0 : w8.cell? ⟨gb338, 0, none⟩ = some (.string a1_0) := (bC_ BK338.out 0).trans rfl; have hcz11_1 : w8.cell? ⟨gb338, 1, none⟩ = some (.slice A1_1 l1_1.length c1_1) := (bC_ BK338.out 1).trans rfl; have hcz11_2 : w8.cell? ⟨gb338, 2, none⟩ = some (.string a1_2) := (bC_ BK338.out 2).trans rfl; have hcz11_3 : w8.cell? ⟨gb338, 3, none⟩ = some (.string a1_3) := (bC_ BK338.out 3).trans rfl; have hcz11_4 : w8.cell? ⟨gb338, 4, none⟩ = some (.slice A1_4 l1_4.length c1_4) := (bC_ BK338.out 4).trans rfl; have hcz11_5 : w8.cell? ⟨gb338, 5, none⟩ = some (.slice A1_5 l1_5.length c1_5) := (bC_ BK338.out 5).trans rfl; have hcz11_6 : w8.cell? ⟨gb338, 6, none⟩ = some (.slice A1_6 l1_6.length c1_6) := (bC_ BK338.out 6).trans rfl; have hcz11_7 : w8.cell? ⟨gb338, 7, none⟩ = some (.string a1_7) := (bC_ BK338.out 7).trans rfl; have hfz11_0 := bF_ BK338.out 0; have hfz11_1 := bF_ BK338.out 1; have hfz11_2 := bF_ BK338.out 2; have hfz11_3 := bF_ BK338.out 3; have hfz11_4 := bF_ BK338.out 4; have hfz11_5 := bF_ BK338.out 5; have hfz11_6 := bF_ BK338.out 6; have hfz11_7 := bF_ BK338.out 7) | (go_at_call 22; (with_reducible refine (isoglossref04_Same.calls k _ _ l0_1 _ _ l1_1 t339 _ ?side1 ?side2 ?side3 ?side4 A3.out).mono ?_); (case side1 => repeat (first | exact (cB_ HR0_1.out HB.out) | (with_reducible refine cA_ ?_ _) | (with_reducible refine cN_ ?_ _) | (with_reducible refine cD_ ?_))); (case side2 => exact HC0_1.out); (case side3 => repeat (first | exact (cB_ HR1_1.out HB.out) | (with_reducible refine cA_ ?_ _) | (with_reducible refine cN_ ?_ _) | (with_reducible refine cD_ ?_))); (case side4 => exact HC1_1.out); rintro e w' ⟨rfl, ⟨nd, rfl⟩⟩; (try first | exact ⟨rfl, _, World.drewN_drewN _ _ _⟩ | exact ⟨rfl, _, Eq.trans (World.drewN_drewN _ _ _) (congrArg (World.drewN _) (Nat.add_assoc _ _ _))⟩)) | (go_at_call 22; (with_reducible refine (isoglossref04_Same.calls k _ _ l0_4 _ _ l1_4 t340 _ ?side1 ?side2 ?side3 ?side4 A4.out).mono ?_); (case side1 => repeat (first | exact (cB_ HR0_4.out (by repeat (first | (with_reducible first | exact HB.out | apply wA_ | apply wN_ | apply wD_ | refine wS_ ?_ GE337.out | refine wS_ ?_ GE338.out) | exact HB.out))) | (with_reducible refine cA_ ?_ _) | (with_reducible refine cN_ ?_ _) | (with_reducible refine cD_ ?_))); (case side2 => exact HC0_4.out); (case side3 => repeat (first | exact (cB_ HR1_4.out (by repeat (first | (with_reducible first | exact HB.out | apply wA_ | apply wN_ | apply wD_ | refine wS_ ?_ GE337.out | refine wS_ ?_ GE338.out) | exact HB.out))) | (with_reducible refine cA_ ?_ _) | (with_reducible refine cN_ ?_ _) | (with_reducible refine cD_ ?_))); (case side4 => exact HC1_4.out); rintro e w' ⟨rfl, ⟨nd, rfl⟩⟩; (try first | exact ⟨rfl, _, World.drewN_drewN _ _ _⟩ | exact ⟨rfl, _, Eq.trans (World.drewN_drewN _ _ _) (congrArg (World.drewN _) (Nat.add_assoc _ _ _))⟩)) | (go_at_call 22; (with_reducible refine (isoglossref04_Same.calls k _ _ l0_6 _ _ l1_6 t341 _ ?side1 ?side2 ?side3 ?side4 A5.out).mono ?_); (case side1 => repeat (first | exact (cB_ HR0_6.out (by repeat (first | (with_reducible first | exact HB.out | apply wA_ | apply wN_ | apply wD_ | refine wS_ ?_ GE337.out | refine wS_ ?_ GE338.out) | exact HB.out))) | (with_reducible refine cA_ ?_ _) | (with_reducible refine cN_ ?_ _) | (with_reducible refine cD_ ?_))); (case side2 => exact HC0_6.out); (case side3 => repeat (first | exact (cB_ HR1_6.out (by repeat (first | (with_reducible first | exact HB.out | apply wA_ | apply wN_ | apply wD_ | refine wS_ ?_ GE337.out | refine wS_ ?_ GE338.out) | exact HB.out))) | (with_reducible refine cA_ ?_ _) | (with_reducible refine cN_ ?_ _) | (with_reducible refine cD_ ?_))); (case side4 => exact HC1_6.out); rintro e w' ⟨rfl, ⟨nd, rfl⟩⟩; (try first | exact ⟨rfl, _, World.drewN_drewN _ _ _⟩ | exact ⟨rfl, _, Eq.trans (World.drewN_drewN _ _ _) (congrArg (World.drewN _) (Nat.add_assoc _ _ _))⟩)))
 repeat (go_quiet (first | ((with_reducible refine gate_dst (N := 2) rfl ?_); (try (refine gate_guard (by rfl) ?_; dsimp only)); refine box_event ?hg (N := 2) ?hd (cs := #[.string a0_0, .slice A0_1 l0_1.length c0_1, .string a0_2, .string a0_3, .slice A0_4 l0_4.length c0_4, .slice A0_5 l0_5.length c0_5, .slice A0_6 l0_6.length c0_6, .string a0_7]) (t := 29) ?hr ?_; (case hd => rfl); (case hg => rfl); (case hr => first | (go_simp; done) | (go_simp; rfl)); intro gb337 hg w7 hbox hb; have n0_ := Aside0.mk (wT_ (by repeat (first | (with_reducible first | exact HB.out | apply wA_ | apply wN_ | apply wD_) | exact HB.out)) hb); have n1_ := Aside0.mk (hbox); have n2_ := Aside0.mk ((by rw [hg]; exact (wZ_ (by repeat (first | (with_reducible first | exact HB.out | apply wA_ | apply wN_ | apply wD_) | exact HB.out))) : w.heap.size ≤ gb337)); have n3_ := Aside0.mk ((by rw [hg]; exact (wZ_ (by repeat (first | (with_reducible first | exact HB.out | apply wA_ | apply wN_ | apply wD_) | exact HB.out))) : w.heap.size ≤ gb337)); clear HB; have HB := n0_; have BK337 := n1_; have GW337 := n2_; have GE337 := n3_; clear n0_ n1_ n2_ n3_; clear hb hbox hg) | ((with_reducible refine gate_dst (N := 3) rfl ?_); (try (refine gate_guard (by rfl) ?_; dsimp only)); refine box_event ?hg (N := 3) ?hd (cs := #[.string a1_0, .slice A1_1 l1_1.length c1_1, .string a1_2, .string a1_3, .slice A1_4 l1_4.length c1_4, .slice A1_5 l1_5.length c1_5, .slice A1_6 l1_6.length c1_6, .string a1_7]) (t := 29) ?hr ?_; (case hd => rfl); (case hg => rfl); (case hr => first | (go_simp; done) | (go_simp; rfl)); intro gb338 hg w8 hbox hb; have n0_ := Aside0.mk (blk_below (g := gb337) (o := .cells #[.string a0_0, .slice A0_1 l0_1.length c0_1, .string a0_2, .string a0_3, .slice A0_4 l0_4.length c0_4, .slice A0_5 l0_5.length c0_5, .slice A0_6 l0_6.length c0_6, .string a0_7] 29 (0, 0)) (by (with_reducible repeat (first | refine bN_ ?_ _ | refine bD_ ?_ | refine bA_ ?_ _)); exact BK337.out) hb); have n1_ := Aside0.mk (wT_ (by repeat (first | (with_reducible first | exact HB.out | apply wA_ | apply wN_ | apply wD_ | refine wS_ ?_ GE337.out) | exact HB.out)) hb); have n2_ := Aside0.mk (hbox); have n3_ := Aside0.mk ((by rw [hg]; exact (wZ_ (by repeat (first | (with_reducible first | exact HB.out | apply wA_ | apply wN_ | apply wD_ | refine wS_ ?_ GE337.out) | exact HB.out))) : w.heap.size ≤ gb338)); have n4_ := Aside0.mk ((by rw [hg]; exact (wZ_ (by repeat (first | (with_reducible first | exact HB.out | apply wA_ | apply wN_ | apply wD_ | refine wS_ ?_ GE337.out) | exact HB.out))) : w.heap.size ≤ gb338)); have n5_ := Aside0.mk ((by rw [hg]; exact Nat.ne_of_lt (blk_lt (g := gb337) (o := .cells #[.string a0_0, .slice A0_1 l0_1.length c0_1, .string a0_2, .string a0_3, .slice A0_4 l0_4.length c0_4, .slice A0_5 l0_5.length c0_5, .slice A0_6 l0_6.length c0_6, .string a0_7] 29 (0, 0)) (by (with_reducible repeat (first | refine bN_ ?_ _ | refine bD_ ?_ | refine bA_ ?_ _)); exact BK337.out)) : gb337 ≠ gb338)); have n6_ := Aside0.mk ((by rw [hg]; exact Nat.ne_of_gt (blk_lt (g := gb337) (o := .cells #[.string a0_0, .slice A0_1 l0_1.length c0_1, .string a0_2, .string a0_3, .slice A0_4 l0_4.length c0_4, .slice A0_5 l0_5.length c0_5, .slice A0_6 l0_6.length c0_6, .string a0_7] 29 (0, 0)) (by (with_reducible repeat (first | refine bN_ ?_ _ | refine bD_ ?_ | refine bA_ ?_ _)); exact BK337.out)) : gb338 ≠ gb337)); clear BK337; clear HB; have BK337 := n0_; have HB := n1_; have BK338 := n2_; have GW338 := n3_; have GE338 := n4_; have NB337_338 := n5_; have NB338_337 := n6_; clear n0_ n1_ n2_ n3_ n4_ n5_ n6_; clear hb hbox hg; have hnb9 := NB337_338.out; have hnc9 := NB338_337.out; have hcz10_0 : w8.cell? ⟨gb337, 0, none⟩ = some (.string a0_0) := (bC_ BK337.out 0).trans rfl; have hcz10_1 : w8.cell? ⟨gb337, 1, none⟩ = some (.slice A0_1 l0_1.length c0_1) := (bC_ BK337.out 1).trans rfl; have hcz10_2 : w8.cell? ⟨gb337, 2, none⟩ = some (.string a0_2) := (bC_ BK337.out 2).trans rfl; have hcz10_3 : w8.cell? ⟨gb337, 3, none⟩ = some (.string a0_3) := (bC_ BK337.out 3).trans rfl; have hcz10_4 : w8.cell? ⟨gb337, 4, none⟩ = some (.slice A0_4 l0_4.length c0_4) := (bC_ BK337.out 4).trans rfl; have hcz10_5 : w8.cell? ⟨gb337, 5, none⟩ = some (.slice A0_5 l0_5.length c0_5) := (bC_ BK337.out 5).trans rfl; have hcz10_6 : w8.cell? ⟨gb337, 6, none⟩ = some (.slice A0_6 l0_6.length c0_6) := (bC_ BK337.out 6).trans rfl; have hcz10_7 : w8.cell? ⟨gb337, 7, none⟩ = some (.string a0_7) := (bC_ BK337.out 7).trans rfl; have hfz10_0 := bF_ BK337.out 0; have hfz10_1 := bF_ BK337.out 1; have hfz10_2 := bF_ BK337.out 2; have hfz10_3 := bF_ BK337.out 3; have hfz10_4 := bF_ BK337.out 4; have hfz10_5 := bF_ BK337.out 5; have hfz10_6 := bF_ BK337.out 6; have hfz10_7 := bF_ BK337.out 7; have hcz11_0 : w8.cell? ⟨gb338, 0, none⟩ = some (.string a1_0) := (bC_ BK338.out 0).trans rfl; have hcz11_1 : w8.cell? ⟨gb338, 1, none⟩ = some (.slice A1_1 l1_1.length c1_1) := (bC_ BK338.out 1).trans rfl; have hcz11_2 : w8.cell? ⟨gb338, 2, none⟩ = some (.string a1_2) := (bC_ BK338.out 2).trans rfl; have hcz11_3 : w8.cell? ⟨gb338, 3, none⟩ = some (.string a1_3) := (bC_ BK338.out 3).trans rfl; have hcz11_4 : w8.cell? ⟨gb338, 4, none⟩ = some (.slice A1_4 l1_4.length c1_4) := (bC_ BK338.out 4).trans rfl; have hcz11_5 : w8.cell? ⟨gb338, 5, none⟩ = some (.slice A1_5 l1_5.length c1_5) := (bC_ BK338.out 5).trans rfl; have hcz11_6 : w8.cell? ⟨gb338, 6, none⟩ = some (.slice A1_6 l1_6.length c1_6) := (bC_ BK338.out 6).trans rfl; have hcz11_7 : w8.cell? ⟨gb338, 7, none⟩ = some (.string a1_7) := (bC_ BK338.out 7).trans rfl; have hfz11_0 := bF_ BK338.out 0; have hfz11_1 := bF_ BK338.out 1; have hfz11_2 := bF_ BK338.out 2; have hfz11_3 := bF_ BK338.out 3; have hfz11_4 := bF_ BK338.out 4; have hfz11_5 := bF_ BK338.out 5; have hfz11_6 := bF_ BK338.out 6; have hfz11_7 := bF_ BK338.out 7) | (go_at_call 22; (with_reducible refine (isoglossref04_Same.calls k _ _ l0_1 _ _ l1_1 t339 _ ?side1 ?side2 ?side3 ?side4 A3.out).mono ?_); (case side1 => repeat (first | exact (cB_ HR0_1.out HB.out) | (with_reducible refine cA_ ?_ _) | (with_reducible refine cN_ ?_ _) | (with_reducible refine cD_ ?_))); (case side2 => exact HC0_1.out); (case side3 => repeat (first | exact (cB_ HR1_1.out HB.out) | (with_reducible refine cA_ ?_ _) | (with_reducible refine cN_ ?_ _) | (with_reducible refine cD_ ?_))); (case side4 => exact HC1_1.out); rintro e w' ⟨rfl, ⟨nd, rfl⟩⟩; (try first | exact ⟨rfl, _, World.drewN_drewN _ _ _⟩ | exact ⟨rfl, _, Eq.trans (World.drewN_drewN _ _ _) (congrArg (World.drewN _) (Nat.add_assoc _ _ _))⟩)) | (go_at_call 22; (with_reducible refine (isoglossref04_Same.calls k _ _ l0_4 _ _ l1_4 t340 _ ?side1 ?side2 ?side3 ?side4 A4.out).mono ?_); (case side1 => repeat (first | exact (cB_ HR0_4.out (by repeat (first | (with_reducible first | exact HB.out | apply wA_ | apply wN_ | apply wD_ | refine wS_ ?_ GE337.out | refine wS_ ?_ GE338.out) | exact HB.out))) | (with_reducible refine cA_ ?_ _) | (with_reducible refine cN_ ?_ _) | (with_reducible refine cD_ ?_))); (case side2 => exact HC0_4.out); (case side3 => repeat (first | exact (cB_ HR1_4.out (by repeat (first | (with_reducible first | exact HB.out | apply wA_ | apply wN_ | apply wD_ | refine wS_ ?_ GE337.out | refine wS_ ?_ GE338.out) | exact HB.out))) | (with_reducible refine cA_ ?_ _) | (with_reducible refine cN_ ?_ _) | (with_reducible refine cD_ ?_))); (case side4 => exact HC1_4.out); rintro e w' ⟨rfl, ⟨nd, rfl⟩⟩; (try first | exact ⟨rfl, _, World.drewN_drewN _ _ _⟩ | exact ⟨rfl, _, Eq.trans (World.drewN_drewN _ _ _) (congrArg (World.drewN _) (Nat.add_assoc _ _ _))⟩)) | (go_at_call 22; (with_reducible refine (isoglossref04_Same.calls k _ _ l0_6 _ _ l1_6 t341 _ ?side1 ?side2 ?side3 ?side4 A5.out).mono ?_); (case side1 => repeat (first | exact (cB_ HR0_6.out (by repeat (first | (with_reducible first | exact HB.out | apply wA_ | apply wN_ | apply wD_ | refine wS_ ?_ GE337.out | refine wS_ ?_ GE338.out) | exact HB.out))) | (with_reducible refine cA_ ?_ _) | (with_reducible refine cN_ ?_ _) | (with_reducible refine cD_ ?_))); (case side2 => exact HC0_6.out); (case side3 => repeat (first | exact (cB_ HR1_6.out (by repeat (first | (with_reducible first | exact HB.out | apply wA_ | apply wN_ | apply wD_ | refine wS_ ?_ GE337.out | refine wS_ ?_ GE338.out) | exact HB.out))) | (with_reducible refine cA_ ?_ _) | (with_reducible refine cN_ ?_ _) | (with_reducible refine cD_ ?_))); (case side4 => exact HC1_6.out); rintro e w' ⟨rfl, ⟨nd, rfl⟩⟩; (try first | exact ⟨rfl, _, World.drewN_drewN _ _ _⟩ | exact ⟨rfl, _, Eq.trans (World.drewN_drewN _ _ _) (congrArg (World.drewN _) (Nat.add_assoc _ _ _))⟩))); go_upto_region 4 with (first | ((with_reducible refine gate_dst (N := 2) rfl ?_); (try (refine gate_guard (by rfl) ?_; dsimp only)); refine box_event ?hg (N := 2) ?hd (cs := #[.string a0_0, .slice A0_1 l0_1.length c0_1, .string a0_2, .string a0_3, .slice A0_4 l0_4.length c0_4, .slice A0_5 l0_5.length c0_5, .slice A0_6 l0_6.length c0_6, .string a0_7]) (t := 29) ?hr ?_; (case hd => rfl); (case hg => rfl); (case hr => first | (go_simp; done) | (go_simp; rfl)); intro gb337 hg w7 hbox hb; have n0_ := Aside0.mk (wT_ (by repeat (first | (with_reducible first | exact HB.out | apply wA_ | apply wN_ | apply wD_) | exact HB.out)) hb); have n1_ := Aside0.mk (hbox); have n2_ := Aside0.mk ((by rw [hg]; exact (wZ_ (by repeat (first | (with_reducible first | exact HB.out | apply wA_ | apply wN_ | apply wD_) | exact HB.out))) : w.heap.size ≤ gb337)); have n3_ := Aside0.mk ((by rw [hg]; exact (wZ_ (by repeat (first | (with_reducible first | exact HB.out | apply wA_ | apply wN_ | apply wD_) | exact HB.out))) : w.heap.size ≤ gb337)); clear HB; have HB := n0_; have BK337 := n1_; have GW337 := n2_; have GE337 := n3_; clear n0_ n1_ n2_ n3_; clear hb hbox hg) | ((with_reducible refine gate_dst (N := 3) rfl ?_); (try (refine gate_guard (by rfl) ?_; dsimp only)); refine box_event ?hg (N := 3) ?hd (cs := #[.string a1_0, .slice A1_1 l1_1.length c1_1, .string a1_2, .string a1_3, .slice A1_4 l1_4.length c1_4, .slice A1_5 l1_5.length c1_5, .slice A1_6 l1_6.length c1_6, .string a1_7]) (t := 29) ?hr ?_; (case hd => rfl); (case hg => rfl); (case hr => first | (go_simp; done) | (go_simp; rfl)); intro gb338 hg w8 hbox hb; have n0_ := Aside0.mk (blk_below (g := gb337) (o := .cells #[.string a0_0, .slice A0_1 l0_1.length c0_1, .string a0_2, .string a0_3, .slice A0_4 l0_4.length c0_4, .slice A0_5 l0_5.length c0_5, .slice A0_6 l0_6.length c0_6, .string a0_7] 29 (0, 0)) (by (with_reducible repeat (first | refine bN_ ?_ _ | refine bD_ ?_ | refine bA_ ?_ _)); exact BK337.out) hb); have n1_ := Aside0.mk (wT_ (by repeat (first | (with_reducible first | exact HB.out | apply wA_ | apply wN_ | apply wD_ | refine wS_ ?_ GE337.out) | exact HB.out)) hb); have n2_ := Aside0.mk (hbox); have n3_ := Aside0.mk ((by rw [hg]; exact (wZ_ (by repeat (first | (with_reducible first | exact HB.out | apply wA_ | apply wN_ | apply wD_ | refine wS_ ?_ GE337.out) | exact HB.out))) : w.heap.size ≤ gb338)); have n4_ := Aside0.mk ((by rw [hg]; exact (wZ_ (by repeat (first | (with_reducible first | exact HB.out | apply wA_ | apply wN_ | apply wD_ | refine wS_ ?_ GE337.out) | exact HB.out))) : w.heap.size ≤ gb338)); have n5_ := Aside0.mk ((by rw [hg]; exact Nat.ne_of_lt (blk_lt (g := gb337) (o := .cells #[.string a0_0, .slice A0_1 l0_1.length c0_1, .string a0_2, .string a0_3, .slice A0_4 l0_4.length c0_4, .slice A0_5 l0_5.length c0_5, .slice A0_6 l0_6.length c0_6, .string a0_7] 29 (0, 0)) (by (with_reducible repeat (first | refine bN_ ?_ _ | refine bD_ ?_ | refine bA_ ?_ _)); exact BK337.out)) : gb337 ≠ gb338)); have n6_ := Aside0.mk ((by rw [hg]; exact Nat.ne_of_gt (blk_lt (g := gb337) (o := .cells #[.string a0_0, .slice A0_1 l0_1.length c0_1, .string a0_2, .string a0_3, .slice A0_4 l0_4.length c0_4, .slice A0_5 l0_5.length c0_5, .slice A0_6 l0_6.length c0_6, .string a0_7] 29 (0, 0)) (by (with_reducible repeat (first | refine bN_ ?_ _ | refine bD_ ?_ | refine bA_ ?_ _)); exact BK337.out)) : gb338 ≠ gb337)); clear BK337; clear HB; have BK337 := n0_; have HB := n1_; have BK338 := n2_; have GW338 := n3_; have GE338 := n4_; have NB337_338 := n5_; have NB338_337 := n6_; clear n0_ n1_ n2_ n3_ n4_ n5_ n6_; clear hb hbox hg; have hnb9 := NB337_338.out; have hnc9 := NB338_337.out; have hcz10_0 : w8.cell? ⟨gb337, 0, none⟩ = some (.string a0_0) := (bC_ BK337.out 0).trans rfl; have hcz10_1 : w8.cell? ⟨gb337, 1, none⟩ = some (.slice A0_1 l0_1.length c0_1) := (bC_ BK337.out 1).trans rfl; have hcz10_2 : w8.cell? ⟨gb337, 2, none⟩ = some (.string a0_2) := (bC_ BK337.out 2).trans rfl; have hcz10_3 : w8.cell? ⟨gb337, 3, none⟩ = some (.string a0_3) := (bC_ BK337.out 3).trans rfl; have hcz10_4 : w8.cell? ⟨gb337, 4, none⟩ = some (.slice A0_4 l0_4.length c0_4) := (bC_ BK337.out 4).trans rfl; have hcz10_5 : w8.cell? ⟨gb337, 5, none⟩ = some (.slice A0_5 l0_5.length c0_5) := (bC_ BK337.out 5).trans rfl; have hcz10_6 : w8.cell? ⟨gb337, 6, none⟩ = some (.slice A0_6 l0_6.length c0_6) := (bC_ BK337.out 6).trans rfl; have hcz10_7 : w8.cell? ⟨gb337, 7, none⟩ = some (.string a0_7) := (bC_ BK337.out 7).trans rfl; have hfz10_0 := bF_ BK337.out 0; have hfz10_1 := bF_ BK337.out 1; have hfz10_2 := bF_ BK337.out 2; have hfz10_3 := bF_ BK337.out 3; have hfz10_4 := bF_ BK337.out 4; have hfz10_5 := bF_ BK337.out 5; have hfz10_6 := bF_ BK337.out 6; have hfz10_7 := bF_ BK337.out 7; have hcz11_0 : w8.cell? ⟨gb338, 0, none⟩ = some (.string a1_0) := (bC_ BK338.out 0).trans rfl; have hcz11_1 : w8.cell? ⟨gb338, 1, none⟩ = some (.slice A1_1 l1_1.length c1_1) := (bC_ BK338.out 1).trans rfl; have hcz11_2 : w8.cell? ⟨gb338, 2, none⟩ = some (.string a1_2) := (bC_ BK338.out 2).trans rfl; have hcz11_3 : w8.cell? ⟨gb338, 3, none⟩ = some (.string a1_3) := (bC_ BK338.out 3).trans rfl; have hcz11_4 : w8.cell? ⟨gb338, 4, none⟩ = some (.slice A1_4 l1_4.length c1_4) := (bC_ BK338.out 4).trans rfl; have hcz11_5 : w8.cell? ⟨gb338, 5, none⟩ = some (.slice A1_5 l1_5.length c1_5) := (bC_ BK338.out 5).trans rfl; have hcz11_6 : w8.cell? ⟨gb338, 6, none⟩ = some (.slice A1_6 l1_6.length c1_6) := (bC_ BK338.out 6).trans rfl; have hcz11_7 : w8.cell? ⟨gb338, 7, none⟩ = some (.string a1_7) := (bC_ BK338.out 7).trans rfl; have hfz11_0 := bF_ BK338.out 0; have hfz11_1 := bF_ BK338.out 1; have hfz11_2 := bF_ BK338.out 2; have hfz11_3 := bF_ BK338.out 3; have hfz11_4 := bF_ BK338.out 4; have hfz11_5 := bF_ BK338.out 5; have hfz11_6 := bF_ BK338.out 6; have hfz11_7 := bF_ BK338.out 7) | (go_at_call 22; (with_reducible refine (isoglossref04_Same.calls k _ _ l0_1 _ _ l1_1 t339 _ ?side1 ?side2 ?side3 ?side4 A3.out).mono ?_); (case side1 => repeat (first | exact (cB_ HR0_1.out HB.out) | (with_reducible refine cA_ ?_ _) | (with_reducible refine cN_ ?_ _) | (with_reducible refine cD_ ?_))); (case side2 => exact HC0_1.out); (case side3 => repeat (first | exact (cB_ HR1_1.out HB.out) | (with_reducible refine cA_ ?_ _) | (with_reducible refine cN_ ?_ _) | (with_reducible refine cD_ ?_))); (case side4 => exact HC1_1.out); rintro e w' ⟨rfl, ⟨nd, rfl⟩⟩; (try first | exact ⟨rfl, _, World.drewN_drewN _ _ _⟩ | exact ⟨rfl, _, Eq.trans (World.drewN_drewN _ _ _) (congrArg (World.drewN _) (Nat.add_assoc _ _ _))⟩)) | (go_at_call 22; (with_reducible refine (isoglossref04_Same.calls k _ _ l0_4 _ _ l1_4 t340 _ ?side1 ?side2 ?side3 ?side4 A4.out).mono ?_); (case side1 => repeat (first | exact (cB_ HR0_4.out (by repeat (first | (with_reducible first | exact HB.out | apply wA_ | apply wN_ | apply wD_ | refine wS_ ?_ GE337.out | refine wS_ ?_ GE338.out) | exact HB.out))) | (with_reducible refine cA_ ?_ _) | (with_reducible refine cN_ ?_ _) | (with_reducible refine cD_ ?_))); (case side2 => exact HC0_4.out); (case side3 => repeat (first | exact (cB_ HR1_4.out (by repeat (first | (with_reducible first | exact HB.out | apply wA_ | apply wN_ | apply wD_ | refine wS_ ?_ GE337.out | refine wS_ ?_ GE338.out) | exact HB.out))) | (with_reducible refine cA_ ?_ _) | (with_reducible refine cN_ ?_ _) | (with_reducible refine cD_ ?_))); (case side4 => exact HC1_4.out); rintro e w' ⟨rfl, ⟨nd, rfl⟩⟩; (try first | exact ⟨rfl, _, World.drewN_drewN _ _ _⟩ | exact ⟨rfl, _, Eq.trans (World.drewN_drewN _ _ _) (congrArg (World.drewN _) (Nat.add_assoc _ _ _))⟩)) | (go_at_call 22; (with_reducible refine (isoglossref04_Same.calls k _ _ l0_6 _ _ l1_6 t341 _ ?side1 ?side2 ?side3 ?side4 A5.out).mono ?_); (case side1 => repeat (first | exact (cB_ HR0_6.out (by repeat (first | (with_reducible first | exact HB.out | apply wA_ | apply wN_ | apply wD_ | refine wS_ ?_ GE337.out | refine wS_ ?_ GE338.out) | exact HB.out))) | (with_reducible refine cA_ ?_ _) | (with_reducible refine cN_ ?_ _) | (with_reducible refine cD_ ?_))); (case side2 => exact HC0_6.out); (case side3 => repeat (first | exact (cB_ HR1_6.out (by repeat (first | (with_reducible first | exact HB.out | apply wA_ | apply wN_ | apply wD_ | refine wS_ ?_ GE337.out | refine wS_ ?_ GE338.out) | exact HB.out))) | (with_reducible refine cA_ ?_ _) | (with_reducible refine cN_ ?_ _) | (with_reducible refine cD_ ?_))); (case side4 => exact HC1_6.out); rintro e w' ⟨rfl, ⟨nd, rfl⟩⟩; (try first | exact ⟨rfl, _, World.drewN_drewN _ _ _⟩ | exact ⟨rfl, _, Eq.trans (World.drewN_drewN _ _ _) (congrArg (World.drewN _) (Nat.add_assoc _ _ _))⟩))))
 (try simp only [Act.put, List.setIfInBounds_toArray, List.set_cons_zero, List.set_cons_succ])
 go_cut [71] (fun v71 wc => ∃ (kq : Nat) (x71_5 : Bool), v71 = .bool x71_5 ∧ Aside0 (isoglossref06_Same.j0 kq x71_5 a0_0 l0_1 a0_2 a0_3 l0_4 l0_5 l0_6 a0_7 a1_0 l1_1 a1_2 a1_3 l1_4 l1_5 l1_6 a1_7 = some r) ∧ Aside0 (kq ≤ k) ∧ Aside0 (wc.heap[gb337]? = some (.cells #[.string a0_0, (.slice A0_1 l0_1.length c0_1), .string a0_2, .string a0_3, (.slice A0_4 l0_4.length c0_4), (.slice A0_5 l0_5.length c0_5), (.slice A0_6 l0_6.length c0_6), .string a0_7] 29 (0, 0))) ∧ Aside0 (wc.heap[gb338]? = some (.cells #[.string a1_0, (.slice A1_1 l1_1.length c1_1), .string a1_2, .string a1_3, (.slice A1_4 l1_4.length c1_4), (.slice A1_5 l1_5.length c1_5), (.slice A1_6 l1_6.length c1_6), .string a1_7] 29 (0, 0))) ∧ Aside0 (Below w.heap.size w wc))
 case first =>
  have H := HC6.out
  clear HC6
  by_cases c12 : t339 = true
  ·subst c12
   have H1 : (if t340 = true then (if t341 = true then (if a0_0.toList = a1_0.toList then (if a0_2.toList = a1_2.toList then (if a0_3.toList = a1_3.toList then (if a0_7.toList = a1_7.toList then (isoglossref06_Same.j0 k ((l0_5.length : Int) != (l1_5.length : Int)) a0_0 l0_1 a0_2 a0_3 l0_4 l0_5 l0_6 a0_7 a1_0 l1_1 a1_2 a1_3 l1_4 l1_5 l1_6 a1_7) else (isoglossref06_Same.j0 k true a0_0 l0_1 a0_2 a0_3 l0_4 l0_5 l0_6 a0_7 a1_0 l1_1 a1_2 a1_3 l1_4 l1_5 l1_6 a1_7)) else (isoglossref06_Same.j0 k true a0_0 l0_1 a0_2 a0_3 l0_4 l0_5 l0_6 a0_7 a1_0 l1_1 a1_2 a1_3 l1_4 l1_5 l1_6 a1_7)) else (isoglossref06_Same.j0 k true a0_0 l0_1 a0_2 a0_3 l0_4 l0_5 l0_6 a0_7 a1_0 l1_1 a1_2 a1_3 l1_4 l1_5 l1_6 a1_7)) else (isoglossref06_Same.j0 k true a0_0 l0_1 a0_2 a0_3 l0_4 l0_5 l0_6 a0_7 a1_0 l1_1 a1_2 a1_3 l1_4 l1_5 l1_6 a1_7)) else (isoglossref06_Same.j0 k true a0_0 l0_1 a0_2 a0_3 l0_4 l0_5 l0_6 a0_7 a1_0 l1_1 a1_2 a1_3 l1_4 l1_5 l1_6 a1_7)) else (isoglossref06_Same.j0 k true a0_0 l0_1 a0_2 a0_3 l0_4 l0_5 l0_6 a0_7 a1_0 l1_1 a1_2 a1_3 l1_4 l1_5 l1_6 a1_7)) = some r := by rw [if_pos rfl] at H; exact H
   clear H
   have H := H1
   clear H1
   by_cases c13 : t340 = true
   ·subst c13
    have H1 : (if t341 = true then (if a0_0.toList = a1_0.toList then (if a0_2.toList = a1_2.toList then (if a0_3.toList = a1_3.toList then (if a0_7.toList = a1_7.toList then (isoglossref06_Same.j0 k ((l0_5.length : Int) != (l1_5.length : Int)) a0_0 l0_1 a0_2 a0_3 l0_4 l0_5 l0_6 a0_7 a1_0 l1_1 a1_2 a1_3 l1_4 l1_5 l1_6 a1_7) else (isoglossref06_Same.j0 k true a0_0 l0_1 a0_2 a0_3 l0_4 l0_5 l0_6 a0_7 a1_0 l1_1 a1_2 a1_3 l1_4 l1_5 l1_6 a1_7)) else (isoglossref06_Same.j0 k true a0_0 l0_1 a0_2 a0_3 l0_4 l0_5 l0_6 a0_7 a1_0 l1_1 a1_2 a1_3 l1_4 l1_5 l1_6 a1_7)) else (isoglossref06_Same.j0 k true a0_0 l0_1 a0_2 a0_3 l0_4 l0_5 l0_6 a0_7 a1_0 l1_1 a1_2 a1_3 l1_4 l1_5 l1_6 a1_7)) else (isoglossref06_Same.j0 k true a0_0 l0_1 a0_2 a0_3 l0_4 l0_5 l0_6 a0_7 a1_0 l1_1 a1_2 a1_3 l1_4 l1_5 l1_6 a1_7)) else (isoglossref06_Same.j0 k true a0_0 l0_1 a0_2 a0_3 l0_4 l0_5 l0_6 a0_7 a1_0 l1_1 a1_2 a1_3 l1_4 l1_5 l1_6 a1_7)) = some r := by rw [if_pos rfl] at H; exact H
    clear H
    have H := H1
    clear H1
    by_cases c14 : t341 = true
    ·subst c14
     have H1 : (if a0_0.toList = a1_0.toList then (if a0_2.toList = a1_2.toList then (if a0_3.toList = a1_3.toList then (if a0_7.toList = a1_7.toList then (isoglossref06_Same.j0 k ((l0_5.length : Int) != (l1_5.length : Int)) a0_0 l0_1 a0_2 a0_3 l0_4 l0_5 l0_6 a0_7 a1_0 l1_1 a1_2 a1_3 l1_4 l1_5 l1_6 a1_7) else (isoglossref06_Same.j0 k true a0_0 l0_1 a0_2 a0_3 l0_4 l0_5 l0_6 a0_7 a1_0 l1_1 a1_2 a1_3 l1_4 l1_5 l1_6 a1_7)) else (isoglossref06_Same.j0 k true a0_0 l0_1 a0_2 a0_3 l0_4 l0_5 l0_6 a0_7 a1_0 l1_1 a1_2 a1_3 l1_4 l1_5 l1_6 a1_7)) else (isoglossref06_Same.j0 k true a0_0 l0_1 a0_2 a0_3 l0_4 l0_5 l0_6 a0_7 a1_0 l1_1 a1_2 a1_3 l1_4 l1_5 l1_6 a1_7)) else (isoglossref06_Same.j0 k true a0_0 l0_1 a0_2 a0_3 l0_4 l0_5 l0_6 a0_7 a1_0 l1_1 a1_2 a1_3 l1_4 l1_5 l1_6 a1_7)) = some r := by rw [if_pos rfl] at H; exact H
     clear H
     have H := H1
     clear H1
     by_cases c15 : a0_0.toList = a1_0.toList
     ·rw [if_pos c15] at H
      have c15b0 : (a0_0.toList == a1_0.toList) = true := beq_iff_eq.mpr c15
      have c15b1 : (a0_0.toList != a1_0.toList) = false := bne_eq_false_iff_eq.mpr c15
      clear c15
      (first | rw [c15b0] | rw [c15b1] | (simp only [i64_w, i32_w]; rw [c15b0]) | skip)
      by_cases c16 : a0_2.toList = a1_2.toList
      ·rw [if_pos c16] at H
       have c16b0 : (a0_2.toList == a1_2.toList) = true := beq_iff_eq.mpr c16
       have c16b1 : (a0_2.toList != a1_2.toList) = false := bne_eq_false_iff_eq.mpr c16
       clear c16
       by_cases c17 : a0_3.toList = a1_3.toList
       ·rw [if_pos c17] at H
        have c17b0 : (a0_3.toList == a1_3.toList) = true := beq_iff_eq.mpr c17
        have c17b1 : (a0_3.toList != a1_3.toList) = false := bne_eq_false_iff_eq.mpr c17
        clear c17
        by_cases c18 : a0_7.toList = a1_7.toList
        ·rw [if_pos c18] at H
         have c18b0 : (a0_7.toList == a1_7.toList) = true := beq_iff_eq.mpr c18
         have c18b1 : (a0_7.toList != a1_7.toList) = false := bne_eq_false_iff_eq.mpr c18
         clear c18
         have H' := Aside0.mk H
         clear H
         have hnb19 := NB337_338.out
         have hnc19 := NB338_337.out
         obtain ⟨hcz20_0, hcz20_1, hcz20_2, hcz20_3, hcz20_4, hcz20_5, hcz20_6, hcz20_7, hfz20_0, hfz20_1, hfz20_2, hfz20_3, hfz20_4, hfz20_5, hfz20_6, hfz20_7⟩ := c8_10 BK337.out
         obtain ⟨hcz21_0, hcz21_1, hcz21_2, hcz21_3, hcz21_4, hcz21_5, hcz21_6, hcz21_7, hfz21_0, hfz21_1, hfz21_2, hfz21_3, hfz21_4, hfz21_5, hfz21_6, hfz21_7⟩ := c8_10 BK338.out
         go_wp2
         repeat (go_quiet (fail); try go_wp2)
         go_meet
         case rel => exact ⟨_, (((l0_5.length : Int) != (l1_5.length : Int))), (by first | rfl | (simp; done) | (simp [*]; done)), H', ⟨by first | omega | exact Nat.le_refl _⟩, ⟨by (with_reducible repeat (first | refine bN_ ?_ _ | refine bD_ ?_ | refine bA_ ?_ _)); exact BK337.out⟩, ⟨by (with_reducible repeat (first | refine bN_ ?_ _ | refine bD_ ?_ | refine bA_ ?_ _)); exact BK338.out⟩, ⟨by repeat (first | (with_reducible first | exact HB.out | apply wA_ | apply wN_ | apply wD_ | refine wS_ ?_ GE337.out | refine wS_ ?_ GE338.out) | exact HB.out)⟩⟩
        ·rw [if_neg c18] at H
         have c18b0 : (a0_7.toList == a1_7.toList) = false := beq_eq_false_iff_ne.mpr c18
         have c18b1 : (a0_7.toList != a1_7.toList) = true := bne_iff_ne.mpr c18
         have H' := Aside0.mk H
         clear H
         have hnb22 := NB337_338.out
         have hnc22 := NB338_337.out
         obtain ⟨hcz23_0, hcz23_1, hcz23_2, hcz23_3, hcz23_4, hcz23_5, hcz23_6, hcz23_7, hfz23_0, hfz23_1, hfz23_2, hfz23_3, hfz23_4, hfz23_5, hfz23_6, hfz23_7⟩ := c8_10 BK337.out
         obtain ⟨hcz24_0, hcz24_1, hcz24_2, hcz24_3, hcz24_4, hcz24_5, hcz24_6, hcz24_7, hfz24_0, hfz24_1, hfz24_2, hfz24_3, hfz24_4, hfz24_5, hfz24_6, hfz24_7⟩ := c8_10 BK338.out
         go_wp2
         repeat (go_quiet (fail); try go_wp2)
         go_meet
         case rel => exact ⟨_, (true), (by first | rfl | (simp; done) | (simp [*]; done)), H', ⟨by first | omega | exact Nat.le_refl _⟩, ⟨by (with_reducible repeat (first | refine bN_ ?_ _ | refine bD_ ?_ | refine bA_ ?_ _)); exact BK337.out⟩, ⟨by (with_reducible repeat (first | refine bN_ ?_ _ | refine bD_ ?_ | refine bA_ ?_ _)); exact BK338.out⟩, ⟨by repeat (first | (with_reducible first | exact HB.out | apply wA_ | apply wN_ | apply wD_ | refine wS_ ?_ GE337.out | refine wS_ ?_ GE338.out) | exact HB.out)⟩⟩
       ·rw [if_neg c17] at H
        have c17b0 : (a0_3.toList == a1_3.toList) = false := beq_eq_false_iff_ne.mpr c17
        have c17b1 : (a0_3.toList != a1_3.toList) = true := bne_iff_ne.mpr c17
        have H' := Aside0.mk H
        clear H
        have hnb25 := NB337_338.out
        have hnc25 := NB338_337.out
        obtain ⟨hcz26_0, hcz26_1, hcz26_2, hcz26_3, hcz26_4, hcz26_5, hcz26_6, hcz26_7, hfz26_0, hfz26_1, hfz26_2, hfz26_3, hfz26_4, hfz26_5, hfz26_6, hfz26_7⟩ := c8_10 BK337.out
        obtain ⟨hcz27_0, hcz27_1, hcz27_2, hcz27_3, hcz27_4, hcz27_5, hcz27_6, hcz27_7, hfz27_0, hfz27_1, hfz27_2, hfz27_3, hfz27_4, hfz27_5, hfz27_6, hfz27_7⟩ := c8_10 BK338.out
        go_wp2
        repeat (go_quiet (fail); try go_wp2)
        go_meet
        case rel => exact ⟨_, (true), (by first | rfl | (simp; done) | (simp [*]; done)), H', ⟨by first | omega | exact Nat.le_refl _⟩, ⟨by (with_reducible repeat (first | refine bN_ ?_ _ | refine bD_ ?_ | refine bA_ ?_ _)); exact BK337.out⟩, ⟨by (with_reducible repeat (first | refine bN_ ?_ _ | refine bD_ ?_ | refine bA_ ?_ _)); exact BK338.out⟩, ⟨by repeat (first | (with_reducible first | exact HB.out | apply wA_ | apply wN_ | apply wD_ | refine wS_ ?_ GE337.out | refine wS_ ?_ GE338.out) | exact HB.out)⟩⟩
      ·rw [if_neg c16] at H
       have c16b0 : (a0_2.toList == a1_2.toList) = false := beq_eq_false_iff_ne.mpr c16
       have c16b1 : (a0_2.toList != a1_2.toList) = true := bne_iff_ne.mpr c16
       have H' := Aside0.mk H
       clear H
       have hnb28 := NB337_338.out
       have hnc28 := NB338_337.out
       obtain ⟨hcz29_0, hcz29_1, hcz29_2, hcz29_3, hcz29_4, hcz29_5, hcz29_6, hcz29_7, hfz29_0, hfz29_1, hfz29_2, hfz29_3, hfz29_4, hfz29_5, hfz29_6, hfz29_7⟩ := c8_10 BK337.out
       obtain ⟨hcz30_0, hcz30_1, hcz30_2, hcz30_3, hcz30_4, hcz30_5, hcz30_6, hcz30_7, hfz30_0, hfz30_1, hfz30_2, hfz30_3, hfz30_4, hfz30_5, hfz30_6, hfz30_7⟩ := c8_10 BK338.out
       go_wp2
       repeat (go_quiet (fail); try go_wp2)
       go_meet
       case rel => exact ⟨_, (true), (by first | rfl | (simp; done) | (simp [*]; done)), H', ⟨by first | omega | exact Nat.le_refl _⟩, ⟨by (with_reducible repeat (first | refine bN_ ?_ _ | refine bD_ ?_ | refine bA_ ?_ _)); exact BK337.out⟩, ⟨by (with_reducible repeat (first | refine bN_ ?_ _ | refine bD_ ?_ | refine bA_ ?_ _)); exact BK338.out⟩, ⟨by repeat (first | (with_reducible first | exact HB.out | apply wA_ | apply wN_ | apply wD_ | refine wS_ ?_ GE337.out | refine wS_ ?_ GE338.out) | exact HB.out)⟩⟩
     ·rw [if_neg c15] at H
      have c15b0 : (a0_0.toList == a1_0.toList) = false := beq_eq_false_iff_ne.mpr c15
      have c15b1 : (a0_0.toList != a1_0.toList) = true := bne_iff_ne.mpr c15
      (first | rw [c15b0] | rw [c15b1] | (simp only [i64_w, i32_w]; rw [c15b0]) | skip)
      have H' := Aside0.mk H
      clear H
      have hnb31 := NB337_338.out
      have hnc31 := NB338_337.out
      obtain ⟨hcz32_0, hcz32_1, hcz32_2, hcz32_3, hcz32_4, hcz32_5, hcz32_6, hcz32_7, hfz32_0, hfz32_1, hfz32_2, hfz32_3, hfz32_4, hfz32_5, hfz32_6, hfz32_7⟩ := c8_10 BK337.out
      obtain ⟨hcz33_0, hcz33_1, hcz33_2, hcz33_3, hcz33_4, hcz33_5, hcz33_6, hcz33_7, hfz33_0, hfz33_1, hfz33_2, hfz33_3, hfz33_4, hfz33_5, hfz33_6, hfz33_7⟩ := c8_10 BK338.out
      go_wp2
      repeat (go_quiet (fail); try go_wp2)
      go_meet
      case rel => exact ⟨_, (true), (by first | rfl | (simp; done) | (simp [*]; done)), H', ⟨by first | omega | exact Nat.le_refl _⟩, ⟨by (with_reducible repeat (first | refine bN_ ?_ _ | refine bD_ ?_ | refine bA_ ?_ _)); exact BK337.out⟩, ⟨by (with_reducible repeat (first | refine bN_ ?_ _ | refine bD_ ?_ | refine bA_ ?_ _)); exact BK338.out⟩, ⟨by repeat (first | (with_reducible first | exact HB.out | apply wA_ | apply wN_ | apply wD_ | refine wS_ ?_ GE337.out | refine wS_ ?_ GE338.out) | exact HB.out)⟩⟩
    ·replace c14 := Bool.eq_false_iff.mpr c14
     subst c14
     have H1 : (isoglossref06_Same.j0 k true a0_0 l0_1 a0_2 a0_3 l0_4 l0_5 l0_6 a0_7 a1_0 l1_1 a1_2 a1_3 l1_4 l1_5 l1_6 a1_7) = some r := by rw [if_neg (show ¬ (false = true) by decide)] at H; exact H
     clear H
     have H := H1
     clear H1
     have H' := Aside0.mk H
     clear H
     go_wp2
     repeat (go_quiet (fail); try go_wp2)
     go_meet
     case rel => exact ⟨_, (true), (by first | rfl | (simp; done) | (simp [*]; done)), H', ⟨by first | omega | exact Nat.le_refl _⟩, ⟨by (with_reducible repeat (first | refine bN_ ?_ _ | refine bD_ ?_ | refine bA_ ?_ _)); exact BK337.out⟩, ⟨by (with_reducible repeat (first | refine bN_ ?_ _ | refine bD_ ?_ | refine bA_ ?_ _)); exact BK338.out⟩, ⟨by repeat (first | (with_reducible first | exact HB.out | apply wA_ | apply wN_ | apply wD_ | refine wS_ ?_ GE337.out | refine wS_ ?_ GE338.out) | exact HB.out)⟩⟩
   ·replace c13 := Bool.eq_false_iff.mpr c13
    subst c13
    have H1 : (isoglossref06_Same.j0 k true a0_0 l0_1 a0_2 a0_3 l0_4 l0_5 l0_6 a0_7 a1_0 l1_1 a1_2 a1_3 l1_4 l1_5 l1_6 a1_7) = some r := by rw [if_neg (show ¬ (false = true) by decide)] at H; exact H
    clear H
    have H := H1
    clear H1
    have H' := Aside0.mk H
    clear H
    go_wp2
    repeat (go_quiet (fail); try go_wp2)
    go_meet
    case rel => exact ⟨_, (true), (by first | rfl | (simp; done) | (simp [*]; done)), H', ⟨by first | omega | exact Nat.le_refl _⟩, ⟨by (with_reducible repeat (first | refine bN_ ?_ _ | refine bD_ ?_ | refine bA_ ?_ _)); exact BK337.out⟩, ⟨by (with_reducible repeat (first | refine bN_ ?_ _ | refine bD_ ?_ | refine bA_ ?_ _)); exact BK338.out⟩, ⟨by repeat (first | (with_reducible first | exact HB.out | apply wA_ | apply wN_ | apply wD_ | refine wS_ ?_ GE337.out | refine wS_ ?_ GE338.out) | exact HB.out)⟩⟩
  ·replace c12 := Bool.eq_false_iff.mpr c12
   subst c12
   have H1 : (isoglossref06_Same.j0 k true a0_0 l0_1 a0_2 a0_3 l0_4 l0_5 l0_6 a0_7 a1_0 l1_1 a1_2 a1_3 l1_4 l1_5 l1_6 a1_7) = some r := by rw [if_neg (show ¬ (false = true) by decide)] at H; exact H
   clear H
   have H := H1
   clear H1
   have H' := Aside0.mk H
   clear H
   go_wp2
   repeat (go_quiet (fail); try go_wp2)
   go_meet
   case rel => exact ⟨_, (true), (by first | rfl | (simp; done) | (simp [*]; done)), H', ⟨by first | omega | exact Nat.le_refl _⟩, ⟨by (with_reducible repeat (first | refine bN_ ?_ _ | refine bD_ ?_ | refine bA_ ?_ _)); exact BK337.out⟩, ⟨by (with_reducible repeat (first | refine bN_ ?_ _ | refine bD_ ?_ | refine bA_ ?_ _)); exact BK338.out⟩, ⟨by repeat (first | (with_reducible first | exact HB.out | apply wA_ | apply wN_ | apply wD_ | refine wS_ ?_ GE337.out | refine wS_ ?_ GE338.out) | exact HB.out)⟩⟩
 case rest =>
  clear HC6
  try clear c1; try clear c2; try clear p2; try clear c3; try clear c9; try clear c12; try clear c13; try clear c14; try clear c15; try clear c15b0; try clear c15b1; try clear c16; try clear c16b0; try clear c16b1; try clear c17; try clear c17b0; try clear c17b1; try clear c18; try clear c18b0; try clear c18b1; try clear c19; try clear c22; try clear c25; try clear c28; try clear c31
  try clear hcz10_0 hcz10_1 hcz10_2 hcz10_3 hcz10_4 hcz10_5 hcz10_6 hcz10_7; try clear hcz11_0 hcz11_1 hcz11_2 hcz11_3 hcz11_4 hcz11_5 hcz11_6 hcz11_7; try clear hcz20_0 hcz20_1 hcz20_2 hcz20_3 hcz20_4 hcz20_5 hcz20_6 hcz20_7; try clear hcz21_0 hcz21_1 hcz21_2 hcz21_3 hcz21_4 hcz21_5 hcz21_6 hcz21_7; try clear hcz23_0 hcz23_1 hcz23_2 hcz23_3 hcz23_4 hcz23_5 hcz23_6 hcz23_7; try clear hcz24_0 hcz24_1 hcz24_2 hcz24_3 hcz24_4 hcz24_5 hcz24_6 hcz24_7; try clear hcz26_0 hcz26_1 hcz26_2 hcz26_3 hcz26_4 hcz26_5 hcz26_6 hcz26_7; try clear hcz27_0 hcz27_1 hcz27_2 hcz27_3 hcz27_4 hcz27_5 hcz27_6 hcz27_7; try clear hcz29_0 hcz29_1 hcz29_2 hcz29_3 hcz29_4 hcz29_5 hcz29_6 hcz29_7; try clear hcz30_0 hcz30_1 hcz30_2 hcz30_3 hcz30_4 hcz30_5 hcz30_6 hcz30_7; try clear hcz32_0 hcz32_1 hcz32_2 hcz32_3 hcz32_4 hcz32_5 hcz32_6 hcz32_7; try clear hcz33_0 hcz33_1 hcz33_2 hcz33_3 hcz33_4 hcz33_5 hcz33_6 hcz33_7; try clear hfz10_0 hfz10_1 hfz10_2 hfz10_3 hfz10_4 hfz10_5 hfz10_6 hfz10_7; try clear hfz11_0 hfz11_1 hfz11_2 hfz11_3 hfz11_4 hfz11_5 hfz11_6 hfz11_7; try clear hfz20_0 hfz20_1 hfz20_2 hfz20_3 hfz20_4 hfz20_5 hfz20_6 hfz20_7; try clear hfz21_0 hfz21_1 hfz21_2 hfz21_3 hfz21_4 hfz21_5 hfz21_6 hfz21_7; try clear hfz23_0 hfz23_1 hfz23_2 hfz23_3 hfz23_4 hfz23_5 hfz23_6 hfz23_7; try clear hfz24_0 hfz24_1 hfz24_2 hfz24_3 hfz24_4 hfz24_5 hfz24_6 hfz24_7; try clear hfz26_0 hfz26_1 hfz26_2 hfz26_3 hfz26_4 hfz26_5 hfz26_6 hfz26_7; try clear hfz27_0 hfz27_1 hfz27_2 hfz27_3 hfz27_4 hfz27_5 hfz27_6 hfz27_7; try clear hfz29_0 hfz29_1 hfz29_2 hfz29_3 hfz29_4 hfz29_5 hfz29_6 hfz29_7; try clear hfz30_0 hfz30_1 hfz30_2 hfz30_3 hfz30_4 hfz30_5 hfz30_6 hfz30_7; try clear hfz32_0 hfz32_1 hfz32_2 hfz32_3 hfz32_4 hfz32_5 hfz32_6 hfz32_7; try clear hfz33_0 hfz33_1 hfz33_2 hfz33_3 hfz33_4 hfz33_5 hfz33_6 hfz33_7
  obtain ⟨kq, x71_5, rfl, HA, HJ5, BK337, BK338, HB⟩ := hcut
  cases kq with
  | zero => exact absurd HA.out (by simp [isoglossref06_Same.j0])
  | succ kj5 =>
   have H := HA.out
   clear HA
   simp only [isoglossref06_Same.j0] at H
   by_cases c34 : x71_5 = true
   ·subst c34
    have H1 : (some false) = some r := by rw [if_pos rfl] at H; exact H
    clear H
    have H := H1
    clear H1
    obtain rfl := Option.some.inj H
    go_wp2
    repeat (go_quiet (fail); try go_wp2)
    go_ret
    exact ⟨by first | rfl | (simp [errW_none, errW_some] <;> rfl) | (simp [*, errW_none, errW_some] <;> rfl), by repeat (first | (with_reducible first | exact HB.out | apply wA_ | apply wN_ | apply wD_ | refine wS_ ?_ GE337.out | refine wS_ ?_ GE338.out) | exact HB.out)⟩
   ·replace c34 := Bool.eq_false_iff.mpr c34
    subst c34
    have H1 : (isoglossref06_Same.l0 kj5 0 a0_0 l0_1 a0_2 a0_3 l0_4 l0_5 l0_6 a0_7 a1_0 l1_1 a1_2 a1_3 l1_4 l1_5 l1_6 a1_7) = some r := by rw [if_neg (show ¬ (false = true) by decide)] at H; exact H
    clear H
    have H := H1
    clear H1
    have H' := Aside0.mk H
    clear H
    go_wp2
    repeat (go_quiet (fail); try go_wp2)
    go_loopg [8] kj5 (fun kq v8 w' => ∃ (x8_2 : Int), v8 = .int .i64 x8_2 ∧ Aside0 (isoglossref06_Same.l0 kq x8_2 a0_0 l0_1 a0_2 a0_3 l0_4 l0_5 l0_6 a0_7 a1_0 l1_1 a1_2 a1_3 l1_4 l1_5 l1_6 a1_7 = some r) ∧ Aside0 (kq ≤ kj5) ∧ Aside0 (w'.heap[gb337]? = some (.cells #[.string a0_0, (.slice A0_1 l0_1.length c0_1), .string a0_2, .string a0_3, (.slice A0_4 l0_4.length c0_4), (.slice A0_5 l0_5.length c0_5), (.slice A0_6 l0_6.length c0_6), .string a0_7] 29 (0, 0))) ∧ Aside0 (w'.heap[gb338]? = some (.cells #[.string a1_0, (.slice A1_1 l1_1.length c1_1), .string a1_2, .string a1_3, (.slice A1_4 l1_4.length c1_4), (.slice A1_5 l1_5.length c1_5), (.slice A1_6 l1_6.length c1_6), .string a1_7] 29 (0, 0))) ∧ Aside0 (Below w.heap.size w w'))
    case atStart => exact ⟨(0), (by first | rfl | (simp; done) | (simp [*]; done)), H', ⟨Nat.le_refl _⟩, ⟨by (with_reducible repeat (first | refine bN_ ?_ _ | refine bD_ ?_ | refine bA_ ?_ _)); exact BK337.out⟩, ⟨by (with_reducible repeat (first | refine bN_ ?_ _ | refine bD_ ?_ | refine bA_ ?_ _)); exact BK338.out⟩, ⟨by repeat (first | (with_reducible first | exact HB.out | apply wA_ | apply wN_ | apply wD_ | refine wS_ ?_ GE337.out | refine wS_ ?_ GE338.out) | exact HB.out)⟩⟩
    case round =>
     clear H'
     try clear c1; try clear c2; try clear p2; try clear c3; try clear c9; try clear c12; try clear c13; try clear c14; try clear c15; try clear c15b0; try clear c15b1; try clear c16; try clear c16b0; try clear c16b1; try clear c17; try clear c17b0; try clear c17b1; try clear c18; try clear c18b0; try clear c18b1; try clear c19; try clear c22; try clear c25; try clear c28; try clear c31; try clear c34
     try clear hcz10_0 hcz10_1 hcz10_2 hcz10_3 hcz10_4 hcz10_5 hcz10_6 hcz10_7; try clear hcz11_0 hcz11_1 hcz11_2 hcz11_3 hcz11_4 hcz11_5 hcz11_6 hcz11_7; try clear hcz20_0 hcz20_1 hcz20_2 hcz20_3 hcz20_4 hcz20_5 hcz20_6 hcz20_7; try clear hcz21_0 hcz21_1 hcz21_2 hcz21_3 hcz21_4 hcz21_5 hcz21_6 hcz21_7; try clear hcz23_0 hcz23_1 hcz23_2 hcz23_3 hcz23_4 hcz23_5 hcz23_6 hcz23_7; try clear hcz24_0 hcz24_1 hcz24_2 hcz24_3 hcz24_4 hcz24_5 hcz24_6 hcz24_7; try clear hcz26_0 hcz26_1 hcz26_2 hcz26_3 hcz26_4 hcz26_5 hcz26_6 hcz26_7; try clear hcz27_0 hcz27_1 hcz27_2 hcz27_3 hcz27_4 hcz27_5 hcz27_6 hcz27_7; try clear hcz29_0 hcz29_1 hcz29_2 hcz29_3 hcz29_4 hcz29_5 hcz29_6 hcz29_7; try clear hcz30_0 hcz30_1 hcz30_2 hcz30_3 hcz30_4 hcz30_5 hcz30_6 hcz30_7; try clear hcz32_0 hcz32_1 hcz32_2 hcz32_3 hcz32_4 hcz32_5 hcz32_6 hcz32_7; try clear hcz33_0 hcz33_1 hcz33_2 hcz33_3 hcz33_4 hcz33_5 hcz33_6 hcz33_7; try clear hfz10_0 hfz10_1 hfz10_2 hfz10_3 hfz10_4 hfz10_5 hfz10_6 hfz10_7; try clear hfz11_0 hfz11_1 hfz11_2 hfz11_3 hfz11_4 hfz11_5 hfz11_6 hfz11_7; try clear hfz20_0 hfz20_1 hfz20_2 hfz20_3 hfz20_4 hfz20_5 hfz20_6 hfz20_7; try clear hfz21_0 hfz21_1 hfz21_2 hfz21_3 hfz21_4 hfz21_5 hfz21_6 hfz21_7; try clear hfz23_0 hfz23_1 hfz23_2 hfz23_3 hfz23_4 hfz23_5 hfz23_6 hfz23_7; try clear hfz24_0 hfz24_1 hfz24_2 hfz24_3 hfz24_4 hfz24_5 hfz24_6 hfz24_7; try clear hfz26_0 hfz26_1 hfz26_2 hfz26_3 hfz26_4 hfz26_5 hfz26_6 hfz26_7; try clear hfz27_0 hfz27_1 hfz27_2 hfz27_3 hfz27_4 hfz27_5 hfz27_6 hfz27_7; try clear hfz29_0 hfz29_1 hfz29_2 hfz29_3 hfz29_4 hfz29_5 hfz29_6 hfz29_7; try clear hfz30_0 hfz30_1 hfz30_2 hfz30_3 hfz30_4 hfz30_5 hfz30_6 hfz30_7; try clear hfz32_0 hfz32_1 hfz32_2 hfz32_3 hfz32_4 hfz32_5 hfz32_6 hfz32_7; try clear hfz33_0 hfz33_1 hfz33_2 hfz33_3 hfz33_4 hfz33_5 hfz33_6 hfz33_7
     try clear p2
     obtain ⟨x8_2, rfl, HA, HK2, BK337, BK338, HB⟩ := hrel
     cases gk with
     | zero => exact absurd HA.out (by simp [isoglossref06_Same.l0])
     | succ k2 =>
      have H := HA.out
      clear HA
      simp only [isoglossref06_Same.l0] at H
      by_cases c35 : x8_2 < (l0_5.length : Int)
      ·rw [if_pos c35] at H
       have c35b0 : decide (x8_2 < (l0_5.length : Int)) = true := decide_eq_true c35
       clear c35
       by_cases c36 : 0 ≤ x8_2
       ·rw [if_pos c36] at H
        have c36b0 : decide (0 ≤ x8_2) = true := decide_eq_true c36
        clear c36
        by_cases c37 : x8_2 < (l1_5.length : Int)
        ·rw [if_pos c37] at H
         have c37b0 : decide (x8_2 < (l1_5.length : Int)) = true := decide_eq_true c37
         clear c37
         replace H := Option.bind_eq_some_iff.mp H
         obtain ⟨t344, A380, H⟩ := H
         replace H : (if t344 = true then (if ((rd_T47 l0_5 x8_2).f0).toList = ((rd_T47 l1_5 x8_2).f0).toList then (isoglossref06_Same.l0 k2 (wrap64 (x8_2 + 1)) a0_0 l0_1 a0_2 a0_3 l0_4 l0_5 l0_6 a0_7 a1_0 l1_1 a1_2 a1_3 l1_4 l1_5 l1_6 a1_7) else (some false)) else (some false)) = some r := H
         have A38 := Aside0.mk A380
         clear A380
         by_cases c39 : t344 = true
         ·subst c39
          have H1 : (if ((rd_T47 l0_5 x8_2).f0).toList = ((rd_T47 l1_5 x8_2).f0).toList then (isoglossref06_Same.l0 k2 (wrap64 (x8_2 + 1)) a0_0 l0_1 a0_2 a0_3 l0_4 l0_5 l0_6 a0_7 a1_0 l1_1 a1_2 a1_3 l1_4 l1_5 l1_6 a1_7) else (some false)) = some r := by rw [if_pos rfl] at H; exact H
          clear H
          have H := H1
          clear H1
          by_cases c40 : ((rd_T47 l0_5 x8_2).f0).toList = ((rd_T47 l1_5 x8_2).f0).toList
          ·rw [if_pos c40] at H
           have c40b0 : (((rd_T47 l0_5 x8_2).f0).toList == ((rd_T47 l1_5 x8_2).f0).toList) = true := beq_iff_eq.mpr c40
           have c40b1 : (((rd_T47 l0_5 x8_2).f0).toList != ((rd_T47 l1_5 x8_2).f0).toList) = false := bne_eq_false_iff_eq.mpr c40
           clear c40
           have H' := Aside0.mk H
           clear H
           have hnb41 := NB337_338.out
           have hnc41 := NB338_337.out
           obtain ⟨hcz42_0, hcz42_1, hcz42_2, hcz42_3, hcz42_4, hcz42_5, hcz42_6, hcz42_7, hfz42_0, hfz42_1, hfz42_2, hfz42_3, hfz42_4, hfz42_5, hfz42_6, hfz42_7⟩ := c8_10 BK337.out
           have p342 : 0 ≤ (x8_2 : Int) := of_decide_eq_true (by first | (with_reducible assumption) | assumption)
           have q342 : x8_2 < (l0_5.length : Int) := of_decide_eq_true (by first | (with_reducible assumption) | assumption)
           obtain ⟨ad342, A342_1, c342_1, e342, hx342_0, hx342_1, hl342_1, hi342_1⟩ := at_T47 HR0_5.out x8_2 p342 q342
           cases e342
           replace hx342_0 := (HB.out.cell (World.block_lt_of_cell? w _ hx342_0)).trans hx342_0
           replace hx342_1 := (HB.out.cell (World.block_lt_of_cell? w _ hx342_1)).trans hx342_1
           have HR342_1 := Aside0.mk hi342_1
           have HC342_1 := Aside0.mk hl342_1
           clear hi342_1 hl342_1
           replace p342 := eq_true p342
           replace q342 := eq_true q342
           obtain ⟨hcz43_0, hcz43_1, hcz43_2, hcz43_3, hcz43_4, hcz43_5, hcz43_6, hcz43_7, hfz43_0, hfz43_1, hfz43_2, hfz43_3, hfz43_4, hfz43_5, hfz43_6, hfz43_7⟩ := c8_10 BK338.out
           have p343 : 0 ≤ (x8_2 : Int) := of_decide_eq_true (by first | (with_reducible assumption) | assumption)
           have q343 : x8_2 < (l1_5.length : Int) := of_decide_eq_true (by first | (with_reducible assumption) | assumption)
           obtain ⟨ad343, A343_1, c343_1, e343, hx343_0, hx343_1, hl343_1, hi343_1⟩ := at_T47 HR1_5.out x8_2 p343 q343
           cases e343
           replace hx343_0 := (HB.out.cell (World.block_lt_of_cell? w _ hx343_0)).trans hx343_0
           replace hx343_1 := (HB.out.cell (World.block_lt_of_cell? w _ hx343_1)).trans hx343_1
           have HR343_1 := Aside0.mk hi343_1
           have HC343_1 := Aside0.mk hl343_1
           clear hi343_1 hl343_1
           replace p343 := eq_true p343
           replace q343 := eq_true q343
           go_wp2_with (first | (go_at_call 22; (with_reducible refine (isoglossref04_Same.calls k2 _ _ ((rd_T47 l0_5 x8_2).f1) _ _ ((rd_T47 l1_5 x8_2).f1) true _ ?side1 ?side2 ?side3 ?side4 A38.out).mono ?_); (case side1 => repeat (first | exact (cB_ HR342_1.out HB.out) | (with_reducible refine cA_ ?_ _) | (with_reducible refine cN_ ?_ _) | (with_reducible refine cD_ ?_))); (case side2 => exact HC342_1.out); (case side3 => repeat (first | exact (cB_ HR343_1.out HB.out) | (with_reducible refine cA_ ?_ _) | (with_reducible refine cN_ ?_ _) | (with_reducible refine cD_ ?_))); (case side4 => exact HC343_1.out); rintro e w' ⟨rfl, ⟨nd, rfl⟩⟩; (try first | exact ⟨rfl, _, World.drewN_drewN _ _ _⟩ | exact ⟨rfl, _, Eq.trans (World.drewN_drewN _ _ _) (congrArg (World.drewN _) (Nat.add_assoc _ _ _))⟩); have p345 : 0 ≤ (x8_2 : Int) := of_decide_eq_true (by first | (with_reducible assumption) | assumption); have q345 : x8_2 < (l0_5.length : Int) := of_decide_eq_true (by first | (with_reducible assumption) | assumption); obtain ⟨ad345, A345_1, c345_1, e345, hx345_0, hx345_1, hl345_1, hi345_1⟩ := at_T47 HR0_5.out x8_2 p345 q345; obtain rfl : ad342 = ad345 := (by injection e345); replace hx345_0 := (HB.out.cell (World.block_lt_of_cell? w _ hx345_0)).trans hx345_0; replace hx345_1 := (HB.out.cell (World.block_lt_of_cell? w _ hx345_1)).trans hx345_1; have HR345_1 := Aside0.mk hi345_1; have HC345_1 := Aside0.mk hl345_1; clear hi345_1 hl345_1; replace p345 := eq_true p345; replace q345 := eq_true q345; have ea_ := Option.some.inj (hx342_1.symm.trans hx345_1); injection ea_ with ea_ en_ ec_; subst ea_; subst ec_; clear en_; have p346 : 0 ≤ (x8_2 : Int) := of_decide_eq_true (by first | (with_reducible assumption) | assumption); have q346 : x8_2 < (l1_5.length : Int) := of_decide_eq_true (by first | (with_reducible assumption) | assumption); obtain ⟨ad346, A346_1, c346_1, e346, hx346_0, hx346_1, hl346_1, hi346_1⟩ := at_T47 HR1_5.out x8_2 p346 q346; obtain rfl : ad343 = ad346 := (by injection e346); replace hx346_0 := (HB.out.cell (World.block_lt_of_cell? w _ hx346_0)).trans hx346_0; replace hx346_1 := (HB.out.cell (World.block_lt_of_cell? w _ hx346_1)).trans hx346_1; have HR346_1 := Aside0.mk hi346_1; have HC346_1 := Aside0.mk hl346_1; clear hi346_1 hl346_1; replace p346 := eq_true p346; replace q346 := eq_true q346; have ea_ := Option.some.inj (hx343_1.symm.trans hx346_1); injection ea_ with ea_ en_ ec_; subst ea_; subst ec_; clear en_))
           repeat (go_quiet (first | (go_at_call 22; (with_reducible refine (isoglossref04_Same.calls k2 _ _ ((rd_T47 l0_5 x8_2).f1) _ _ ((rd_T47 l1_5 x8_2).f1) true _ ?side1 ?side2 ?side3 ?side4 A38.out).mono ?_); (case side1 => repeat (first | exact (cB_ HR342_1.out HB.out) | (with_reducible refine cA_ ?_ _) | (with_reducible refine cN_ ?_ _) | (with_reducible refine cD_ ?_))); (case side2 => exact HC342_1.out); (case side3 => repeat (first | exact (cB_ HR343_1.out HB.out) | (with_reducible refine cA_ ?_ _) | (with_reducible refine cN_ ?_ _) | (with_reducible refine cD_ ?_))); (case side4 => exact HC343_1.out); rintro e w' ⟨rfl, ⟨nd, rfl⟩⟩; (try first | exact ⟨rfl, _, World.drewN_drewN _ _ _⟩ | exact ⟨rfl, _, Eq.trans (World.drewN_drewN _ _ _) (congrArg (World.drewN _) (Nat.add_assoc _ _ _))⟩); have p345 : 0 ≤ (x8_2 : Int) := of_decide_eq_true (by first | (with_reducible assumption) | assumption); have q345 : x8_2 < (l0_5.length : Int) := of_decide_eq_true (by first | (with_reducible assumption) | assumption); obtain ⟨ad345, A345_1, c345_1, e345, hx345_0, hx345_1, hl345_1, hi345_1⟩ := at_T47 HR0_5.out x8_2 p345 q345; obtain rfl : ad342 = ad345 := (by injection e345); replace hx345_0 := (HB.out.cell (World.block_lt_of_cell? w _ hx345_0)).trans hx345_0; replace hx345_1 := (HB.out.cell (World.block_lt_of_cell? w _ hx345_1)).trans hx345_1; have HR345_1 := Aside0.mk hi345_1; have HC345_1 := Aside0.mk hl345_1; clear hi345_1 hl345_1; replace p345 := eq_true p345; replace q345 := eq_true q345; have ea_ := Option.some.inj (hx342_1.symm.trans hx345_1); injection ea_ with ea_ en_ ec_; subst ea_; subst ec_; clear en_; have p346 : 0 ≤ (x8_2 : Int) := of_decide_eq_true (by first | (with_reducible assumption) | assumption); have q346 : x8_2 < (l1_5.length : Int) := of_decide_eq_true (by first | (with_reducible assumption) | assumption); obtain ⟨ad346, A346_1, c346_1, e346, hx346_0, hx346_1, hl346_1, hi346_1⟩ := at_T47 HR1_5.out x8_2 p346 q346; obtain rfl : ad343 = ad346 := (by injection e346); replace hx346_0 := (HB.out.cell (World.block_lt_of_cell? w _ hx346_0)).trans hx346_0; replace hx346_1 := (HB.out.cell (World.block_lt_of_cell? w _ hx346_1)).trans hx346_1; have HR346_1 := Aside0.mk hi346_1; have HC346_1 := Aside0.mk hl346_1; clear hi346_1 hl346_1; replace p346 := eq_true p346; replace q346 := eq_true q346; have ea_ := Option.some.inj (hx343_1.symm.trans hx346_1); injection ea_ with ea_ en_ ec_; subst ea_; subst ec_; clear en_)); try go_wp2_with (first | (go_at_call 22; (with_reducible refine (isoglossref04_Same.calls k2 _ _ ((rd_T47 l0_5 x8_2).f1) _ _ ((rd_T47 l1_5 x8_2).f1) true _ ?side1 ?side2 ?side3 ?side4 A38.out).mono ?_); (case side1 => repeat (first | exact (cB_ HR342_1.out HB.out) | (with_reducible refine cA_ ?_ _) | (with_reducible refine cN_ ?_ _) | (with_reducible refine cD_ ?_))); (case side2 => exact HC342_1.out); (case side3 => repeat (first | exact (cB_ HR343_1.out HB.out) | (with_reducible refine cA_ ?_ _) | (with_reducible refine cN_ ?_ _) | (with_reducible refine cD_ ?_))); (case side4 => exact HC343_1.out); rintro e w' ⟨rfl, ⟨nd, rfl⟩⟩; (try first | exact ⟨rfl, _, World.drewN_drewN _ _ _⟩ | exact ⟨rfl, _, Eq.trans (World.drewN_drewN _ _ _) (congrArg (World.drewN _) (Nat.add_assoc _ _ _))⟩); have p345 : 0 ≤ (x8_2 : Int) := of_decide_eq_true (by first | (with_reducible assumption) | assumption); have q345 : x8_2 < (l0_5.length : Int) := of_decide_eq_true (by first | (with_reducible assumption) | assumption); obtain ⟨ad345, A345_1, c345_1, e345, hx345_0, hx345_1, hl345_1, hi345_1⟩ := at_T47 HR0_5.out x8_2 p345 q345; obtain rfl : ad342 = ad345 := (by injection e345); replace hx345_0 := (HB.out.cell (World.block_lt_of_cell? w _ hx345_0)).trans hx345_0; replace hx345_1 := (HB.out.cell (World.block_lt_of_cell? w _ hx345_1)).trans hx345_1; have HR345_1 := Aside0.mk hi345_1; have HC345_1 := Aside0.mk hl345_1; clear hi345_1 hl345_1; replace p345 := eq_true p345; replace q345 := eq_true q345; have ea_ := Option.some.inj (hx342_1.symm.trans hx345_1); injection ea_ with ea_ en_ ec_; subst ea_; subst ec_; clear en_; have p346 : 0 ≤ (x8_2 : Int) := of_decide_eq_true (by first | (with_reducible assumption) | assumption); have q346 : x8_2 < (l1_5.length : Int) := of_decide_eq_true (by first | (with_reducible assumption) | assumption); obtain ⟨ad346, A346_1, c346_1, e346, hx346_0, hx346_1, hl346_1, hi346_1⟩ := at_T47 HR1_5.out x8_2 p346 q346; obtain rfl : ad343 = ad346 := (by injection e346); replace hx346_0 := (HB.out.cell (World.block_lt_of_cell? w _ hx346_0)).trans hx346_0; replace hx346_1 := (HB.out.cell (World.block_lt_of_cell? w _ hx346_1)).trans hx346_1; have HR346_1 := Aside0.mk hi346_1; have HC346_1 := Aside0.mk hl346_1; clear hi346_1 hl346_1; replace p346 := eq_true p346; replace q346 := eq_true q346; have ea_ := Option.some.inj (hx343_1.symm.trans hx346_1); injection ea_ with ea_ en_ ec_; subst ea_; subst ec_; clear en_)))
           go_roundg k2
           case measure => have := HJ5.out; have := HK2.out; omega
           case rel => exact ⟨(wrap64 (x8_2 + 1)), (by first | rfl | (simp; done) | (simp [*]; done)), H', ⟨by have := HJ5.out; have := HK2.out; omega⟩, ⟨by (with_reducible repeat (first | refine bN_ ?_ _ | refine bD_ ?_ | refine bA_ ?_ _)); exact BK337.out⟩, ⟨by (with_reducible repeat (first | refine bN_ ?_ _ | refine bD_ ?_ | refine bA_ ?_ _)); exact BK338.out⟩, ⟨by repeat (first | (with_reducible first | exact HB.out | apply wA_ | apply wN_ | apply wD_ | refine wS_ ?_ GE337.out | refine wS_ ?_ GE338.out) | exact HB.out)⟩⟩
          ·rw [if_neg c40] at H
           have c40b0 : (((rd_T47 l0_5 x8_2).f0).toList == ((rd_T47 l1_5 x8_2).f0).toList) = false := beq_eq_false_iff_ne.mpr c40
           have c40b1 : (((rd_T47 l0_5 x8_2).f0).toList != ((rd_T47 l1_5 x8_2).f0).toList) = true := bne_iff_ne.mpr c40
           obtain rfl := Option.some.inj H
           have hnb44 := NB337_338.out
           have hnc44 := NB338_337.out
           obtain ⟨hcz45_0, hcz45_1, hcz45_2, hcz45_3, hcz45_4, hcz45_5, hcz45_6, hcz45_7, hfz45_0, hfz45_1, hfz45_2, hfz45_3, hfz45_4, hfz45_5, hfz45_6, hfz45_7⟩ := c8_10 BK337.out
           have p342 : 0 ≤ (x8_2 : Int) := of_decide_eq_true (by first | (with_reducible assumption) | assumption)
           have q342 : x8_2 < (l0_5.length : Int) := of_decide_eq_true (by first | (with_reducible assumption) | assumption)
           obtain ⟨ad342, A342_1, c342_1, e342, hx342_0, hx342_1, hl342_1, hi342_1⟩ := at_T47 HR0_5.out x8_2 p342 q342
           cases e342
           replace hx342_0 := (HB.out.cell (World.block_lt_of_cell? w _ hx342_0)).trans hx342_0
           replace hx342_1 := (HB.out.cell (World.block_lt_of_cell? w _ hx342_1)).trans hx342_1
           have HR342_1 := Aside0.mk hi342_1
           have HC342_1 := Aside0.mk hl342_1
           clear hi342_1 hl342_1
           replace p342 := eq_true p342
           replace q342 := eq_true q342
           obtain ⟨hcz46_0, hcz46_1, hcz46_2, hcz46_3, hcz46_4, hcz46_5, hcz46_6, hcz46_7, hfz46_0, hfz46_1, hfz46_2, hfz46_3, hfz46_4, hfz46_5, hfz46_6, hfz46_7⟩ := c8_10 BK338.out
           have p343 : 0 ≤ (x8_2 : Int) := of_decide_eq_true (by first | (with_reducible assumption) | assumption)
           have q343 : x8_2 < (l1_5.length : Int) := of_decide_eq_true (by first | (with_reducible assumption) | assumption)
           obtain ⟨ad343, A343_1, c343_1, e343, hx343_0, hx343_1, hl343_1, hi343_1⟩ := at_T47 HR1_5.out x8_2 p343 q343
           cases e343
           replace hx343_0 := (HB.out.cell (World.block_lt_of_cell? w _ hx343_0)).trans hx343_0
           replace hx343_1 := (HB.out.cell (World.block_lt_of_cell? w _ hx343_1)).trans hx343_1
           have HR343_1 := Aside0.mk hi343_1
           have HC343_1 := Aside0.mk hl343_1
           clear hi343_1 hl343_1
           replace p343 := eq_true p343
           replace q343 := eq_true q343
           go_wp2_with (first | (go_at_call 22; (with_reducible refine (isoglossref04_Same.calls k2 _ _ ((rd_T47 l0_5 x8_2).f1) _ _ ((rd_T47 l1_5 x8_2).f1) true _ ?side1 ?side2 ?side3 ?side4 A38.out).mono ?_); (case side1 => repeat (first | exact (cB_ HR342_1.out HB.out) | (with_reducible refine cA_ ?_ _) | (with_reducible refine cN_ ?_ _) | (with_reducible refine cD_ ?_))); (case side2 => exact HC342_1.out); (case side3 => repeat (first | exact (cB_ HR343_1.out HB.out) | (with_reducible refine cA_ ?_ _) | (with_reducible refine cN_ ?_ _) | (with_reducible refine cD_ ?_))); (case side4 => exact HC343_1.out); rintro e w' ⟨rfl, ⟨nd, rfl⟩⟩; (try first | exact ⟨rfl, _, World.drewN_drewN _ _ _⟩ | exact ⟨rfl, _, Eq.trans (World.drewN_drewN _ _ _) (congrArg (World.drewN _) (Nat.add_assoc _ _ _))⟩); have p345 : 0 ≤ (x8_2 : Int) := of_decide_eq_true (by first | (with_reducible assumption) | assumption); have q345 : x8_2 < (l0_5.length : Int) := of_decide_eq_true (by first | (with_reducible assumption) | assumption); obtain ⟨ad345, A345_1, c345_1, e345, hx345_0, hx345_1, hl345_1, hi345_1⟩ := at_T47 HR0_5.out x8_2 p345 q345; obtain rfl : ad342 = ad345 := (by injection e345); replace hx345_0 := (HB.out.cell (World.block_lt_of_cell? w _ hx345_0)).trans hx345_0; replace hx345_1 := (HB.out.cell (World.block_lt_of_cell? w _ hx345_1)).trans hx345_1; have HR345_1 := Aside0.mk hi345_1; have HC345_1 := Aside0.mk hl345_1; clear hi345_1 hl345_1; replace p345 := eq_true p345; replace q345 := eq_true q345; have ea_ := Option.some.inj (hx342_1.symm.trans hx345_1); injection ea_ with ea_ en_ ec_; subst ea_; subst ec_; clear en_; have p346 : 0 ≤ (x8_2 : Int) := of_decide_eq_true (by first | (with_reducible assumption) | assumption); have q346 : x8_2 < (l1_5.length : Int) := of_decide_eq_true (by first | (with_reducible assumption) | assumption); obtain ⟨ad346, A346_1, c346_1, e346, hx346_0, hx346_1, hl346_1, hi346_1⟩ := at_T47 HR1_5.out x8_2 p346 q346; obtain rfl : ad343 = ad346 := (by injection e346); replace hx346_0 := (HB.out.cell (World.block_lt_of_cell? w _ hx346_0)).trans hx346_0; replace hx346_1 := (HB.out.cell (World.block_lt_of_cell? w _ hx346_1)).trans hx346_1; have HR346_1 := Aside0.mk hi346_1; have HC346_1 := Aside0.mk hl346_1; clear hi346_1 hl346_1; replace p346 := eq_true p346; replace q346 := eq_true q346; have ea_ := Option.some.inj (hx343_1.symm.trans hx346_1); injection ea_ with ea_ en_ ec_; subst ea_; subst ec_; clear en_))
           repeat (go_quiet (first | (go_at_call 22; (with_reducible refine (isoglossref04_Same.calls k2 _ _ ((rd_T47 l0_5 x8_2).f1) _ _ ((rd_T47 l1_5 x8_2).f1) true _ ?side1 ?side2 ?side3 ?side4 A38.out).mono ?_); (case side1 => repeat (first | exact (cB_ HR342_1.out HB.out) | (with_reducible refine cA_ ?_ _) | (with_reducible refine cN_ ?_ _) | (with_reducible refine cD_ ?_))); (case side2 => exact HC342_1.out); (case side3 => repeat (first | exact (cB_ HR343_1.out HB.out) | (with_reducible refine cA_ ?_ _) | (with_reducible refine cN_ ?_ _) | (with_reducible refine cD_ ?_))); (case side4 => exact HC343_1.out); rintro e w' ⟨rfl, ⟨nd, rfl⟩⟩; (try first | exact ⟨rfl, _, World.drewN_drewN _ _ _⟩ | exact ⟨rfl, _, Eq.trans (World.drewN_drewN _ _ _) (congrArg (World.drewN _) (Nat.add_assoc _ _ _))⟩); have p345 : 0 ≤ (x8_2 : Int) := of_decide_eq_true (by first | (with_reducible assumption) | assumption); have q345 : x8_2 < (l0_5.length : Int) := of_decide_eq_true (by first | (with_reducible assumption) | assumption); obtain ⟨ad345, A345_1, c345_1, e345, hx345_0, hx345_1, hl345_1, hi345_1⟩ := at_T47 HR0_5.out x8_2 p345 q345; obtain rfl : ad342 = ad345 := (by injection e345); replace hx345_0 := (HB.out.cell (World.block_lt_of_cell? w _ hx345_0)).trans hx345_0; replace hx345_1 := (HB.out.cell (World.block_lt_of_cell? w _ hx345_1)).trans hx345_1; have HR345_1 := Aside0.mk hi345_1; have HC345_1 := Aside0.mk hl345_1; clear hi345_1 hl345_1; replace p345 := eq_true p345; replace q345 := eq_true q345; have ea_ := Option.some.inj (hx342_1.symm.trans hx345_1); injection ea_ with ea_ en_ ec_; subst ea_; subst ec_; clear en_; have p346 : 0 ≤ (x8_2 : Int) := of_decide_eq_true (by first | (with_reducible assumption) | assumption); have q346 : x8_2 < (l1_5.length : Int) := of_decide_eq_true (by first | (with_reducible assumption) | assumption); obtain ⟨ad346, A346_1, c346_1, e346, hx346_0, hx346_1, hl346_1, hi346_1⟩ := at_T47 HR1_5.out x8_2 p346 q346; obtain rfl : ad343 = ad346 := (by injection e346); replace hx346_0 := (HB.out.cell (World.block_lt_of_cell? w _ hx346_0)).trans hx346_0; replace hx346_1 := (HB.out.cell (World.block_lt_of_cell? w _ hx346_1)).trans hx346_1; have HR346_1 := Aside0.mk hi346_1; have HC346_1 := Aside0.mk hl346_1; clear hi346_1 hl346_1; replace p346 := eq_true p346; replace q346 := eq_true q346; have ea_ := Option.some.inj (hx343_1.symm.trans hx346_1); injection ea_ with ea_ en_ ec_; subst ea_; subst ec_; clear en_)); try go_wp2_with (first | (go_at_call 22; (with_reducible refine (isoglossref04_Same.calls k2 _ _ ((rd_T47 l0_5 x8_2).f1) _ _ ((rd_T47 l1_5 x8_2).f1) true _ ?side1 ?side2 ?side3 ?side4 A38.out).mono ?_); (case side1 => repeat (first | exact (cB_ HR342_1.out HB.out) | (with_reducible refine cA_ ?_ _) | (with_reducible refine cN_ ?_ _) | (with_reducible refine cD_ ?_))); (case side2 => exact HC342_1.out); (case side3 => repeat (first | exact (cB_ HR343_1.out HB.out) | (with_reducible refine cA_ ?_ _) | (with_reducible refine cN_ ?_ _) | (with_reducible refine cD_ ?_))); (case side4 => exact HC343_1.out); rintro e w' ⟨rfl, ⟨nd, rfl⟩⟩; (try first | exact ⟨rfl, _, World.drewN_drewN _ _ _⟩ | exact ⟨rfl, _, Eq.trans (World.drewN_drewN _ _ _) (congrArg (World.drewN _) (Nat.add_assoc _ _ _))⟩); have p345 : 0 ≤ (x8_2 : Int) := of_decide_eq_true (by first | (with_reducible assumption) | assumption); have q345 : x8_2 < (l0_5.length : Int) := of_decide_eq_true (by first | (with_reducible assumption) | assumption); obtain ⟨ad345, A345_1, c345_1, e345, hx345_0, hx345_1, hl345_1, hi345_1⟩ := at_T47 HR0_5.out x8_2 p345 q345; obtain rfl : ad342 = ad345 := (by injection e345); replace hx345_0 := (HB.out.cell (World.block_lt_of_cell? w _ hx345_0)).trans hx345_0; replace hx345_1 := (HB.out.cell (World.block_lt_of_cell? w _ hx345_1)).trans hx345_1; have HR345_1 := Aside0.mk hi345_1; have HC345_1 := Aside0.mk hl345_1; clear hi345_1 hl345_1; replace p345 := eq_true p345; replace q345 := eq_true q345; have ea_ := Option.some.inj (hx342_1.symm.trans hx345_1); injection ea_ with ea_ en_ ec_; subst ea_; subst ec_; clear en_; have p346 : 0 ≤ (x8_2 : Int) := of_decide_eq_true (by first | (with_reducible assumption) | assumption); have q346 : x8_2 < (l1_5.length : Int) := of_decide_eq_true (by first | (with_reducible assumption) | assumption); obtain ⟨ad346, A346_1, c346_1, e346, hx346_0, hx346_1, hl346_1, hi346_1⟩ := at_T47 HR1_5.out x8_2 p346 q346; obtain rfl : ad343 = ad346 := (by injection e346); replace hx346_0 := (HB.out.cell (World.block_lt_of_cell? w _ hx346_0)).trans hx346_0; replace hx346_1 := (HB.out.cell (World.block_lt_of_cell? w _ hx346_1)).trans hx346_1; have HR346_1 := Aside0.mk hi346_1; have HC346_1 := Aside0.mk hl346_1; clear hi346_1 hl346_1; replace p346 := eq_true p346; replace q346 := eq_true q346; have ea_ := Option.some.inj (hx343_1.symm.trans hx346_1); injection ea_ with ea_ en_ ec_; subst ea_; subst ec_; clear en_)))
           go_ret
           exact ⟨by first | rfl | (simp [errW_none, errW_some] <;> rfl) | (simp [*, errW_none, errW_some] <;> rfl), by repeat (first | (with_reducible first | exact HB.out | apply wA_ | apply wN_ | apply wD_ | refine wS_ ?_ GE337.out | refine wS_ ?_ GE338.out) | exact HB.out)⟩
         ·replace c39 := Bool.eq_false_iff.mpr c39
          subst c39
          have H1 : (some false) = some r := by rw [if_neg (show ¬ (false = true) by decide)] at H; exact H
          clear H
          have H := H1
          clear H1
          obtain rfl := Option.some.inj H
          have hnb47 := NB337_338.out
          have hnc47 := NB338_337.out
          obtain ⟨hcz48_0, hcz48_1, hcz48_2, hcz48_3, hcz48_4, hcz48_5, hcz48_6, hcz48_7, hfz48_0, hfz48_1, hfz48_2, hfz48_3, hfz48_4, hfz48_5, hfz48_6, hfz48_7⟩ := c8_10 BK337.out
          have p342 : 0 ≤ (x8_2 : Int) := of_decide_eq_true (by first | (with_reducible assumption) | assumption)
          have q342 : x8_2 < (l0_5.length : Int) := of_decide_eq_true (by first | (with_reducible assumption) | assumption)
          obtain ⟨ad342, A342_1, c342_1, e342, hx342_0, hx342_1, hl342_1, hi342_1⟩ := at_T47 HR0_5.out x8_2 p342 q342
          cases e342
          replace hx342_0 := (HB.out.cell (World.block_lt_of_cell? w _ hx342_0)).trans hx342_0
          replace hx342_1 := (HB.out.cell (World.block_lt_of_cell? w _ hx342_1)).trans hx342_1
          have HR342_1 := Aside0.mk hi342_1
          have HC342_1 := Aside0.mk hl342_1
          clear hi342_1 hl342_1
          replace p342 := eq_true p342
          replace q342 := eq_true q342
          obtain ⟨hcz49_0, hcz49_1, hcz49_2, hcz49_3, hcz49_4, hcz49_5, hcz49_6, hcz49_7, hfz49_0, hfz49_1, hfz49_2, hfz49_3, hfz49_4, hfz49_5, hfz49_6, hfz49_7⟩ := c8_10 BK338.out
          have p343 : 0 ≤ (x8_2 : Int) := of_decide_eq_true (by first | (with_reducible assumption) | assumption)
          have q343 : x8_2 < (l1_5.length : Int) := of_decide_eq_true (by first | (with_reducible assumption) | assumption)
          obtain ⟨ad343, A343_1, c343_1, e343, hx343_0, hx343_1, hl343_1, hi343_1⟩ := at_T47 HR1_5.out x8_2 p343 q343
          cases e343
          replace hx343_0 := (HB.out.cell (World.block_lt_of_cell? w _ hx343_0)).trans hx343_0
          replace hx343_1 := (HB.out.cell (World.block_lt_of_cell? w _ hx343_1)).trans hx343_1
          have HR343_1 := Aside0.mk hi343_1
          have HC343_1 := Aside0.mk hl343_1
          clear hi343_1 hl343_1
          replace p343 := eq_true p343
          replace q343 := eq_true q343
          go_wp2_with (first | (go_at_call 22; (with_reducible refine (isoglossref04_Same.calls k2 _ _ ((rd_T47 l0_5 x8_2).f1) _ _ ((rd_T47 l1_5 x8_2).f1) false _ ?side1 ?side2 ?side3 ?side4 A38.out).mono ?_); (case side1 => repeat (first | exact (cB_ HR342_1.out HB.out) | (with_reducible refine cA_ ?_ _) | (with_reducible refine cN_ ?_ _) | (with_reducible refine cD_ ?_))); (case side2 => exact HC342_1.out); (case side3 => repeat (first | exact (cB_ HR343_1.out HB.out) | (with_reducible refine cA_ ?_ _) | (with_reducible refine cN_ ?_ _) | (with_reducible refine cD_ ?_))); (case side4 => exact HC343_1.out); rintro e w' ⟨rfl, ⟨nd, rfl⟩⟩; (try first | exact ⟨rfl, _, World.drewN_drewN _ _ _⟩ | exact ⟨rfl, _, Eq.trans (World.drewN_drewN _ _ _) (congrArg (World.drewN _) (Nat.add_assoc _ _ _))⟩)))
          repeat (go_quiet (first | (go_at_call 22; (with_reducible refine (isoglossref04_Same.calls k2 _ _ ((rd_T47 l0_5 x8_2).f1) _ _ ((rd_T47 l1_5 x8_2).f1) false _ ?side1 ?side2 ?side3 ?side4 A38.out).mono ?_); (case side1 => repeat (first | exact (cB_ HR342_1.out HB.out) | (with_reducible refine cA_ ?_ _) | (with_reducible refine cN_ ?_ _) | (with_reducible refine cD_ ?_))); (case side2 => exact HC342_1.out); (case side3 => repeat (first | exact (cB_ HR343_1.out HB.out) | (with_reducible refine cA_ ?_ _) | (with_reducible refine cN_ ?_ _) | (with_reducible refine cD_ ?_))); (case side4 => exact HC343_1.out); rintro e w' ⟨rfl, ⟨nd, rfl⟩⟩; (try first | exact ⟨rfl, _, World.drewN_drewN _ _ _⟩ | exact ⟨rfl, _, Eq.trans (World.drewN_drewN _ _ _) (congrArg (World.drewN _) (Nat.add_assoc _ _ _))⟩))); try go_wp2_with (first | (go_at_call 22; (with_reducible refine (isoglossref04_Same.calls k2 _ _ ((rd_T47 l0_5 x8_2).f1) _ _ ((rd_T47 l1_5 x8_2).f1) false _ ?side1 ?side2 ?side3 ?side4 A38.out).mono ?_); (case side1 => repeat (first | exact (cB_ HR342_1.out HB.out) | (with_reducible refine cA_ ?_ _) | (with_reducible refine cN_ ?_ _) | (with_reducible refine cD_ ?_))); (case side2 => exact HC342_1.out); (case side3 => repeat (first | exact (cB_ HR343_1.out HB.out) | (with_reducible refine cA_ ?_ _) | (with_reducible refine cN_ ?_ _) | (with_reducible refine cD_ ?_))); (case side4 => exact HC343_1.out); rintro e w' ⟨rfl, ⟨nd, rfl⟩⟩; (try first | exact ⟨rfl, _, World.drewN_drewN _ _ _⟩ | exact ⟨rfl, _, Eq.trans (World.drewN_drewN _ _ _) (congrArg (World.drewN _) (Nat.add_assoc _ _ _))⟩))))
          go_ret
          exact ⟨by first | rfl | (simp [errW_none, errW_some] <;> rfl) | (simp [*, errW_none, errW_some] <;> rfl), by repeat (first | (with_reducible first | exact HB.out | apply wA_ | apply wN_ | apply wD_ | refine wS_ ?_ GE337.out | refine wS_ ?_ GE338.out) | exact HB.out)⟩
        ·rw [if_neg c37] at H
         exact absurd H (by simp)
       ·rw [if_neg c36] at H
        exact absurd H (by simp)
      ·rw [if_neg c35] at H
       have c35b0 : decide (x8_2 < (l0_5.length : Int)) = false := decide_eq_false c35
       clear c35
       obtain rfl := Option.some.inj H
       have hnb50 := NB337_338.out
       have hnc50 := NB338_337.out
       obtain ⟨hcz51_0, hcz51_1, hcz51_2, hcz51_3, hcz51_4, hcz51_5, hcz51_6, hcz51_7, hfz51_0, hfz51_1, hfz51_2, hfz51_3, hfz51_4, hfz51_5, hfz51_6, hfz51_7⟩ := c8_10 BK337.out
       go_wp2
       repeat (go_quiet (fail); try go_wp2)
       go_ret
       exact ⟨by first | rfl | (simp [errW_none, errW_some] <;> rfl) | (simp [*, errW_none, errW_some] <;> rfl), by repeat (first | (with_reducible first | exact HB.out | apply wA_ | apply wN_ | apply wD_ | refine wS_ ?_ GE337.out | refine wS_ ?_ GE338.out) | exact HB.out)⟩
def isoglosslaw07_short.f (a0 : ByteArray) : Option (ByteArray) := if (a0.size : Int) > 80 then (if 0 ≤ 80 then (if 80 ≤ (a0.size : Int) then (some (a0.extract 0 80)) else (none)) else (none)) else (some a0)
set_option maxHeartbeats 8000000 in
set_option maxRecDepth 100000 in
theorem isoglosslaw07_short.calls (a0 : ByteArray) (r : ByteArray) (w : World) (h : isoglosslaw07_short.f a0 = some r) :
  Calls Tryz.prog 18 #[.string a0] w fun e w' => e = .returned (.string r) ∧ Drawn0 w w' := by
 have H : (if (a0.size : Int) > 80 then (if 0 ≤ 80 then (if 80 ≤ (a0.size : Int) then (some (a0.extract 0 80)) else (none)) else (none)) else (some a0)) = some r := h
 clear h
 by_cases c2 : (a0.size : Int) > 80
 ·rw [if_pos c2] at H
  have c2b0 : decide (80 < (a0.size : Int)) = true := decide_eq_true c2
  have c2b1 : decide (80 < a0.size) = true := decide_eq_true (by omega)
  clear c2
  by_cases c3 : 0 ≤ 80
  ·rw [if_pos c3] at H
   have c3b0 := eq_true c3
   have c3b1 : decide (0 ≤ 80) = true := decide_eq_true c3
   clear c3
   by_cases c4 : 80 ≤ (a0.size : Int)
   ·rw [if_pos c4] at H
    have c4b0 := eq_true c4
    have c4b1 : decide (80 ≤ (a0.size : Int)) = true := decide_eq_true c4
    clear c4
    obtain rfl := Option.some.inj H
    go_enter Tryz.func18, Tryz.ntmps18
    go_wp2
    go_ret
    exact ⟨by first | rfl | (simp; done) | (simp [*]; done), by repeat (first | exact Drawn0.refl _ | apply Drawn0.step)⟩
   ·rw [if_neg c4] at H
    exact absurd H (by simp)
  ·rw [if_neg c3] at H
   exact absurd H (by simp)
 ·rw [if_neg c2] at H
  have c2b0 : decide (80 < (a0.size : Int)) = false := decide_eq_false c2
  have c2b1 : decide (80 < a0.size) = false := decide_eq_false (by omega)
  clear c2
  obtain rfl := Option.some.inj H
  go_enter Tryz.func18, Tryz.ntmps18
  go_wp2
  go_ret
  exact ⟨by first | rfl | (simp; done) | (simp [*]; done), by repeat (first | exact Drawn0.refl _ | apply Drawn0.step)⟩
def isoglosslaw07_rest.f (a0 : Int) (a1 : Int) : Option (Int) := if a1 = 0 then (none) else (some (Int.tmod (wrap64 ((Int.tmod a0 a1) + a1)) a1))
set_option maxHeartbeats 8000000 in
set_option maxRecDepth 100000 in
theorem isoglosslaw07_rest.calls (a0 : Int) (a1 : Int) (r : Int) (w : World) (h : isoglosslaw07_rest.f a0 a1 = some r) :
  Calls Tryz.prog 20 #[.int .i64 a0, .int .i64 a1] w fun e w' => e = .returned (.int .i64 r) ∧ Drawn0 w w' := by
 have H : (if a1 = 0 then (none) else (some (Int.tmod (wrap64 ((Int.tmod a0 a1) + a1)) a1))) = some r := h
 clear h
 by_cases c3 : a1 = 0
 ·rw [if_pos c3] at H
  exact absurd H (by simp)
 ·rw [if_neg c3] at H
  have c3b0 : (a1 == 0) = false := beq_eq_false_iff_ne.mpr c3
  have c3b1 : (a1 != 0) = true := bne_iff_ne.mpr c3
  obtain rfl := Option.some.inj H
  go_enter Tryz.func20, Tryz.ntmps20
  go_wp2
  go_ret
  exact ⟨by first | rfl | (simp; done) | (simp [*]; done), by repeat (first | exact Drawn0.refl _ | apply Drawn0.step)⟩
end Go.Proofs.YtejnfbfikadpdaaGreatDoor.P
