-- Written for this claim by the session's own run of the print, functions proved by hand put in.
import Derived.Test.YtmkjifljciajbaaDoorPx0
import Derived.Test.YtmkjifljciajbaaDoorPx1
import Derived.Test.YtmkjifljciajbaaDoorPx5
namespace Go.Proofs.YtmkjifljciajbaaDoor.P
open Go.RowKit Go.Proofs.YtmkjifljciajbaaDoorW.PrintWords Go.Proofs.YtmkjifljciajbaaDoorW.PrintLast Go.Proofs.YtmkjifljciajbaaDoorW.PrintMore
attribute [local go_sem] max2_int min2_int max_two min_two max_three min_three max_four min_four   -- for this text's walks alone
set_option linter.unusedVariables false
set_option linter.unusedSimpArgs false

/-! ### isoglosslaw04_SplitChecks: function 8 -/
def isoglosslaw04_SplitChecks.l0 : Nat → ByteArray → ByteArray → Bool → List ByteArray → Bool → Int → Option (Bool)
 | 0, _, _, _, _, _, _ => none
 | k + 1, x0, x1, x5, x6, x7, x8 => if x8 < (x6.length : Int) then (if x7 = true then (if 0 ≤ x8 then ((split_Check.f k (rdOf ByteArray.empty x6 x8)).bind fun t217 => (if t217 = 0 then (isoglosslaw04_SplitChecks.l0 k x0 x1 x5 x6 (decide (((rdOf ByteArray.empty x6 x8).size : Int) ≤ 8)) (wrap64 (x8 + 1))) else (isoglosslaw04_SplitChecks.l0 k x0 x1 x5 x6 false (wrap64 (x8 + 1))))) else (none)) else (isoglosslaw04_SplitChecks.l0 k x0 x1 x5 x6 false (wrap64 (x8 + 1)))) else ((split_Check.f k x0).bind fun t219 => ((split_Check.f k x1).bind fun t220 => (if x5 = true then (if ((t219 == 0) == x7) = true then ((split_Join.f (([x0, x1] : List ByteArray))).bind fun t224 => ((split_Check.f k t224).bind fun t225 => (if t219 = 0 then (some ((t225 == 0) == (t220 == 0))) else (some ((t225 == 0) == false))))) else (some false)) else (some false))))
def isoglosslaw04_SplitChecks.f (k : Nat) (a0 : ByteArray) (a1 : ByteArray) : Option (Bool) := (isoglosslaw04_awake.f k).bind fun t210 => ((isoglosslaw04_short.f a0).bind fun t211 => ((isoglosslaw04_short.f a1).bind fun t212 => ((split_Split.f t211).bind fun t213 => (isoglosslaw04_SplitChecks.l0 k t211 t212 t210 t213 true 0))))
theorem isoglosslaw04_SplitChecks.mono_l : ∀ k, (∀ y0 y1 y2 y3 y4 y5, LeO (isoglosslaw04_SplitChecks.l0 k y0 y1 y2 y3 y4 y5) (isoglosslaw04_SplitChecks.l0 (k + 1) y0 y1 y2 y3 y4 y5))
 | 0 => fun _ _ _ _ _ _ r h => by simp [isoglosslaw04_SplitChecks.l0] at h
 | k + 1 => by
  have ih0 := isoglosslaw04_SplitChecks.mono_l k
  ·intro y0 y1 y2 y3 y4 y5
   unfold isoglosslaw04_SplitChecks.l0
   repeat' first
   | (with_reducible exact ih0 _ _ _ _ _ _)
   | (with_reducible exact isoglosslaw04_awake.mono _)
   | (with_reducible exact split_Check.mono _ _)
   | (with_reducible exact LeO.refl _)
   | (with_reducible exact LeO.none _)
   | (with_reducible refine LeO.ite ?_ ?_)
   | (with_reducible refine LeO.bind ?_ (fun _ => ?_))
   | exact ih0 _ _ _ _ _ _
   | exact isoglosslaw04_awake.mono _
   | exact split_Check.mono _ _
   | exact LeO.none _
   | refine LeO.ite ?_ ?_
   | refine LeO.bind ?_ (fun _ => ?_)
theorem isoglosslaw04_SplitChecks.mono : ∀ a0 a1 k, LeO (isoglosslaw04_SplitChecks.f k a0 a1) (isoglosslaw04_SplitChecks.f (k + 1) a0 a1) := by
 intro a0 a1 k
 have ih0 := isoglosslaw04_SplitChecks.mono_l k
 unfold isoglosslaw04_SplitChecks.f
 repeat' first
   | (with_reducible exact ih0 _ _ _ _ _ _)
   | (with_reducible exact isoglosslaw04_awake.mono _)
   | (with_reducible exact split_Check.mono _ _)
   | (with_reducible exact LeO.refl _)
   | (with_reducible exact LeO.none _)
   | (with_reducible refine LeO.ite ?_ ?_)
   | (with_reducible refine LeO.bind ?_ (fun _ => ?_))
   | exact ih0 _ _ _ _ _ _
   | exact isoglosslaw04_awake.mono _
   | exact split_Check.mono _ _
   | exact LeO.none _
   | refine LeO.ite ?_ ?_
   | refine LeO.bind ?_ (fun _ => ?_)
set_option maxHeartbeats 8000000 in
set_option maxRecDepth 100000 in
theorem isoglosslaw04_SplitChecks.calls (k : Nat) (a0 : ByteArray) (a1 : ByteArray) (r : Bool) (w : World) (hg : w.cell? ⟨0, 0, none⟩ = some errGV) (h : isoglosslaw04_SplitChecks.f k a0 a1 = some r) (hrt : r = true) :
  Calls Tryd.prog 8 #[.string a0, .string a1] w fun e w' => e = .returned (.bool r) ∧ Below w.heap.size w w' := by
 have HRT := Aside0.mk hrt
 clear hrt
 have HB := Aside0.mk (Below.refl w.heap.size w)
 have H : ((isoglosslaw04_awake.f k).bind fun t210 => ((isoglosslaw04_short.f a0).bind fun t211 => ((isoglosslaw04_short.f a1).bind fun t212 => ((split_Split.f t211).bind fun t213 => (isoglosslaw04_SplitChecks.l0 k t211 t212 t210 t213 true 0))))) = some r := h
 clear h
 replace H := Option.bind_eq_some_iff.mp H
 obtain ⟨t210, A30, H⟩ := H
 replace H : ((isoglosslaw04_short.f a0).bind fun t211 => ((isoglosslaw04_short.f a1).bind fun t212 => ((split_Split.f t211).bind fun t213 => (isoglosslaw04_SplitChecks.l0 k t211 t212 t210 t213 true 0)))) = some r := H
 have A3 := Aside0.mk A30
 clear A30
 replace H := Option.bind_eq_some_iff.mp H
 obtain ⟨t211, A40, H⟩ := H
 replace H : ((isoglosslaw04_short.f a1).bind fun t212 => ((split_Split.f t211).bind fun t213 => (isoglosslaw04_SplitChecks.l0 k t211 t212 t210 t213 true 0))) = some r := H
 have A4 := Aside0.mk A40
 clear A40
 replace H := Option.bind_eq_some_iff.mp H
 obtain ⟨t212, A50, H⟩ := H
 replace H : ((split_Split.f t211).bind fun t213 => (isoglosslaw04_SplitChecks.l0 k t211 t212 t210 t213 true 0)) = some r := H
 have A5 := Aside0.mk A50
 clear A50
 replace H := Option.bind_eq_some_iff.mp H
 obtain ⟨t213, A60, H⟩ := H
 replace H : (isoglosslaw04_SplitChecks.l0 k t211 t212 t210 t213 true 0) = some r := H
 have A6 := Aside0.mk A60
 clear A60
 have H' := Aside0.mk H
 clear H
 go_enter Tryd.func8, Tryd.ntmps8
 go_wp2_with (first | ((with_reducible refine gate_callee (f := 9) rfl ?_); refine goesL_ (some 11) rfl rfl Tryd.func9 (by kernel_rfl) rfl #[] rfl (by (try simp only [List.map_toArray, List.map_cons, List.map_nil]); first | done | rfl | (simp only [List.length_drop, List.length_take]; rfl)) ?_; (with_reducible refine (isoglosslaw04_awake.calls k t210 _ (by first | exact hg | exact pw_cell_below (by repeat (first | (with_reducible first | exact HB.out | apply below_alloc | apply pw_below_drewN | apply below_drew1) | exact HB.out)) hg) A3.out).mono ?_); rintro e w7 ⟨rfl, hb⟩; refine ⟨_, rfl, ?_⟩; have n0_ := Aside0.mk (below_step (by repeat (first | (with_reducible first | exact HB.out | apply below_alloc | apply pw_below_drewN | apply below_drew1) | exact HB.out)) hb); clear HB; have HB := n0_; clear n0_; (try clear hb); (try clear hb2); (try clear hk); (try clear hi)) | ((with_reducible refine gate_callee (f := 10) rfl ?_); refine goesL_ (some 13) rfl rfl Tryd.func10 (by kernel_rfl) rfl #[.string a0] rfl (by (try simp only [List.map_toArray, List.map_cons, List.map_nil]); first | done | rfl | (simp only [List.length_drop, List.length_take]; rfl)) ?_; (with_reducible refine (isoglosslaw04_short.calls a0 t211 _ A4.out).mono ?_); rintro e w' ⟨rfl, ⟨nd, rfl⟩⟩; refine ⟨_, rfl, ?_⟩) | ((with_reducible refine gate_callee (f := 10) rfl ?_); refine goesL_ (some 15) rfl rfl Tryd.func10 (by kernel_rfl) rfl #[.string a1] rfl (by (try simp only [List.map_toArray, List.map_cons, List.map_nil]); first | done | rfl | (simp only [List.length_drop, List.length_take]; rfl)) ?_; (with_reducible refine (isoglosslaw04_short.calls a1 t212 _ A5.out).mono ?_); rintro e w' ⟨rfl, ⟨nd, rfl⟩⟩; refine ⟨_, rfl, ?_⟩) | ((with_reducible refine gate_callee (f := 11) rfl ?_); refine goesL_ (some 17) rfl rfl Tryd.func11 (by kernel_rfl) rfl #[.string t211] rfl (by (try simp only [List.map_toArray, List.map_cons, List.map_nil]); first | done | rfl | (simp only [List.length_drop, List.length_take]; rfl)) ?_; (with_reducible refine (split_Split.calls t211 t213 _ A6.out).mono ?_); rintro e w8 ⟨v214, rfl, ho0, hb⟩; refine ⟨_, rfl, ?_⟩; have n0_ := Aside0.mk (Kd.R_lower ho0 (below_size (by repeat (first | (with_reducible first | exact HB.out | apply below_alloc | apply pw_below_drewN | apply below_drew1) | exact HB.out)))); have n1_ := Aside0.mk (below_step (by repeat (first | (with_reducible first | exact HB.out | apply below_alloc | apply pw_below_drewN | apply below_drew1) | exact HB.out)) hb); clear HB; have HO215 := n0_; have HB := n1_; clear n0_ n1_; (try clear hb); (try clear hb2); (try clear hk); (try clear hi); (try clear ho0)))
 go_loopg [7, 8] k (fun kq v7 v8 w' => ∃ (x7_1 : Bool) (x8_1 : Int), v7 = .bool x7_1 ∧ v8 = .int .i64 x8_1 ∧ Aside0 (isoglosslaw04_SplitChecks.l0 kq t211 t212 t210 t213 x7_1 x8_1 = some r) ∧ Aside0 (kq ≤ k) ∧ Aside0 (Kd.R Kd.string 9 w' w.heap.size (fun _ => True) v214 t213) ∧ Aside0 (Below w.heap.size w w'))
 case atStart => exact ⟨(true), (0), (by first | rfl | (simp; done) | (simp [*]; done)), (by first | rfl | (simp; done) | (simp [*]; done)), H', ⟨Nat.le_refl _⟩, ⟨by (with_reducible repeat (first | apply Kd.R_alloc | apply Kd.R_drewN | apply Kd.R_drew)); exact HO215.out⟩, ⟨by repeat (first | (with_reducible first | exact HB.out | apply below_alloc | apply pw_below_drewN | apply below_drew1) | exact HB.out)⟩⟩
 case round =>
  clear H'
  try clear c1
  try clear p2
  try clear c8
  obtain ⟨x7_1, x8_1, rfl, rfl, HA, HK1, HO_6, HB⟩ := hrel
  cases gk with
  | zero => exact absurd HA.out (by simp [isoglosslaw04_SplitChecks.l0])
  | succ k1 =>
   have H := HA.out
   clear HA
   simp only [isoglosslaw04_SplitChecks.l0] at H
   by_cases c9 : x8_1 < (t213.length : Int)
   ·rw [if_pos c9] at H
    have c9b0 : decide (x8_1 < (t213.length : Int)) = true := decide_eq_true c9
    clear c9
    by_cases c10 : x7_1 = true
    ·subst c10
     have H1 : (if 0 ≤ x8_1 then ((split_Check.f k1 (rdOf ByteArray.empty t213 x8_1)).bind fun t217 => (if t217 = 0 then (isoglosslaw04_SplitChecks.l0 k1 t211 t212 t210 t213 (decide (((rdOf ByteArray.empty t213 x8_1).size : Int) ≤ 8)) (wrap64 (x8_1 + 1))) else (isoglosslaw04_SplitChecks.l0 k1 t211 t212 t210 t213 false (wrap64 (x8_1 + 1))))) else (none)) = some r := by rw [if_pos rfl] at H; exact H
     clear H
     have H := H1
     clear H1
     by_cases c11 : 0 ≤ x8_1
     ·rw [if_pos c11] at H
      have c11b0 : decide (0 ≤ x8_1) = true := decide_eq_true c11
      clear c11
      replace H := Option.bind_eq_some_iff.mp H
      obtain ⟨t217, A120, H⟩ := H
      replace H : (if t217 = 0 then (isoglosslaw04_SplitChecks.l0 k1 t211 t212 t210 t213 (decide (((rdOf ByteArray.empty t213 x8_1).size : Int) ≤ 8)) (wrap64 (x8_1 + 1))) else (isoglosslaw04_SplitChecks.l0 k1 t211 t212 t210 t213 false (wrap64 (x8_1 + 1)))) = some r := H
      have A12 := Aside0.mk A120
      clear A120
      by_cases c13 : t217 = 0
      ·rw [if_pos c13] at H
       have c13b0 : (t217 == 0) = true := beq_iff_eq.mpr c13
       have c13b1 : (t217 != 0) = false := bne_eq_false_iff_eq.mpr c13
       clear c13
       have H' := Aside0.mk H
       clear H
       obtain ⟨Ao14, co14, eo14⟩ := Kd.R_slice HO_6.out
       subst eo14
       have p216 : 0 ≤ (x8_1 : Int) := of_decide_eq_true (by first | (with_reducible assumption) | assumption)
       have q216 : x8_1 < (t213.length : Int) := of_decide_eq_true (by first | (with_reducible assumption) | assumption)
       obtain ⟨ad216, e216, hx216_0⟩ := Kd.at_string (Kd.R_reads' HO_6.out).2.2 x8_1 p216 q216
       cases e216
       replace p216 := eq_true p216
       replace q216 := eq_true q216
       go_wp2_with (first | (go_at_call 18; (with_reducible refine (split_Check.callsE k1 (rdOf ByteArray.empty t213 x8_1) t217 _ A12.out).mono ?_); rintro e w15 ⟨v_, rfl, hE_, hb⟩; (try (have HIF_ := Aside0.mk hE_.iface)); have n0_ := Aside0.mk (Kd.R_below (by (with_reducible repeat (first | apply Kd.R_alloc | apply Kd.R_drewN | apply Kd.R_drew)); exact HO_6.out) hb); have n1_ := Aside0.mk (below_step (by repeat (first | (with_reducible first | exact HB.out | apply below_alloc | apply pw_below_drewN | apply below_drew1) | exact HB.out)) hb); clear HO_6; clear HB; have HO_6 := n0_; have HB := n1_; clear n0_ n1_; (try clear hb); (try clear hb2); (try clear hk); (try clear hi); have HE_ := Aside0.mk hE_; clear hE_) | (go_at_call 21; (with_reducible refine (Kind_check _ t217 _ (by first | exact hg | exact pw_cell_below (by repeat (first | (with_reducible first | exact HB.out | apply below_alloc | apply pw_below_drewN | apply below_drew1) | exact HB.out)) hg) HE_.out).mono ?_); rintro e w15k ⟨rfl, hb⟩; have n0_ := Aside0.mk (Kd.R_below (by (with_reducible repeat (first | apply Kd.R_alloc | apply Kd.R_drewN | apply Kd.R_drew)); exact HO_6.out) hb); have n1_ := Aside0.mk (below_step (by repeat (first | (with_reducible first | exact HB.out | apply below_alloc | apply pw_below_drewN | apply below_drew1) | exact HB.out)) hb); clear HO_6; clear HB; have HO_6 := n0_; have HB := n1_; clear n0_ n1_; (try clear hb); (try clear hb2); (try clear hk); (try clear hi); have p218 : 0 ≤ (x8_1 : Int) := of_decide_eq_true (by first | (with_reducible assumption) | assumption); have q218 : x8_1 < (t213.length : Int) := of_decide_eq_true (by first | (with_reducible assumption) | assumption); obtain ⟨ad218, e218, hx218_0⟩ := Kd.at_string (Kd.R_reads' HO_6.out).2.2 x8_1 p218 q218; obtain rfl : ad216 = ad218 := (by injection e218); replace p218 := eq_true p218; replace q218 := eq_true q218; clear HE_; (try clear HIF_)))
       go_roundg k1
       case measure => have := HK1.out; omega
       case rel => exact ⟨(decide (((rdOf ByteArray.empty t213 x8_1).size : Int) ≤ 8)), (wrap64 (x8_1 + 1)), (by first | rfl | (simp; done) | (simp [*]; done)), (by first | rfl | (simp; done) | (simp [*]; done)), H', ⟨by have := HK1.out; omega⟩, ⟨by (with_reducible repeat (first | apply Kd.R_alloc | apply Kd.R_drewN | apply Kd.R_drew)); exact HO_6.out⟩, ⟨by repeat (first | (with_reducible first | exact HB.out | apply below_alloc | apply pw_below_drewN | apply below_drew1) | exact HB.out)⟩⟩
      ·rw [if_neg c13] at H
       have c13b0 : (t217 == 0) = false := beq_eq_false_iff_ne.mpr c13
       have c13b1 : (t217 != 0) = true := bne_iff_ne.mpr c13
       have H' := Aside0.mk H
       clear H
       obtain ⟨Ao16, co16, eo16⟩ := Kd.R_slice HO_6.out
       subst eo16
       have p216 : 0 ≤ (x8_1 : Int) := of_decide_eq_true (by first | (with_reducible assumption) | assumption)
       have q216 : x8_1 < (t213.length : Int) := of_decide_eq_true (by first | (with_reducible assumption) | assumption)
       obtain ⟨ad216, e216, hx216_0⟩ := Kd.at_string (Kd.R_reads' HO_6.out).2.2 x8_1 p216 q216
       cases e216
       replace p216 := eq_true p216
       replace q216 := eq_true q216
       go_wp2_with (first | (go_at_call 18; (with_reducible refine (split_Check.callsE k1 (rdOf ByteArray.empty t213 x8_1) t217 _ A12.out).mono ?_); rintro e w17 ⟨v_, rfl, hE_, hb⟩; (try (have HIF_ := Aside0.mk hE_.iface)); have n0_ := Aside0.mk (Kd.R_below (by (with_reducible repeat (first | apply Kd.R_alloc | apply Kd.R_drewN | apply Kd.R_drew)); exact HO_6.out) hb); have n1_ := Aside0.mk (below_step (by repeat (first | (with_reducible first | exact HB.out | apply below_alloc | apply pw_below_drewN | apply below_drew1) | exact HB.out)) hb); clear HO_6; clear HB; have HO_6 := n0_; have HB := n1_; clear n0_ n1_; (try clear hb); (try clear hb2); (try clear hk); (try clear hi); have HE_ := Aside0.mk hE_; clear hE_) | (go_at_call 21; (with_reducible refine (Kind_check _ t217 _ (by first | exact hg | exact pw_cell_below (by repeat (first | (with_reducible first | exact HB.out | apply below_alloc | apply pw_below_drewN | apply below_drew1) | exact HB.out)) hg) HE_.out).mono ?_); rintro e w17k ⟨rfl, hb⟩; have n0_ := Aside0.mk (Kd.R_below (by (with_reducible repeat (first | apply Kd.R_alloc | apply Kd.R_drewN | apply Kd.R_drew)); exact HO_6.out) hb); have n1_ := Aside0.mk (below_step (by repeat (first | (with_reducible first | exact HB.out | apply below_alloc | apply pw_below_drewN | apply below_drew1) | exact HB.out)) hb); clear HO_6; clear HB; have HO_6 := n0_; have HB := n1_; clear n0_ n1_; (try clear hb); (try clear hb2); (try clear hk); (try clear hi); clear HE_; (try clear HIF_)))
       go_roundg k1
       case measure => have := HK1.out; omega
       case rel => exact ⟨(false), (wrap64 (x8_1 + 1)), (by first | rfl | (simp; done) | (simp [*]; done)), (by first | rfl | (simp; done) | (simp [*]; done)), H', ⟨by have := HK1.out; omega⟩, ⟨by (with_reducible repeat (first | apply Kd.R_alloc | apply Kd.R_drewN | apply Kd.R_drew)); exact HO_6.out⟩, ⟨by repeat (first | (with_reducible first | exact HB.out | apply below_alloc | apply pw_below_drewN | apply below_drew1) | exact HB.out)⟩⟩
     ·rw [if_neg c11] at H
      exact absurd H (by simp)
    ·replace c10 := Bool.eq_false_iff.mpr c10
     subst c10
     have H1 : (isoglosslaw04_SplitChecks.l0 k1 t211 t212 t210 t213 false (wrap64 (x8_1 + 1))) = some r := by rw [if_neg (show ¬ (false = true) by decide)] at H; exact H
     clear H
     have H := H1
     clear H1
     have H' := Aside0.mk H
     clear H
     obtain ⟨Ao18, co18, eo18⟩ := Kd.R_slice HO_6.out
     subst eo18
     go_wp2
     go_roundg k1
     case measure => have := HK1.out; omega
     case rel => exact ⟨(false), (wrap64 (x8_1 + 1)), (by first | rfl | (simp; done) | (simp [*]; done)), (by first | rfl | (simp; done) | (simp [*]; done)), H', ⟨by have := HK1.out; omega⟩, ⟨by (with_reducible repeat (first | apply Kd.R_alloc | apply Kd.R_drewN | apply Kd.R_drew)); exact HO_6.out⟩, ⟨by repeat (first | (with_reducible first | exact HB.out | apply below_alloc | apply pw_below_drewN | apply below_drew1) | exact HB.out)⟩⟩
   ·rw [if_neg c9] at H
    have c9b0 : decide (x8_1 < (t213.length : Int)) = false := decide_eq_false c9
    clear c9
    replace H := Option.bind_eq_some_iff.mp H
    obtain ⟨t219, A190, H⟩ := H
    replace H : ((split_Check.f k1 t212).bind fun t220 => (if t210 = true then (if ((t219 == 0) == x7_1) = true then ((split_Join.f (([t211, t212] : List ByteArray))).bind fun t224 => ((split_Check.f k1 t224).bind fun t225 => (if t219 = 0 then (some ((t225 == 0) == (t220 == 0))) else (some ((t225 == 0) == false))))) else (some false)) else (some false))) = some r := H
    have A19 := Aside0.mk A190
    clear A190
    replace H := Option.bind_eq_some_iff.mp H
    obtain ⟨t220, A200, H⟩ := H
    replace H : (if t210 = true then (if ((t219 == 0) == x7_1) = true then ((split_Join.f (([t211, t212] : List ByteArray))).bind fun t224 => ((split_Check.f k1 t224).bind fun t225 => (if t219 = 0 then (some ((t225 == 0) == (t220 == 0))) else (some ((t225 == 0) == false))))) else (some false)) else (some false)) = some r := H
    have A20 := Aside0.mk A200
    clear A200
    by_cases c21 : t210 = true
    ·subst c21
     have H1 : (if ((t219 == 0) == x7_1) = true then ((split_Join.f (([t211, t212] : List ByteArray))).bind fun t224 => ((split_Check.f k1 t224).bind fun t225 => (if t219 = 0 then (some ((t225 == 0) == (t220 == 0))) else (some ((t225 == 0) == false))))) else (some false)) = some r := by rw [if_pos rfl] at H; exact H
     clear H
     have H := H1
     clear H1
     by_cases c22 : ((t219 == 0) == x7_1) = true
     ·rw [if_pos c22] at H
      have c22b0 : ((t219 == 0) == x7_1) = true := c22
      (try (have c22b1 : decide ((t219 == 0) = x7_1) = true := by simpa using c22))
      (try (have c22b2 : ((t219 == 0) == x7_1) = true := by simpa using c22))
      clear c22
      obtain ⟨y221, hy221⟩ : ∃ y_ : List ByteArray, y_ = (([t211, t212] : List ByteArray)) := ⟨_, rfl⟩
      replace H : ((split_Join.f y221).bind fun t224 => ((split_Check.f k1 t224).bind fun t225 => (if t219 = 0 then (some ((t225 == 0) == (t220 == 0))) else (some ((t225 == 0) == false))))) = some r := by first | (rw [hy221]; with_reducible exact H) | (have H2_ := (Option.bind_some _ _).symm.trans H; rw [hy221]; with_reducible exact H2_) | (have H2_ := (Option.bind_some _ _).symm.trans H; with_reducible exact H2_) | with_reducible exact H | (rw [hy221]; exact H) | exact H
      have Ny221 := Aside0.mk hy221
      clear hy221
      replace H := Option.bind_eq_some_iff.mp H
      obtain ⟨t224, A230, H⟩ := H
      replace H : ((split_Check.f k1 t224).bind fun t225 => (if t219 = 0 then (some ((t225 == 0) == (t220 == 0))) else (some ((t225 == 0) == false)))) = some r := H
      have A23 := Aside0.mk A230
      clear A230
      replace H := Option.bind_eq_some_iff.mp H
      obtain ⟨t225, A240, H⟩ := H
      replace H : (if t219 = 0 then (some ((t225 == 0) == (t220 == 0))) else (some ((t225 == 0) == false))) = some r := H
      have A24 := Aside0.mk A240
      clear A240
      by_cases c25 : t219 = 0
      ·rw [if_pos c25] at H
       have c25b0 : (t219 == 0) = true := beq_iff_eq.mpr c25
       have c25b1 : (t219 != 0) = false := bne_eq_false_iff_eq.mpr c25
       obtain rfl : x7_1 = true := by revert c22b0; rw [c25b0]; cases x7_1 <;> decide
       (try clear c22b0); (try clear c22b1); (try clear c22b2)
       clear c25
       obtain rfl := Option.some.inj H
       obtain ⟨Ao26, co26, eo26⟩ := Kd.R_slice HO_6.out
       subst eo26
       go_wp2_with (first | (go_at_call 18; (with_reducible refine (split_Check.callsE k1 t211 t219 _ A19.out).mono ?_); rintro e w27 ⟨v_, rfl, hE_, hb⟩; (try (have HIF_ := Aside0.mk hE_.iface)); have n0_ := Aside0.mk (Kd.R_below (by (with_reducible repeat (first | apply Kd.R_alloc | apply Kd.R_drewN | apply Kd.R_drew)); exact HO_6.out) hb); have n1_ := Aside0.mk (below_step (by repeat (first | (with_reducible first | exact HB.out | apply below_alloc | apply pw_below_drewN | apply below_drew1) | exact HB.out)) hb); clear HO_6; clear HB; have HO_6 := n0_; have HB := n1_; clear n0_ n1_; (try clear hb); (try clear hb2); (try clear hk); (try clear hi); have HE_ := Aside0.mk hE_; clear hE_) | (go_at_call 21; (with_reducible refine (Kind_check _ t219 _ (by first | exact hg | exact pw_cell_below (by repeat (first | (with_reducible first | exact HB.out | apply below_alloc | apply pw_below_drewN | apply below_drew1) | exact HB.out)) hg) HE_.out).mono ?_); rintro e w27k ⟨rfl, hb⟩; have n0_ := Aside0.mk (Kd.R_below (by (with_reducible repeat (first | apply Kd.R_alloc | apply Kd.R_drewN | apply Kd.R_drew)); exact HO_6.out) hb); have n1_ := Aside0.mk (below_step (by repeat (first | (with_reducible first | exact HB.out | apply below_alloc | apply pw_below_drewN | apply below_drew1) | exact HB.out)) hb); clear HO_6; clear HB; have HO_6 := n0_; have HB := n1_; clear n0_ n1_; (try clear hb); (try clear hb2); (try clear hk); (try clear hi); clear HE_; (try clear HIF_)) | (go_at_call 18; (with_reducible refine (split_Check.callsE k1 t212 t220 _ A20.out).mono ?_); rintro e w28 ⟨v_, rfl, hE_, hb⟩; (try (have HIF_ := Aside0.mk hE_.iface)); have n0_ := Aside0.mk (Kd.R_below (by (with_reducible repeat (first | apply Kd.R_alloc | apply Kd.R_drewN | apply Kd.R_drew)); exact HO_6.out) hb); have n1_ := Aside0.mk (below_step (by repeat (first | (with_reducible first | exact HB.out | apply below_alloc | apply pw_below_drewN | apply below_drew1) | exact HB.out)) hb); clear HO_6; clear HB; have HO_6 := n0_; have HB := n1_; clear n0_ n1_; (try clear hb); (try clear hb2); (try clear hk); (try clear hi); have HE_ := Aside0.mk hE_; clear hE_) | (go_at_call 21; (with_reducible refine (Kind_check _ t220 _ (by first | exact hg | exact pw_cell_below (by repeat (first | (with_reducible first | exact HB.out | apply below_alloc | apply pw_below_drewN | apply below_drew1) | exact HB.out)) hg) HE_.out).mono ?_); rintro e w28k ⟨rfl, hb⟩; have n0_ := Aside0.mk (Kd.R_below (by (with_reducible repeat (first | apply Kd.R_alloc | apply Kd.R_drewN | apply Kd.R_drew)); exact HO_6.out) hb); have n1_ := Aside0.mk (below_step (by repeat (first | (with_reducible first | exact HB.out | apply below_alloc | apply pw_below_drewN | apply below_drew1) | exact HB.out)) hb); clear HO_6; clear HB; have HO_6 := n0_; have HB := n1_; clear n0_ n1_; (try clear hb); (try clear hb2); (try clear hk); (try clear hi); clear HE_; (try clear HIF_)) | ((with_reducible refine gate_dst (N := 59) rfl ?_); (try (refine gate_guard (by rfl) ?_; dsimp only)); refine Kd.R_lit Kd.string _ 9 ?hg (N := 59) ?hd (xs := ([t211, t212] : List ByteArray)) (inner := [.string t211, .string t212]) (ok := fun _ => True) (okp := fun _ => True) ?hr ?hp (fun _ hk => hk) trivial (Below.refl _ _) (Nat.le_refl _) (by simp) ?_; (case hd => rfl); (case hg => rfl); (case hr => first | (go_simp; done) | (go_simp; rfl)); (case hp => exact (Reps.one (show Kd.M Kd.string _ _ _ t211 [.string t211] from rfl) (Reps.one (show Kd.M Kd.string _ _ _ t212 [.string t212] from rfl) (Reps.none _ _)))); intro v222 w29 ho30 hb hg_ hnew_; clear hg_ hnew_; (first | rw [← Ny221.out] at ho30 | (simp only [Int.reduceToNat] at ho30; rw [← Ny221.out] at ho30)); have n0_ := Aside0.mk (Kd.R_elder' (by (with_reducible repeat (first | apply Kd.R_alloc | apply Kd.R_drewN | apply Kd.R_drew)); exact HO_6.out) (Kd.R_base ho30) hb); have n1_ := Aside0.mk (Kd.R_lower (Kd.R_new' ho30 (Kd.R_lt (by (with_reducible repeat (first | apply Kd.R_alloc | apply Kd.R_drewN | apply Kd.R_drew)); exact HO_6.out))) (below_size (by repeat (first | (with_reducible first | exact HB.out | apply below_alloc | apply pw_below_drewN | apply below_drew1) | exact HB.out)))); have n2_ := Aside0.mk (below_step (by repeat (first | (with_reducible first | exact HB.out | apply below_alloc | apply pw_below_drewN | apply below_drew1) | exact HB.out)) hb); clear HO_6; clear HB; have HO_6 := n0_; have HO223 := n1_; have HB := n2_; clear n0_ n1_ n2_; clear hb ho30; obtain ⟨Ao31, co31, eo31⟩ := Kd.R_slice HO223.out; subst eo31) | (go_at_call 24; (with_reducible refine (split_Join.calls _ _ y221 t224 _ ?side1 ?side2 A23.out).mono ?_); (case side1 => repeat (first | exact (Kd.R_reads' HO223.out).2.2 | (with_reducible refine Kd.C_alloc ?_ _) | (with_reducible refine Kd.C_drewN ?_ _) | (with_reducible refine Kd.C_drew ?_))); (case side2 => exact (Kd.R_reads' HO223.out).2.1); rintro e w32 ⟨rfl, hb⟩; have n0_ := Aside0.mk (Kd.R_below (by (with_reducible repeat (first | apply Kd.R_alloc | apply Kd.R_drewN | apply Kd.R_drew)); exact HO_6.out) hb); have n1_ := Aside0.mk (Kd.R_below (by (with_reducible repeat (first | apply Kd.R_alloc | apply Kd.R_drewN | apply Kd.R_drew)); exact HO223.out) hb); have n2_ := Aside0.mk (below_step (by repeat (first | (with_reducible first | exact HB.out | apply below_alloc | apply pw_below_drewN | apply below_drew1) | exact HB.out)) hb); clear HO_6; clear HO223; clear HB; have HO_6 := n0_; have HO223 := n1_; have HB := n2_; clear n0_ n1_ n2_; (try clear hb); (try clear hb2); (try clear hk); (try clear hi)) | (go_at_call 18; (with_reducible refine (split_Check.callsE k1 t224 t225 _ A24.out).mono ?_); rintro e w33 ⟨v_, rfl, hE_, hb⟩; (try (have HIF_ := Aside0.mk hE_.iface)); have n0_ := Aside0.mk (Kd.R_below (by (with_reducible repeat (first | apply Kd.R_alloc | apply Kd.R_drewN | apply Kd.R_drew)); exact HO_6.out) hb); have n1_ := Aside0.mk (Kd.R_below (by (with_reducible repeat (first | apply Kd.R_alloc | apply Kd.R_drewN | apply Kd.R_drew)); exact HO223.out) hb); have n2_ := Aside0.mk (below_step (by repeat (first | (with_reducible first | exact HB.out | apply below_alloc | apply pw_below_drewN | apply below_drew1) | exact HB.out)) hb); clear HO_6; clear HO223; clear HB; have HO_6 := n0_; have HO223 := n1_; have HB := n2_; clear n0_ n1_ n2_; (try clear hb); (try clear hb2); (try clear hk); (try clear hi); have HE_ := Aside0.mk hE_; clear hE_) | (go_at_call 21; (with_reducible refine (Kind_check _ t225 _ (by first | exact hg | exact pw_cell_below (by repeat (first | (with_reducible first | exact HB.out | apply below_alloc | apply pw_below_drewN | apply below_drew1) | exact HB.out)) hg) HE_.out).mono ?_); rintro e w33k ⟨rfl, hb⟩; have n0_ := Aside0.mk (Kd.R_below (by (with_reducible repeat (first | apply Kd.R_alloc | apply Kd.R_drewN | apply Kd.R_drew)); exact HO_6.out) hb); have n1_ := Aside0.mk (Kd.R_below (by (with_reducible repeat (first | apply Kd.R_alloc | apply Kd.R_drewN | apply Kd.R_drew)); exact HO223.out) hb); have n2_ := Aside0.mk (below_step (by repeat (first | (with_reducible first | exact HB.out | apply below_alloc | apply pw_below_drewN | apply below_drew1) | exact HB.out)) hb); clear HO_6; clear HO223; clear HB; have HO_6 := n0_; have HO223 := n1_; have HB := n2_; clear n0_ n1_ n2_; (try clear hb); (try clear hb2); (try clear hk); (try clear hi); clear HE_; (try clear HIF_)))
       go_ret
       exact ⟨by first | rfl | (simp [errW_none, errW_some] <;> rfl) | (simp [*, errW_none, errW_some] <;> rfl), by repeat (first | (with_reducible first | exact HB.out | apply below_alloc | apply pw_below_drewN | apply below_drew1) | exact HB.out)⟩
      ·rw [if_neg c25] at H
       have c25b0 : (t219 == 0) = false := beq_eq_false_iff_ne.mpr c25
       have c25b1 : (t219 != 0) = true := bne_iff_ne.mpr c25
       obtain rfl : x7_1 = false := by revert c22b0; rw [c25b0]; cases x7_1 <;> decide
       (try clear c22b0); (try clear c22b1); (try clear c22b2)
       obtain rfl := Option.some.inj H
       obtain ⟨Ao34, co34, eo34⟩ := Kd.R_slice HO_6.out
       subst eo34
       go_wp2_with (first | (go_at_call 18; (with_reducible refine (split_Check.callsE k1 t211 t219 _ A19.out).mono ?_); rintro e w35 ⟨v_, rfl, hE_, hb⟩; (try (have HIF_ := Aside0.mk hE_.iface)); have n0_ := Aside0.mk (Kd.R_below (by (with_reducible repeat (first | apply Kd.R_alloc | apply Kd.R_drewN | apply Kd.R_drew)); exact HO_6.out) hb); have n1_ := Aside0.mk (below_step (by repeat (first | (with_reducible first | exact HB.out | apply below_alloc | apply pw_below_drewN | apply below_drew1) | exact HB.out)) hb); clear HO_6; clear HB; have HO_6 := n0_; have HB := n1_; clear n0_ n1_; (try clear hb); (try clear hb2); (try clear hk); (try clear hi); have HE_ := Aside0.mk hE_; clear hE_) | (go_at_call 21; (with_reducible refine (Kind_check _ t219 _ (by first | exact hg | exact pw_cell_below (by repeat (first | (with_reducible first | exact HB.out | apply below_alloc | apply pw_below_drewN | apply below_drew1) | exact HB.out)) hg) HE_.out).mono ?_); rintro e w35k ⟨rfl, hb⟩; have n0_ := Aside0.mk (Kd.R_below (by (with_reducible repeat (first | apply Kd.R_alloc | apply Kd.R_drewN | apply Kd.R_drew)); exact HO_6.out) hb); have n1_ := Aside0.mk (below_step (by repeat (first | (with_reducible first | exact HB.out | apply below_alloc | apply pw_below_drewN | apply below_drew1) | exact HB.out)) hb); clear HO_6; clear HB; have HO_6 := n0_; have HB := n1_; clear n0_ n1_; (try clear hb); (try clear hb2); (try clear hk); (try clear hi); clear HE_; (try clear HIF_)) | (go_at_call 18; (with_reducible refine (split_Check.callsE k1 t212 t220 _ A20.out).mono ?_); rintro e w36 ⟨v_, rfl, hE_, hb⟩; (try (have HIF_ := Aside0.mk hE_.iface)); have n0_ := Aside0.mk (Kd.R_below (by (with_reducible repeat (first | apply Kd.R_alloc | apply Kd.R_drewN | apply Kd.R_drew)); exact HO_6.out) hb); have n1_ := Aside0.mk (below_step (by repeat (first | (with_reducible first | exact HB.out | apply below_alloc | apply pw_below_drewN | apply below_drew1) | exact HB.out)) hb); clear HO_6; clear HB; have HO_6 := n0_; have HB := n1_; clear n0_ n1_; (try clear hb); (try clear hb2); (try clear hk); (try clear hi); have HE_ := Aside0.mk hE_; clear hE_) | (go_at_call 21; (with_reducible refine (Kind_check _ t220 _ (by first | exact hg | exact pw_cell_below (by repeat (first | (with_reducible first | exact HB.out | apply below_alloc | apply pw_below_drewN | apply below_drew1) | exact HB.out)) hg) HE_.out).mono ?_); rintro e w36k ⟨rfl, hb⟩; have n0_ := Aside0.mk (Kd.R_below (by (with_reducible repeat (first | apply Kd.R_alloc | apply Kd.R_drewN | apply Kd.R_drew)); exact HO_6.out) hb); have n1_ := Aside0.mk (below_step (by repeat (first | (with_reducible first | exact HB.out | apply below_alloc | apply pw_below_drewN | apply below_drew1) | exact HB.out)) hb); clear HO_6; clear HB; have HO_6 := n0_; have HB := n1_; clear n0_ n1_; (try clear hb); (try clear hb2); (try clear hk); (try clear hi); clear HE_; (try clear HIF_)) | ((with_reducible refine gate_dst (N := 59) rfl ?_); (try (refine gate_guard (by rfl) ?_; dsimp only)); refine Kd.R_lit Kd.string _ 9 ?hg (N := 59) ?hd (xs := ([t211, t212] : List ByteArray)) (inner := [.string t211, .string t212]) (ok := fun _ => True) (okp := fun _ => True) ?hr ?hp (fun _ hk => hk) trivial (Below.refl _ _) (Nat.le_refl _) (by simp) ?_; (case hd => rfl); (case hg => rfl); (case hr => first | (go_simp; done) | (go_simp; rfl)); (case hp => exact (Reps.one (show Kd.M Kd.string _ _ _ t211 [.string t211] from rfl) (Reps.one (show Kd.M Kd.string _ _ _ t212 [.string t212] from rfl) (Reps.none _ _)))); intro v222 w37 ho38 hb hg_ hnew_; clear hg_ hnew_; (first | rw [← Ny221.out] at ho38 | (simp only [Int.reduceToNat] at ho38; rw [← Ny221.out] at ho38)); have n0_ := Aside0.mk (Kd.R_elder' (by (with_reducible repeat (first | apply Kd.R_alloc | apply Kd.R_drewN | apply Kd.R_drew)); exact HO_6.out) (Kd.R_base ho38) hb); have n1_ := Aside0.mk (Kd.R_lower (Kd.R_new' ho38 (Kd.R_lt (by (with_reducible repeat (first | apply Kd.R_alloc | apply Kd.R_drewN | apply Kd.R_drew)); exact HO_6.out))) (below_size (by repeat (first | (with_reducible first | exact HB.out | apply below_alloc | apply pw_below_drewN | apply below_drew1) | exact HB.out)))); have n2_ := Aside0.mk (below_step (by repeat (first | (with_reducible first | exact HB.out | apply below_alloc | apply pw_below_drewN | apply below_drew1) | exact HB.out)) hb); clear HO_6; clear HB; have HO_6 := n0_; have HO223 := n1_; have HB := n2_; clear n0_ n1_ n2_; clear hb ho38; obtain ⟨Ao39, co39, eo39⟩ := Kd.R_slice HO223.out; subst eo39) | (go_at_call 24; (with_reducible refine (split_Join.calls _ _ y221 t224 _ ?side1 ?side2 A23.out).mono ?_); (case side1 => repeat (first | exact (Kd.R_reads' HO223.out).2.2 | (with_reducible refine Kd.C_alloc ?_ _) | (with_reducible refine Kd.C_drewN ?_ _) | (with_reducible refine Kd.C_drew ?_))); (case side2 => exact (Kd.R_reads' HO223.out).2.1); rintro e w40 ⟨rfl, hb⟩; have n0_ := Aside0.mk (Kd.R_below (by (with_reducible repeat (first | apply Kd.R_alloc | apply Kd.R_drewN | apply Kd.R_drew)); exact HO_6.out) hb); have n1_ := Aside0.mk (Kd.R_below (by (with_reducible repeat (first | apply Kd.R_alloc | apply Kd.R_drewN | apply Kd.R_drew)); exact HO223.out) hb); have n2_ := Aside0.mk (below_step (by repeat (first | (with_reducible first | exact HB.out | apply below_alloc | apply pw_below_drewN | apply below_drew1) | exact HB.out)) hb); clear HO_6; clear HO223; clear HB; have HO_6 := n0_; have HO223 := n1_; have HB := n2_; clear n0_ n1_ n2_; (try clear hb); (try clear hb2); (try clear hk); (try clear hi)) | (go_at_call 18; (with_reducible refine (split_Check.callsE k1 t224 t225 _ A24.out).mono ?_); rintro e w41 ⟨v_, rfl, hE_, hb⟩; (try (have HIF_ := Aside0.mk hE_.iface)); have n0_ := Aside0.mk (Kd.R_below (by (with_reducible repeat (first | apply Kd.R_alloc | apply Kd.R_drewN | apply Kd.R_drew)); exact HO_6.out) hb); have n1_ := Aside0.mk (Kd.R_below (by (with_reducible repeat (first | apply Kd.R_alloc | apply Kd.R_drewN | apply Kd.R_drew)); exact HO223.out) hb); have n2_ := Aside0.mk (below_step (by repeat (first | (with_reducible first | exact HB.out | apply below_alloc | apply pw_below_drewN | apply below_drew1) | exact HB.out)) hb); clear HO_6; clear HO223; clear HB; have HO_6 := n0_; have HO223 := n1_; have HB := n2_; clear n0_ n1_ n2_; (try clear hb); (try clear hb2); (try clear hk); (try clear hi); have HE_ := Aside0.mk hE_; clear hE_) | (go_at_call 21; (with_reducible refine (Kind_check _ t225 _ (by first | exact hg | exact pw_cell_below (by repeat (first | (with_reducible first | exact HB.out | apply below_alloc | apply pw_below_drewN | apply below_drew1) | exact HB.out)) hg) HE_.out).mono ?_); rintro e w41k ⟨rfl, hb⟩; have n0_ := Aside0.mk (Kd.R_below (by (with_reducible repeat (first | apply Kd.R_alloc | apply Kd.R_drewN | apply Kd.R_drew)); exact HO_6.out) hb); have n1_ := Aside0.mk (Kd.R_below (by (with_reducible repeat (first | apply Kd.R_alloc | apply Kd.R_drewN | apply Kd.R_drew)); exact HO223.out) hb); have n2_ := Aside0.mk (below_step (by repeat (first | (with_reducible first | exact HB.out | apply below_alloc | apply pw_below_drewN | apply below_drew1) | exact HB.out)) hb); clear HO_6; clear HO223; clear HB; have HO_6 := n0_; have HO223 := n1_; have HB := n2_; clear n0_ n1_ n2_; (try clear hb); (try clear hb2); (try clear hk); (try clear hi); clear HE_; (try clear HIF_)))
       go_ret
       exact ⟨by first | rfl | (simp [errW_none, errW_some] <;> rfl) | (simp [*, errW_none, errW_some] <;> rfl), by repeat (first | (with_reducible first | exact HB.out | apply below_alloc | apply pw_below_drewN | apply below_drew1) | exact HB.out)⟩
     ·rw [if_neg c22] at H
      have c22b0 : ((t219 == 0) == x7_1) = false := by simpa using c22
      (try (have c22b1 : decide ((t219 == 0) = x7_1) = false := by simpa using c22))
      (try (have c22b2 : ((t219 == 0) == x7_1) = false := by simpa using c22))
      (try (have c22b3 : ¬ ((t219 == 0) = x7_1) := by simpa using c22))
      clear c22
      exact absurd ((Option.some.inj H).trans HRT.out) (by decide)
    ·replace c21 := Bool.eq_false_iff.mpr c21
     subst c21
     have H1 : (some false) = some r := by rw [if_neg (show ¬ (false = true) by decide)] at H; exact H
     clear H
     have H := H1
     clear H1
     exact absurd ((Option.some.inj H).trans HRT.out) (by decide)

/-- THE ONE PURE STATEMENT of isoglosslaw04_SplitChecks: yours. -/
def isoglosslaw04_SplitChecks.Pure : Prop := ∀ (a0 : ByteArray) (a1 : ByteArray), a0.size ≤ 140737488351232 → a1.size ≤ 140737488351232 → ∃ k, isoglosslaw04_SplitChecks.f k a0 a1 = some true
theorem isoglosslaw04_SplitChecks.walk (P : isoglosslaw04_SplitChecks.Pure) (a0 : ByteArray) (a1 : ByteArray) (w : World) (hg : w.cell? ⟨0, 0, none⟩ = some errGV) (w0 : a0.size ≤ 140737488351232) (w1 : a1.size ≤ 140737488351232) :
  Calls Tryd.prog 8 #[.string a0, .string a1] w fun e w' => e = .returned (.bool true) ∧ Below w.heap.size w w' := by
 obtain ⟨k, h⟩ := P a0 a1 w0 w1
 refine (isoglosslaw04_SplitChecks.calls k a0 a1 true w hg h rfl).mono ?_
 rintro e w' ⟨rfl, hd⟩
 exact ⟨rfl, hd⟩

end Go.Proofs.YtmkjifljciajbaaDoor.P
