-- Written for this claim by the session's own run of the print, functions proved by hand put in.
import Derived.Test.YtojglflamecnkaaPx0
import Derived.Test.YtojglflamecnkaaPx8
namespace Go.Proofs.Ytojglflamecnkaa.P
open Go.RowKit Go.Proofs.YtojglflamecnkaaW.PrintWords Go.Proofs.YtojglflamecnkaaW.PrintLast Go.Proofs.YtojglflamecnkaaW.PrintMore
attribute [local go_sem] max2_int min2_int max_two min_two max_three min_three max_four min_four   -- for this text's walks alone
set_option linter.unusedVariables false
set_option linter.unusedSimpArgs false

/-! ### isoglossref02_Class: function 72 -/
mutual
def isoglossref02_Class.l0 : Nat → ByteArray → Int → Int → Int → Option (Int)
 | 0, _, _, _, _ => none
 | k + 1, x0, x3, x4, x5 => if x5 < (x0.size : Int) then (if 0 ≤ x5 then ((isoglossref02_letter.f (bt x0 x5)).bind fun t316 => ((isoglossref02_digit.f (bt x0 x5)).bind fun t317 => (if t316 = true then (if t317 = true then (isoglossref02_Class.l0 k x0 (wrap64 (x3 + 1)) (wrap64 (x4 + 1)) (wrap64 (x5 + 1))) else (isoglossref02_Class.l0 k x0 (wrap64 (x3 + 1)) x4 (wrap64 (x5 + 1)))) else (if t317 = true then (isoglossref02_Class.l0 k x0 x3 (wrap64 (x4 + 1)) (wrap64 (x5 + 1))) else (isoglossref02_Class.l0 k x0 x3 x4 (wrap64 (x5 + 1))))))) else (none)) else (if x0.toList = ([] : List UInt8) then (isoglossref02_Class.j1 k x3 x4 true) else (isoglossref02_Class.j1 k x3 x4 (decide ((wrap64 (x3 + x4)) < (x0.size : Int)))))
def isoglossref02_Class.j1 : Nat → Int → Int → Bool → Option (Int)
 | 0, _, _, _ => none
 | k + 1, x3, x4, x37 => if x37 = true then (some 0) else (if x4 = 0 then (some 1) else (if x3 = 0 then (some 2) else (some 3)))
end
def isoglossref02_Class.f (k : Nat) (a0 : ByteArray) : Option (Int) := isoglossref02_Class.l0 k a0 0 0 0
theorem isoglossref02_Class.mono_l : ∀ k, (∀ y0 y1 y2 y3, LeO (isoglossref02_Class.l0 k y0 y1 y2 y3) (isoglossref02_Class.l0 (k + 1) y0 y1 y2 y3)) ∧ (∀ y0 y1 y2, LeO (isoglossref02_Class.j1 k y0 y1 y2) (isoglossref02_Class.j1 (k + 1) y0 y1 y2))
 | 0 => ⟨fun _ _ _ _ r h => by simp [isoglossref02_Class.l0] at h, fun _ _ _ r h => by simp [isoglossref02_Class.j1] at h⟩
 | k + 1 => by
  obtain ⟨ih0, ih1⟩ := isoglossref02_Class.mono_l k
  refine ⟨?_, ?_⟩
  ·intro y0 y1 y2 y3
   unfold isoglossref02_Class.l0
   repeat' first
   | (with_reducible exact ih0 _ _ _ _)
   | (with_reducible exact ih1 _ _ _)
   | (with_reducible exact LeO.refl _)
   | (with_reducible exact LeO.none _)
   | (with_reducible refine LeO.ite ?_ ?_)
   | (with_reducible refine LeO.bind ?_ (fun _ => ?_))
   | exact ih0 _ _ _ _
   | exact ih1 _ _ _
   | exact LeO.none _
   | refine LeO.ite ?_ ?_
   | refine LeO.bind ?_ (fun _ => ?_)
  ·intro y0 y1 y2
   unfold isoglossref02_Class.j1
   repeat' first
   | (with_reducible exact ih0 _ _ _ _)
   | (with_reducible exact ih1 _ _ _)
   | (with_reducible exact LeO.refl _)
   | (with_reducible exact LeO.none _)
   | (with_reducible refine LeO.ite ?_ ?_)
   | (with_reducible refine LeO.bind ?_ (fun _ => ?_))
   | exact ih0 _ _ _ _
   | exact ih1 _ _ _
   | exact LeO.none _
   | refine LeO.ite ?_ ?_
   | refine LeO.bind ?_ (fun _ => ?_)
theorem isoglossref02_Class.mono : ∀ a0 k, LeO (isoglossref02_Class.f k a0) (isoglossref02_Class.f (k + 1) a0) := by
 intro a0 k
 obtain ⟨ih0, ih1⟩ := isoglossref02_Class.mono_l k
 unfold isoglossref02_Class.f
 repeat' first
   | (with_reducible exact ih0 _ _ _ _)
   | (with_reducible exact ih1 _ _ _)
   | (with_reducible exact LeO.refl _)
   | (with_reducible exact LeO.none _)
   | (with_reducible refine LeO.ite ?_ ?_)
   | (with_reducible refine LeO.bind ?_ (fun _ => ?_))
   | exact ih0 _ _ _ _
   | exact ih1 _ _ _
   | exact LeO.none _
   | refine LeO.ite ?_ ?_
   | refine LeO.bind ?_ (fun _ => ?_)
set_option maxHeartbeats 8000000 in
set_option maxRecDepth 100000 in
theorem isoglossref02_Class.calls (k : Nat) (a0 : ByteArray) (r : Int) (w : World) (h : isoglossref02_Class.f k a0 = some r) :
  Calls Try.prog 72 #[.string a0] w fun e w' => e = .returned (.int .i64 r) ∧ Drawn0 w w' := by
 have H : (isoglossref02_Class.l0 k a0 0 0 0) = some r := h
 clear h
 have H' := Aside0.mk H
 clear H
 go_enter Try.func72, Try.ntmps72
 go_wp2
 go_loopg [3, 4, 5] k (fun kq v3 v4 v5 w' => ∃ (x3_1 : Int) (x4_1 : Int) (x5_1 : Int), v3 = .int .i64 x3_1 ∧ v4 = .int .i64 x4_1 ∧ v5 = .int .i64 x5_1 ∧ Aside0 (isoglossref02_Class.l0 kq a0 x3_1 x4_1 x5_1 = some r) ∧ Aside0 (kq ≤ k) ∧ Drawn0 w w')
 case atStart => exact ⟨(0), (0), (0), (by first | rfl | (simp; done) | (simp [*]; done)), (by first | rfl | (simp; done) | (simp [*]; done)), (by first | rfl | (simp; done) | (simp [*]; done)), H', ⟨Nat.le_refl _⟩, by repeat (first | exact Drawn0.refl _ | apply Drawn0.step)⟩
 case round =>
  clear H'
  obtain ⟨x3_1, x4_1, x5_1, rfl, rfl, rfl, HA, HK1, ⟨m1, rfl⟩⟩ := hrel
  cases gk with
  | zero => exact absurd HA.out (by simp [isoglossref02_Class.l0])
  | succ k1 =>
   have H := HA.out
   clear HA
   simp only [isoglossref02_Class.l0] at H
   by_cases c2 : x5_1 < (a0.size : Int)
   ·rw [if_pos c2] at H
    have c2b0 : decide (x5_1 < (a0.size : Int)) = true := decide_eq_true c2
    clear c2
    by_cases c3 : 0 ≤ x5_1
    ·rw [if_pos c3] at H
     have c3b0 : decide (0 ≤ x5_1) = true := decide_eq_true c3
     clear c3
     replace H := Option.bind_eq_some_iff.mp H
     obtain ⟨t316, A50, H⟩ := H
     replace H : ((isoglossref02_digit.f (bt a0 x5_1)).bind fun t317 => (if t316 = true then (if t317 = true then (isoglossref02_Class.l0 k1 a0 (wrap64 (x3_1 + 1)) (wrap64 (x4_1 + 1)) (wrap64 (x5_1 + 1))) else (isoglossref02_Class.l0 k1 a0 (wrap64 (x3_1 + 1)) x4_1 (wrap64 (x5_1 + 1)))) else (if t317 = true then (isoglossref02_Class.l0 k1 a0 x3_1 (wrap64 (x4_1 + 1)) (wrap64 (x5_1 + 1))) else (isoglossref02_Class.l0 k1 a0 x3_1 x4_1 (wrap64 (x5_1 + 1)))))) = some r := H
     have A5 := Aside0.mk A50
     clear A50
     replace H := Option.bind_eq_some_iff.mp H
     obtain ⟨t317, A70, H⟩ := H
     replace H : (if t316 = true then (if t317 = true then (isoglossref02_Class.l0 k1 a0 (wrap64 (x3_1 + 1)) (wrap64 (x4_1 + 1)) (wrap64 (x5_1 + 1))) else (isoglossref02_Class.l0 k1 a0 (wrap64 (x3_1 + 1)) x4_1 (wrap64 (x5_1 + 1)))) else (if t317 = true then (isoglossref02_Class.l0 k1 a0 x3_1 (wrap64 (x4_1 + 1)) (wrap64 (x5_1 + 1))) else (isoglossref02_Class.l0 k1 a0 x3_1 x4_1 (wrap64 (x5_1 + 1))))) = some r := H
     have A7 := Aside0.mk A70
     clear A70
     by_cases c8 : t316 = true
     ·subst c8
      have H1 : (if t317 = true then (isoglossref02_Class.l0 k1 a0 (wrap64 (x3_1 + 1)) (wrap64 (x4_1 + 1)) (wrap64 (x5_1 + 1))) else (isoglossref02_Class.l0 k1 a0 (wrap64 (x3_1 + 1)) x4_1 (wrap64 (x5_1 + 1)))) = some r := by rw [if_pos rfl] at H; exact H
      clear H
      have H := H1
      clear H1
      by_cases c9 : t317 = true
      ·subst c9
       have H1 : (isoglossref02_Class.l0 k1 a0 (wrap64 (x3_1 + 1)) (wrap64 (x4_1 + 1)) (wrap64 (x5_1 + 1))) = some r := by rw [if_pos rfl] at H; exact H
       clear H
       have H := H1
       clear H1
       have H' := Aside0.mk H
       clear H
       have p4 : 0 ≤ (x5_1 : Int) := of_decide_eq_true (by first | (with_reducible assumption) | assumption)
       have q4 : x5_1 < (a0.size : Int) := of_decide_eq_true (by first | (with_reducible assumption) | assumption)
       have hx4 := bt_at a0 x5_1
       replace p4 := eq_true p4
       replace q4 := eq_true q4
       go_wp2_with (first | ((with_reducible refine gate_callee (f := 79) rfl ?_); refine goesL_ (some 17) rfl rfl Try.func79 (by kernel_rfl) rfl #[.int .u8 (bt a0 x5_1)] rfl (by (try simp only [List.map_toArray, List.map_cons, List.map_nil]); first | done | rfl | (simp only [List.length_drop, List.length_take]; rfl)) ?_; (with_reducible refine (isoglossref02_letter.calls (bt a0 x5_1) true _ A5.out).mono ?_); rintro e w' ⟨rfl, ⟨nd, rfl⟩⟩; refine ⟨_, rfl, ?_⟩; have p6 : 0 ≤ (x5_1 : Int) := of_decide_eq_true (by first | (with_reducible assumption) | assumption); have q6 : x5_1 < (a0.size : Int) := of_decide_eq_true (by first | (with_reducible assumption) | assumption); have hx6 := bt_at a0 x5_1; replace p6 := eq_true p6; replace q6 := eq_true q6) | ((with_reducible refine gate_callee (f := 80) rfl ?_); refine goesL_ (some 21) rfl rfl Try.func80 (by kernel_rfl) rfl #[.int .u8 (bt a0 x5_1)] rfl (by (try simp only [List.map_toArray, List.map_cons, List.map_nil]); first | done | rfl | (simp only [List.length_drop, List.length_take]; rfl)) ?_; (with_reducible refine (isoglossref02_digit.calls (bt a0 x5_1) true _ A7.out).mono ?_); rintro e w' ⟨rfl, ⟨nd, rfl⟩⟩; refine ⟨_, rfl, ?_⟩))
       go_roundg k1
       case measure => have := HK1.out; omega
       case rel => exact ⟨(wrap64 (x3_1 + 1)), (wrap64 (x4_1 + 1)), (wrap64 (x5_1 + 1)), (by first | rfl | (simp; done) | (simp [*]; done)), (by first | rfl | (simp; done) | (simp [*]; done)), (by first | rfl | (simp; done) | (simp [*]; done)), H', ⟨by have := HK1.out; omega⟩, by repeat (first | exact Drawn0.refl _ | apply Drawn0.step)⟩
      ·replace c9 := Bool.eq_false_iff.mpr c9
       subst c9
       have H1 : (isoglossref02_Class.l0 k1 a0 (wrap64 (x3_1 + 1)) x4_1 (wrap64 (x5_1 + 1))) = some r := by rw [if_neg (show ¬ (false = true) by decide)] at H; exact H
       clear H
       have H := H1
       clear H1
       have H' := Aside0.mk H
       clear H
       have p4 : 0 ≤ (x5_1 : Int) := of_decide_eq_true (by first | (with_reducible assumption) | assumption)
       have q4 : x5_1 < (a0.size : Int) := of_decide_eq_true (by first | (with_reducible assumption) | assumption)
       have hx4 := bt_at a0 x5_1
       replace p4 := eq_true p4
       replace q4 := eq_true q4
       go_wp2_with (first | ((with_reducible refine gate_callee (f := 79) rfl ?_); refine goesL_ (some 17) rfl rfl Try.func79 (by kernel_rfl) rfl #[.int .u8 (bt a0 x5_1)] rfl (by (try simp only [List.map_toArray, List.map_cons, List.map_nil]); first | done | rfl | (simp only [List.length_drop, List.length_take]; rfl)) ?_; (with_reducible refine (isoglossref02_letter.calls (bt a0 x5_1) true _ A5.out).mono ?_); rintro e w' ⟨rfl, ⟨nd, rfl⟩⟩; refine ⟨_, rfl, ?_⟩; have p6 : 0 ≤ (x5_1 : Int) := of_decide_eq_true (by first | (with_reducible assumption) | assumption); have q6 : x5_1 < (a0.size : Int) := of_decide_eq_true (by first | (with_reducible assumption) | assumption); have hx6 := bt_at a0 x5_1; replace p6 := eq_true p6; replace q6 := eq_true q6) | ((with_reducible refine gate_callee (f := 80) rfl ?_); refine goesL_ (some 21) rfl rfl Try.func80 (by kernel_rfl) rfl #[.int .u8 (bt a0 x5_1)] rfl (by (try simp only [List.map_toArray, List.map_cons, List.map_nil]); first | done | rfl | (simp only [List.length_drop, List.length_take]; rfl)) ?_; (with_reducible refine (isoglossref02_digit.calls (bt a0 x5_1) false _ A7.out).mono ?_); rintro e w' ⟨rfl, ⟨nd, rfl⟩⟩; refine ⟨_, rfl, ?_⟩))
       go_roundg k1
       case measure => have := HK1.out; omega
       case rel => exact ⟨(wrap64 (x3_1 + 1)), (x4_1), (wrap64 (x5_1 + 1)), (by first | rfl | (simp; done) | (simp [*]; done)), (by first | rfl | (simp; done) | (simp [*]; done)), (by first | rfl | (simp; done) | (simp [*]; done)), H', ⟨by have := HK1.out; omega⟩, by repeat (first | exact Drawn0.refl _ | apply Drawn0.step)⟩
     ·replace c8 := Bool.eq_false_iff.mpr c8
      subst c8
      have H1 : (if t317 = true then (isoglossref02_Class.l0 k1 a0 x3_1 (wrap64 (x4_1 + 1)) (wrap64 (x5_1 + 1))) else (isoglossref02_Class.l0 k1 a0 x3_1 x4_1 (wrap64 (x5_1 + 1)))) = some r := by rw [if_neg (show ¬ (false = true) by decide)] at H; exact H
      clear H
      have H := H1
      clear H1
      by_cases c10 : t317 = true
      ·subst c10
       have H1 : (isoglossref02_Class.l0 k1 a0 x3_1 (wrap64 (x4_1 + 1)) (wrap64 (x5_1 + 1))) = some r := by rw [if_pos rfl] at H; exact H
       clear H
       have H := H1
       clear H1
       have H' := Aside0.mk H
       clear H
       have p4 : 0 ≤ (x5_1 : Int) := of_decide_eq_true (by first | (with_reducible assumption) | assumption)
       have q4 : x5_1 < (a0.size : Int) := of_decide_eq_true (by first | (with_reducible assumption) | assumption)
       have hx4 := bt_at a0 x5_1
       replace p4 := eq_true p4
       replace q4 := eq_true q4
       go_wp2_with (first | ((with_reducible refine gate_callee (f := 79) rfl ?_); refine goesL_ (some 17) rfl rfl Try.func79 (by kernel_rfl) rfl #[.int .u8 (bt a0 x5_1)] rfl (by (try simp only [List.map_toArray, List.map_cons, List.map_nil]); first | done | rfl | (simp only [List.length_drop, List.length_take]; rfl)) ?_; (with_reducible refine (isoglossref02_letter.calls (bt a0 x5_1) false _ A5.out).mono ?_); rintro e w' ⟨rfl, ⟨nd, rfl⟩⟩; refine ⟨_, rfl, ?_⟩; have p6 : 0 ≤ (x5_1 : Int) := of_decide_eq_true (by first | (with_reducible assumption) | assumption); have q6 : x5_1 < (a0.size : Int) := of_decide_eq_true (by first | (with_reducible assumption) | assumption); have hx6 := bt_at a0 x5_1; replace p6 := eq_true p6; replace q6 := eq_true q6) | ((with_reducible refine gate_callee (f := 80) rfl ?_); refine goesL_ (some 21) rfl rfl Try.func80 (by kernel_rfl) rfl #[.int .u8 (bt a0 x5_1)] rfl (by (try simp only [List.map_toArray, List.map_cons, List.map_nil]); first | done | rfl | (simp only [List.length_drop, List.length_take]; rfl)) ?_; (with_reducible refine (isoglossref02_digit.calls (bt a0 x5_1) true _ A7.out).mono ?_); rintro e w' ⟨rfl, ⟨nd, rfl⟩⟩; refine ⟨_, rfl, ?_⟩))
       go_roundg k1
       case measure => have := HK1.out; omega
       case rel => exact ⟨(x3_1), (wrap64 (x4_1 + 1)), (wrap64 (x5_1 + 1)), (by first | rfl | (simp; done) | (simp [*]; done)), (by first | rfl | (simp; done) | (simp [*]; done)), (by first | rfl | (simp; done) | (simp [*]; done)), H', ⟨by have := HK1.out; omega⟩, by repeat (first | exact Drawn0.refl _ | apply Drawn0.step)⟩
      ·replace c10 := Bool.eq_false_iff.mpr c10
       subst c10
       have H1 : (isoglossref02_Class.l0 k1 a0 x3_1 x4_1 (wrap64 (x5_1 + 1))) = some r := by rw [if_neg (show ¬ (false = true) by decide)] at H; exact H
       clear H
       have H := H1
       clear H1
       have H' := Aside0.mk H
       clear H
       have p4 : 0 ≤ (x5_1 : Int) := of_decide_eq_true (by first | (with_reducible assumption) | assumption)
       have q4 : x5_1 < (a0.size : Int) := of_decide_eq_true (by first | (with_reducible assumption) | assumption)
       have hx4 := bt_at a0 x5_1
       replace p4 := eq_true p4
       replace q4 := eq_true q4
       go_wp2_with (first | ((with_reducible refine gate_callee (f := 79) rfl ?_); refine goesL_ (some 17) rfl rfl Try.func79 (by kernel_rfl) rfl #[.int .u8 (bt a0 x5_1)] rfl (by (try simp only [List.map_toArray, List.map_cons, List.map_nil]); first | done | rfl | (simp only [List.length_drop, List.length_take]; rfl)) ?_; (with_reducible refine (isoglossref02_letter.calls (bt a0 x5_1) false _ A5.out).mono ?_); rintro e w' ⟨rfl, ⟨nd, rfl⟩⟩; refine ⟨_, rfl, ?_⟩; have p6 : 0 ≤ (x5_1 : Int) := of_decide_eq_true (by first | (with_reducible assumption) | assumption); have q6 : x5_1 < (a0.size : Int) := of_decide_eq_true (by first | (with_reducible assumption) | assumption); have hx6 := bt_at a0 x5_1; replace p6 := eq_true p6; replace q6 := eq_true q6) | ((with_reducible refine gate_callee (f := 80) rfl ?_); refine goesL_ (some 21) rfl rfl Try.func80 (by kernel_rfl) rfl #[.int .u8 (bt a0 x5_1)] rfl (by (try simp only [List.map_toArray, List.map_cons, List.map_nil]); first | done | rfl | (simp only [List.length_drop, List.length_take]; rfl)) ?_; (with_reducible refine (isoglossref02_digit.calls (bt a0 x5_1) false _ A7.out).mono ?_); rintro e w' ⟨rfl, ⟨nd, rfl⟩⟩; refine ⟨_, rfl, ?_⟩))
       go_roundg k1
       case measure => have := HK1.out; omega
       case rel => exact ⟨(x3_1), (x4_1), (wrap64 (x5_1 + 1)), (by first | rfl | (simp; done) | (simp [*]; done)), (by first | rfl | (simp; done) | (simp [*]; done)), (by first | rfl | (simp; done) | (simp [*]; done)), H', ⟨by have := HK1.out; omega⟩, by repeat (first | exact Drawn0.refl _ | apply Drawn0.step)⟩
    ·rw [if_neg c3] at H
     exact absurd H (by simp)
   ·rw [if_neg c2] at H
    have c2b0 : decide (x5_1 < (a0.size : Int)) = false := decide_eq_false c2
    clear c2
    have HC11 := Aside0.mk H
    clear H
    go_upto_region 12 with (fail)
    go_cut [37] (fun v37 wc => ∃ (kq : Nat) (x37_10 : Bool), v37 = .bool x37_10 ∧ Aside0 (isoglossref02_Class.j1 kq x3_1 x4_1 x37_10 = some r) ∧ Aside0 (kq ≤ k1) ∧ Drawn0 w wc)
    case first =>
     have H := HC11.out
     clear HC11
     by_cases c12 : a0.toList = ([] : List UInt8)
     ·rw [if_pos c12] at H
      have c12b0 : (a0.toList == ([] : List UInt8)) = true := beq_iff_eq.mpr c12
      have c12e0 : a0.toList.isEmpty = true := List.isEmpty_iff.2 c12
      have c12e1 : (!a0.toList.isEmpty) = false := by rw [c12e0]; rfl
      have c12b1 : (a0.toList != ([] : List UInt8)) = false := bne_eq_false_iff_eq.mpr c12
      clear c12
      (first | rw [c12e1] | rw [c12e0] | rw [c12b0] | rw [c12b1] | (simp only [i64_w, i32_w]; rw [c12b0]) | skip)
      have H' := Aside0.mk H
      clear H
      go_wp2
      go_meet
      case rel => exact ⟨_, (true), (by first | rfl | (simp; done) | (simp [*]; done)), H', ⟨by have := HK1.out; first | omega | exact Nat.le_refl _⟩, by repeat (first | exact Drawn0.refl _ | apply Drawn0.step)⟩
     ·rw [if_neg c12] at H
      have c12b0 : (a0.toList == ([] : List UInt8)) = false := beq_eq_false_iff_ne.mpr c12
      have c12e0 : a0.toList.isEmpty = false := List.isEmpty_eq_false_iff.2 c12
      have c12e1 : (!a0.toList.isEmpty) = true := by rw [c12e0]; rfl
      have c12b1 : (a0.toList != ([] : List UInt8)) = true := bne_iff_ne.mpr c12
      (first | rw [c12e1] | rw [c12e0] | rw [c12b0] | rw [c12b1] | (simp only [i64_w, i32_w]; rw [c12b0]) | skip)
      have H' := Aside0.mk H
      clear H
      go_wp2
      go_meet
      case rel => exact ⟨_, (decide ((wrap64 (x3_1 + x4_1)) < (a0.size : Int))), (by first | rfl | (simp; done) | (simp [*]; done)), H', ⟨by have := HK1.out; first | omega | exact Nat.le_refl _⟩, by repeat (first | exact Drawn0.refl _ | apply Drawn0.step)⟩
    case rest =>
     clear HC11
     try clear c1
     try clear c2
     try clear c2b0
     try clear p2
     try clear c3
     try clear c3b0
     try clear p4
     try clear q4
     try clear hx4
     try clear p6
     try clear q6
     try clear hx6
     try clear c7
     try clear c8
     try clear c9
     try clear c10
     try clear c12
     try clear c12b0
     try clear c12b1
     try clear p4
     try clear p6
     try clear q4
     try clear q6
     obtain ⟨kq, x37_10, rfl, HA, HJ10, ⟨mc10, rfl⟩⟩ := hcut
     cases kq with
     | zero => exact absurd HA.out (by simp [isoglossref02_Class.j1])
     | succ kj10 =>
      have H := HA.out
      clear HA
      simp only [isoglossref02_Class.j1] at H
      by_cases c13 : x37_10 = true
      ·subst c13
       have H1 : (some 0) = some r := by rw [if_pos rfl] at H; exact H
       clear H
       have H := H1
       clear H1
       obtain rfl := Option.some.inj H
       go_wp2
       go_ret
       exact ⟨by first | rfl | (simp; done) | (simp [*]; done), by repeat (first | exact Drawn0.refl _ | apply Drawn0.step)⟩
      ·replace c13 := Bool.eq_false_iff.mpr c13
       subst c13
       have H1 : (if x4_1 = 0 then (some 1) else (if x3_1 = 0 then (some 2) else (some 3))) = some r := by rw [if_neg (show ¬ (false = true) by decide)] at H; exact H
       clear H
       have H := H1
       clear H1
       by_cases c14 : x4_1 = 0
       ·rw [if_pos c14] at H
        have c14b0 : (x4_1 == 0) = true := beq_iff_eq.mpr c14
        have c14b1 : (x4_1 != 0) = false := bne_eq_false_iff_eq.mpr c14
        clear c14
        obtain rfl := Option.some.inj H
        go_wp2
        go_ret
        exact ⟨by first | rfl | (simp; done) | (simp [*]; done), by repeat (first | exact Drawn0.refl _ | apply Drawn0.step)⟩
       ·rw [if_neg c14] at H
        have c14b0 : (x4_1 == 0) = false := beq_eq_false_iff_ne.mpr c14
        have c14b1 : (x4_1 != 0) = true := bne_iff_ne.mpr c14
        by_cases c15 : x3_1 = 0
        ·rw [if_pos c15] at H
         have c15b0 : (x3_1 == 0) = true := beq_iff_eq.mpr c15
         have c15b1 : (x3_1 != 0) = false := bne_eq_false_iff_eq.mpr c15
         clear c15
         obtain rfl := Option.some.inj H
         go_wp2
         go_ret
         exact ⟨by first | rfl | (simp; done) | (simp [*]; done), by repeat (first | exact Drawn0.refl _ | apply Drawn0.step)⟩
        ·rw [if_neg c15] at H
         have c15b0 : (x3_1 == 0) = false := beq_eq_false_iff_ne.mpr c15
         have c15b1 : (x3_1 != 0) = true := bne_iff_ne.mpr c15
         obtain rfl := Option.some.inj H
         go_wp2
         go_ret
         exact ⟨by first | rfl | (simp; done) | (simp [*]; done), by repeat (first | exact Drawn0.refl _ | apply Drawn0.step)⟩

/-! ### isoglossref04_Sub: function 70 -/
def isoglossref04_Sub.f (k : Nat) (a0 : ByteArray) : Option (Bool) := if (a0.size : Int) ≤ 8 then ((isoglossref02_Class.f k a0).bind fun t318 => (some (decide (t318 > 0)))) else (some false)
theorem isoglossref04_Sub.mono : ∀ a0 k, LeO (isoglossref04_Sub.f k a0) (isoglossref04_Sub.f (k + 1) a0) := by
 intro a0 k
 unfold isoglossref04_Sub.f
 repeat' first
   | (with_reducible exact isoglossref02_Class.mono _ _)
   | (with_reducible exact LeO.refl _)
   | (with_reducible exact LeO.none _)
   | (with_reducible refine LeO.ite ?_ ?_)
   | (with_reducible refine LeO.bind ?_ (fun _ => ?_))
   | exact isoglossref02_Class.mono _ _
   | exact LeO.none _
   | refine LeO.ite ?_ ?_
   | refine LeO.bind ?_ (fun _ => ?_)
set_option maxHeartbeats 8000000 in
set_option maxRecDepth 100000 in
theorem isoglossref04_Sub.calls (k : Nat) (a0 : ByteArray) (r : Bool) (w : World) (h : isoglossref04_Sub.f k a0 = some r) :
  Calls Try.prog 70 #[.string a0] w fun e w' => e = .returned (.bool r) ∧ Drawn0 w w' := by
 have H : (if (a0.size : Int) ≤ 8 then ((isoglossref02_Class.f k a0).bind fun t318 => (some (decide (t318 > 0)))) else (some false)) = some r := h
 clear h
 by_cases c2 : (a0.size : Int) ≤ 8
 ·rw [if_pos c2] at H
  have c2b0 : decide ((a0.size : Int) ≤ 8) = true := decide_eq_true c2
  have c2b1 : decide (a0.size ≤ 8) = true := decide_eq_true (by omega)
  clear c2
  replace H := Option.bind_eq_some_iff.mp H
  obtain ⟨t318, A30, H⟩ := H
  replace H : (some (decide (t318 > 0))) = some r := H
  have A3 := Aside0.mk A30
  clear A30
  obtain rfl := Option.some.inj H
  go_enter Try.func70, Try.ntmps70
  go_wp2_with (first | (go_at_call 72; (with_reducible refine (isoglossref02_Class.calls k a0 t318 _ A3.out).mono ?_); rintro e w' ⟨rfl, ⟨nd, rfl⟩⟩))
  go_ret
  exact ⟨by first | rfl | (simp; done) | (simp [*]; done), by repeat (first | exact Drawn0.refl _ | apply Drawn0.step)⟩
 ·rw [if_neg c2] at H
  have c2b0 : decide ((a0.size : Int) ≤ 8) = false := decide_eq_false c2
  have c2b1 : decide (a0.size ≤ 8) = false := decide_eq_false (by omega)
  clear c2
  obtain rfl := Option.some.inj H
  go_enter Try.func70, Try.ntmps70
  go_wp2
  go_ret
  exact ⟨by first | rfl | (simp; done) | (simp [*]; done), by repeat (first | exact Drawn0.refl _ | apply Drawn0.step)⟩

/-! ### isoglossref06_subs: function 44 -/
def isoglossref06_subs.l0 : Nat → List ByteArray → Int → Int → Option (Bool)
 | 0, _, _, _ => none
 | k + 1, x0, x1, x5 => if x5 < (x0.length : Int) then (if 0 ≤ x5 then ((isoglossref04_Sub.f k (rdOf ByteArray.empty x0 x5)).bind fun t320 => (if t320 = true then (if ((rdOf ByteArray.empty x0 x5).size : Int) < x1 then (some false) else (isoglossref06_subs.l0 k x0 x1 (wrap64 (x5 + 1)))) else (some false))) else (none)) else (some true)
def isoglossref06_subs.f (k : Nat) (l0 : List ByteArray) (a1 : Int) : Option (Bool) := isoglossref06_subs.l0 k l0 a1 0
theorem isoglossref06_subs.mono_l : ∀ k, (∀ y0 y1 y2, LeO (isoglossref06_subs.l0 k y0 y1 y2) (isoglossref06_subs.l0 (k + 1) y0 y1 y2))
 | 0 => fun _ _ _ r h => by simp [isoglossref06_subs.l0] at h
 | k + 1 => by
  have ih0 := isoglossref06_subs.mono_l k
  ·intro y0 y1 y2
   unfold isoglossref06_subs.l0
   repeat' first
   | (with_reducible exact ih0 _ _ _)
   | (with_reducible exact isoglossref04_Sub.mono _ _)
   | (with_reducible exact LeO.refl _)
   | (with_reducible exact LeO.none _)
   | (with_reducible refine LeO.ite ?_ ?_)
   | (with_reducible refine LeO.bind ?_ (fun _ => ?_))
   | exact ih0 _ _ _
   | exact isoglossref04_Sub.mono _ _
   | exact LeO.none _
   | refine LeO.ite ?_ ?_
   | refine LeO.bind ?_ (fun _ => ?_)
theorem isoglossref06_subs.mono : ∀ a0 a1 k, LeO (isoglossref06_subs.f k a0 a1) (isoglossref06_subs.f (k + 1) a0 a1) := by
 intro a0 a1 k
 have ih0 := isoglossref06_subs.mono_l k
 unfold isoglossref06_subs.f
 repeat' first
   | (with_reducible exact ih0 _ _ _)
   | (with_reducible exact isoglossref04_Sub.mono _ _)
   | (with_reducible exact LeO.refl _)
   | (with_reducible exact LeO.none _)
   | (with_reducible refine LeO.ite ?_ ?_)
   | (with_reducible refine LeO.bind ?_ (fun _ => ?_))
   | exact ih0 _ _ _
   | exact isoglossref04_Sub.mono _ _
   | exact LeO.none _
   | refine LeO.ite ?_ ?_
   | refine LeO.bind ?_ (fun _ => ?_)
set_option maxHeartbeats 8000000 in
set_option maxRecDepth 100000 in
theorem isoglossref06_subs.calls (k : Nat) (A0 : Option Addr) (c0 : Nat) (l0 : List ByteArray) (a1 : Int) (r : Bool) (w : World) (hr0 : Kd.C Kd.string w A0 l0.length l0) (hc0 : l0.length ≤ c0) (h : isoglossref06_subs.f k l0 a1 = some r) :
  Calls Try.prog 44 #[.slice A0 l0.length c0, .int .i64 a1] w fun e w' => e = .returned (.bool r) ∧ Drawn0 w w' := by
 have HR0 := Aside0.mk hr0
 have HC0 := Aside0.mk hc0
 clear hr0 hc0
 have H : (isoglossref06_subs.l0 k l0 a1 0) = some r := h
 clear h
 have H' := Aside0.mk H
 clear H
 go_enter Try.func44, Try.ntmps44
 go_wp2
 go_loopg [5] k (fun kq v5 w' => ∃ (x5_1 : Int), v5 = .int .i64 x5_1 ∧ Aside0 (isoglossref06_subs.l0 kq l0 a1 x5_1 = some r) ∧ Aside0 (kq ≤ k) ∧ Drawn0 w w')
 case atStart => exact ⟨(0), (by first | rfl | (simp; done) | (simp [*]; done)), H', ⟨Nat.le_refl _⟩, by repeat (first | exact Drawn0.refl _ | apply Drawn0.step)⟩
 case round =>
  clear H'
  try clear p2
  obtain ⟨x5_1, rfl, HA, HK1, ⟨m1, rfl⟩⟩ := hrel
  cases gk with
  | zero => exact absurd HA.out (by simp [isoglossref06_subs.l0])
  | succ k1 =>
   have H := HA.out
   clear HA
   simp only [isoglossref06_subs.l0] at H
   by_cases c3 : x5_1 < (l0.length : Int)
   ·rw [if_pos c3] at H
    have c3b0 : decide (x5_1 < (l0.length : Int)) = true := decide_eq_true c3
    clear c3
    by_cases c4 : 0 ≤ x5_1
    ·rw [if_pos c4] at H
     have c4b0 : decide (0 ≤ x5_1) = true := decide_eq_true c4
     clear c4
     replace H := Option.bind_eq_some_iff.mp H
     obtain ⟨t320, A50, H⟩ := H
     replace H : (if t320 = true then (if ((rdOf ByteArray.empty l0 x5_1).size : Int) < a1 then (some false) else (isoglossref06_subs.l0 k1 l0 a1 (wrap64 (x5_1 + 1)))) else (some false)) = some r := H
     have A5 := Aside0.mk A50
     clear A50
     by_cases c6 : t320 = true
     ·subst c6
      have H1 : (if ((rdOf ByteArray.empty l0 x5_1).size : Int) < a1 then (some false) else (isoglossref06_subs.l0 k1 l0 a1 (wrap64 (x5_1 + 1)))) = some r := by rw [if_pos rfl] at H; exact H
      clear H
      have H := H1
      clear H1
      by_cases c7 : ((rdOf ByteArray.empty l0 x5_1).size : Int) < a1
      ·rw [if_pos c7] at H
       have c7b0 : decide (((rdOf ByteArray.empty l0 x5_1).size : Int) < a1) = true := decide_eq_true c7
       clear c7
       obtain rfl := Option.some.inj H
       have p319 : 0 ≤ (x5_1 : Int) := of_decide_eq_true (by first | (with_reducible assumption) | assumption)
       have q319 : x5_1 < (l0.length : Int) := of_decide_eq_true (by first | (with_reducible assumption) | assumption)
       obtain ⟨ad319, e319, hx319_0⟩ := Kd.at_string HR0.out x5_1 p319 q319
       cases e319
       replace p319 := eq_true p319
       replace q319 := eq_true q319
       go_wp2_with (first | ((with_reducible refine gate_callee (f := 70) rfl ?_); refine goesL_ (some 17) rfl rfl Try.func70 (by kernel_rfl) rfl #[.string (rdOf ByteArray.empty l0 x5_1)] rfl (by (try simp only [List.map_toArray, List.map_cons, List.map_nil]); first | done | rfl | (simp only [List.length_drop, List.length_take]; rfl)) ?_; (with_reducible refine (isoglossref04_Sub.calls k1 (rdOf ByteArray.empty l0 x5_1) true _ A5.out).mono ?_); rintro e w' ⟨rfl, ⟨nd, rfl⟩⟩; refine ⟨_, rfl, ?_⟩; have p321 : 0 ≤ (x5_1 : Int) := of_decide_eq_true (by first | (with_reducible assumption) | assumption); have q321 : x5_1 < (l0.length : Int) := of_decide_eq_true (by first | (with_reducible assumption) | assumption); obtain ⟨ad321, e321, hx321_0⟩ := Kd.at_string HR0.out x5_1 p321 q321; obtain rfl : ad319 = ad321 := (by injection e321); replace p321 := eq_true p321; replace q321 := eq_true q321))
       go_ret
       exact ⟨by first | rfl | (simp; done) | (simp [*]; done), by repeat (first | exact Drawn0.refl _ | apply Drawn0.step)⟩
      ·rw [if_neg c7] at H
       have c7b0 : decide (((rdOf ByteArray.empty l0 x5_1).size : Int) < a1) = false := decide_eq_false c7
       clear c7
       have H' := Aside0.mk H
       clear H
       have p319 : 0 ≤ (x5_1 : Int) := of_decide_eq_true (by first | (with_reducible assumption) | assumption)
       have q319 : x5_1 < (l0.length : Int) := of_decide_eq_true (by first | (with_reducible assumption) | assumption)
       obtain ⟨ad319, e319, hx319_0⟩ := Kd.at_string HR0.out x5_1 p319 q319
       cases e319
       replace p319 := eq_true p319
       replace q319 := eq_true q319
       go_wp2_with (first | ((with_reducible refine gate_callee (f := 70) rfl ?_); refine goesL_ (some 17) rfl rfl Try.func70 (by kernel_rfl) rfl #[.string (rdOf ByteArray.empty l0 x5_1)] rfl (by (try simp only [List.map_toArray, List.map_cons, List.map_nil]); first | done | rfl | (simp only [List.length_drop, List.length_take]; rfl)) ?_; (with_reducible refine (isoglossref04_Sub.calls k1 (rdOf ByteArray.empty l0 x5_1) true _ A5.out).mono ?_); rintro e w' ⟨rfl, ⟨nd, rfl⟩⟩; refine ⟨_, rfl, ?_⟩; have p321 : 0 ≤ (x5_1 : Int) := of_decide_eq_true (by first | (with_reducible assumption) | assumption); have q321 : x5_1 < (l0.length : Int) := of_decide_eq_true (by first | (with_reducible assumption) | assumption); obtain ⟨ad321, e321, hx321_0⟩ := Kd.at_string HR0.out x5_1 p321 q321; obtain rfl : ad319 = ad321 := (by injection e321); replace p321 := eq_true p321; replace q321 := eq_true q321))
       go_roundg k1
       case measure => have := HK1.out; omega
       case rel => exact ⟨(wrap64 (x5_1 + 1)), (by first | rfl | (simp; done) | (simp [*]; done)), H', ⟨by have := HK1.out; omega⟩, by repeat (first | exact Drawn0.refl _ | apply Drawn0.step)⟩
     ·replace c6 := Bool.eq_false_iff.mpr c6
      subst c6
      have H1 : (some false) = some r := by rw [if_neg (show ¬ (false = true) by decide)] at H; exact H
      clear H
      have H := H1
      clear H1
      obtain rfl := Option.some.inj H
      have p319 : 0 ≤ (x5_1 : Int) := of_decide_eq_true (by first | (with_reducible assumption) | assumption)
      have q319 : x5_1 < (l0.length : Int) := of_decide_eq_true (by first | (with_reducible assumption) | assumption)
      obtain ⟨ad319, e319, hx319_0⟩ := Kd.at_string HR0.out x5_1 p319 q319
      cases e319
      replace p319 := eq_true p319
      replace q319 := eq_true q319
      go_wp2_with (first | ((with_reducible refine gate_callee (f := 70) rfl ?_); refine goesL_ (some 17) rfl rfl Try.func70 (by kernel_rfl) rfl #[.string (rdOf ByteArray.empty l0 x5_1)] rfl (by (try simp only [List.map_toArray, List.map_cons, List.map_nil]); first | done | rfl | (simp only [List.length_drop, List.length_take]; rfl)) ?_; (with_reducible refine (isoglossref04_Sub.calls k1 (rdOf ByteArray.empty l0 x5_1) false _ A5.out).mono ?_); rintro e w' ⟨rfl, ⟨nd, rfl⟩⟩; refine ⟨_, rfl, ?_⟩))
      go_ret
      exact ⟨by first | rfl | (simp; done) | (simp [*]; done), by repeat (first | exact Drawn0.refl _ | apply Drawn0.step)⟩
    ·rw [if_neg c4] at H
     exact absurd H (by simp)
   ·rw [if_neg c3] at H
    have c3b0 : decide (x5_1 < (l0.length : Int)) = false := decide_eq_false c3
    clear c3
    obtain rfl := Option.some.inj H
    go_wp2
    go_ret
    exact ⟨by first | rfl | (simp; done) | (simp [*]; done), by repeat (first | exact Drawn0.refl _ | apply Drawn0.step)⟩

/-! ### isoglossref06_letters: function 71 -/
def isoglossref06_letters.f (k : Nat) (a0 : ByteArray) (a1 : Int) (a2 : Int) : Option (Bool) := (isoglossref02_Class.f k a0).bind fun t322 => (if t322 = 1 then (if (a0.size : Int) ≥ a1 then (some (decide ((a0.size : Int) ≤ a2))) else (some false)) else (some false))
theorem isoglossref06_letters.mono : ∀ a0 a1 a2 k, LeO (isoglossref06_letters.f k a0 a1 a2) (isoglossref06_letters.f (k + 1) a0 a1 a2) := by
 intro a0 a1 a2 k
 unfold isoglossref06_letters.f
 repeat' first
   | (with_reducible exact isoglossref02_Class.mono _ _)
   | (with_reducible exact LeO.refl _)
   | (with_reducible exact LeO.none _)
   | (with_reducible refine LeO.ite ?_ ?_)
   | (with_reducible refine LeO.bind ?_ (fun _ => ?_))
   | exact isoglossref02_Class.mono _ _
   | exact LeO.none _
   | refine LeO.ite ?_ ?_
   | refine LeO.bind ?_ (fun _ => ?_)
set_option maxHeartbeats 8000000 in
set_option maxRecDepth 100000 in
theorem isoglossref06_letters.calls (k : Nat) (a0 : ByteArray) (a1 : Int) (a2 : Int) (r : Bool) (w : World) (h : isoglossref06_letters.f k a0 a1 a2 = some r) :
  Calls Try.prog 71 #[.string a0, .int .i64 a1, .int .i64 a2] w fun e w' => e = .returned (.bool r) ∧ Drawn0 w w' := by
 have H : ((isoglossref02_Class.f k a0).bind fun t322 => (if t322 = 1 then (if (a0.size : Int) ≥ a1 then (some (decide ((a0.size : Int) ≤ a2))) else (some false)) else (some false))) = some r := h
 clear h
 replace H := Option.bind_eq_some_iff.mp H
 obtain ⟨t322, A40, H⟩ := H
 replace H : (if t322 = 1 then (if (a0.size : Int) ≥ a1 then (some (decide ((a0.size : Int) ≤ a2))) else (some false)) else (some false)) = some r := H
 have A4 := Aside0.mk A40
 clear A40
 by_cases c5 : t322 = 1
 ·rw [if_pos c5] at H
  have c5b0 : (t322 == 1) = true := beq_iff_eq.mpr c5
  have c5b1 : (t322 != 1) = false := bne_eq_false_iff_eq.mpr c5
  clear c5
  by_cases c6 : (a0.size : Int) ≥ a1
  ·rw [if_pos c6] at H
   have c6b0 : decide (a1 ≤ (a0.size : Int)) = true := decide_eq_true c6
   clear c6
   obtain rfl := Option.some.inj H
   go_enter Try.func71, Try.ntmps71
   go_wp2_with (first | ((with_reducible refine gate_callee (f := 72) rfl ?_); refine goesL_ (some 8) rfl rfl Try.func72 (by kernel_rfl) rfl #[.string a0] rfl (by (try simp only [List.map_toArray, List.map_cons, List.map_nil]); first | done | rfl | (simp only [List.length_drop, List.length_take]; rfl)) ?_; (with_reducible refine (isoglossref02_Class.calls k a0 t322 _ A4.out).mono ?_); rintro e w' ⟨rfl, ⟨nd, rfl⟩⟩; refine ⟨_, rfl, ?_⟩))
   go_ret
   exact ⟨by first | rfl | (simp; done) | (simp [*]; done), by repeat (first | exact Drawn0.refl _ | apply Drawn0.step)⟩
  ·rw [if_neg c6] at H
   have c6b0 : decide (a1 ≤ (a0.size : Int)) = false := decide_eq_false c6
   clear c6
   obtain rfl := Option.some.inj H
   go_enter Try.func71, Try.ntmps71
   go_wp2_with (first | ((with_reducible refine gate_callee (f := 72) rfl ?_); refine goesL_ (some 8) rfl rfl Try.func72 (by kernel_rfl) rfl #[.string a0] rfl (by (try simp only [List.map_toArray, List.map_cons, List.map_nil]); first | done | rfl | (simp only [List.length_drop, List.length_take]; rfl)) ?_; (with_reducible refine (isoglossref02_Class.calls k a0 t322 _ A4.out).mono ?_); rintro e w' ⟨rfl, ⟨nd, rfl⟩⟩; refine ⟨_, rfl, ?_⟩))
   go_ret
   exact ⟨by first | rfl | (simp; done) | (simp [*]; done), by repeat (first | exact Drawn0.refl _ | apply Drawn0.step)⟩
 ·rw [if_neg c5] at H
  have c5b0 : (t322 == 1) = false := beq_eq_false_iff_ne.mpr c5
  have c5b1 : (t322 != 1) = true := bne_iff_ne.mpr c5
  obtain rfl := Option.some.inj H
  go_enter Try.func71, Try.ntmps71
  go_wp2_with (first | ((with_reducible refine gate_callee (f := 72) rfl ?_); refine goesL_ (some 8) rfl rfl Try.func72 (by kernel_rfl) rfl #[.string a0] rfl (by (try simp only [List.map_toArray, List.map_cons, List.map_nil]); first | done | rfl | (simp only [List.length_drop, List.length_take]; rfl)) ?_; (with_reducible refine (isoglossref02_Class.calls k a0 t322 _ A4.out).mono ?_); rintro e w' ⟨rfl, ⟨nd, rfl⟩⟩; refine ⟨_, rfl, ?_⟩))
  go_ret
  exact ⟨by first | rfl | (simp; done) | (simp [*]; done), by repeat (first | exact Drawn0.refl _ | apply Drawn0.step)⟩

/-! ### isoglossref06_Language: function 45 -/
def isoglossref06_Language.f (k : Nat) (a0 : ByteArray) : Option (Bool) := (isoglossref06_letters.f k a0 2 8).bind fun t323 => (some t323)
theorem isoglossref06_Language.mono : ∀ a0 k, LeO (isoglossref06_Language.f k a0) (isoglossref06_Language.f (k + 1) a0) := by
 intro a0 k
 unfold isoglossref06_Language.f
 repeat' first
   | (with_reducible exact isoglossref06_letters.mono _ _ _ _)
   | (with_reducible exact LeO.refl _)
   | (with_reducible exact LeO.none _)
   | (with_reducible refine LeO.ite ?_ ?_)
   | (with_reducible refine LeO.bind ?_ (fun _ => ?_))
   | exact isoglossref06_letters.mono _ _ _ _
   | exact LeO.none _
   | refine LeO.ite ?_ ?_
   | refine LeO.bind ?_ (fun _ => ?_)
set_option maxHeartbeats 8000000 in
set_option maxRecDepth 100000 in
theorem isoglossref06_Language.calls (k : Nat) (a0 : ByteArray) (r : Bool) (w : World) (h : isoglossref06_Language.f k a0 = some r) :
  Calls Try.prog 45 #[.string a0] w fun e w' => e = .returned (.bool r) ∧ Drawn0 w w' := by
 have H : ((isoglossref06_letters.f k a0 2 8).bind fun t323 => (some t323)) = some r := h
 clear h
 replace H := Option.bind_eq_some_iff.mp H
 obtain ⟨t323, A20, H⟩ := H
 replace H : (some t323) = some r := H
 have A2 := Aside0.mk A20
 clear A20
 obtain rfl := Option.some.inj H
 go_enter Try.func45, Try.ntmps45
 go_wp2_with (first | ((with_reducible refine gate_callee (f := 71) rfl ?_); refine goesL_ (some 4) rfl rfl Try.func71 (by kernel_rfl) rfl #[.string a0, .int .i64 2, .int .i64 8] rfl (by (try simp only [List.map_toArray, List.map_cons, List.map_nil]); first | done | rfl | (simp only [List.length_drop, List.length_take]; rfl)) ?_; (with_reducible refine (isoglossref06_letters.calls k a0 2 8 t323 _ A2.out).mono ?_); rintro e w' ⟨rfl, ⟨nd, rfl⟩⟩; refine ⟨_, rfl, ?_⟩))
 go_ret
 exact ⟨by first | rfl | (simp; done) | (simp [*]; done), by repeat (first | exact Drawn0.refl _ | apply Drawn0.step)⟩

/-! ### isoglossref06_Script: function 46 -/
def isoglossref06_Script.f (k : Nat) (a0 : ByteArray) : Option (Bool) := (isoglossref06_letters.f k a0 4 4).bind fun t324 => (some t324)
theorem isoglossref06_Script.mono : ∀ a0 k, LeO (isoglossref06_Script.f k a0) (isoglossref06_Script.f (k + 1) a0) := by
 intro a0 k
 unfold isoglossref06_Script.f
 repeat' first
   | (with_reducible exact isoglossref06_letters.mono _ _ _ _)
   | (with_reducible exact LeO.refl _)
   | (with_reducible exact LeO.none _)
   | (with_reducible refine LeO.ite ?_ ?_)
   | (with_reducible refine LeO.bind ?_ (fun _ => ?_))
   | exact isoglossref06_letters.mono _ _ _ _
   | exact LeO.none _
   | refine LeO.ite ?_ ?_
   | refine LeO.bind ?_ (fun _ => ?_)
set_option maxHeartbeats 8000000 in
set_option maxRecDepth 100000 in
theorem isoglossref06_Script.calls (k : Nat) (a0 : ByteArray) (r : Bool) (w : World) (h : isoglossref06_Script.f k a0 = some r) :
  Calls Try.prog 46 #[.string a0] w fun e w' => e = .returned (.bool r) ∧ Drawn0 w w' := by
 have H : ((isoglossref06_letters.f k a0 4 4).bind fun t324 => (some t324)) = some r := h
 clear h
 replace H := Option.bind_eq_some_iff.mp H
 obtain ⟨t324, A20, H⟩ := H
 replace H : (some t324) = some r := H
 have A2 := Aside0.mk A20
 clear A20
 obtain rfl := Option.some.inj H
 go_enter Try.func46, Try.ntmps46
 go_wp2_with (first | ((with_reducible refine gate_callee (f := 71) rfl ?_); refine goesL_ (some 4) rfl rfl Try.func71 (by kernel_rfl) rfl #[.string a0, .int .i64 4, .int .i64 4] rfl (by (try simp only [List.map_toArray, List.map_cons, List.map_nil]); first | done | rfl | (simp only [List.length_drop, List.length_take]; rfl)) ?_; (with_reducible refine (isoglossref06_letters.calls k a0 4 4 t324 _ A2.out).mono ?_); rintro e w' ⟨rfl, ⟨nd, rfl⟩⟩; refine ⟨_, rfl, ?_⟩))
 go_ret
 exact ⟨by first | rfl | (simp; done) | (simp [*]; done), by repeat (first | exact Drawn0.refl _ | apply Drawn0.step)⟩

/-! ### isoglossref06_Region: function 47 -/
def isoglossref06_Region.f (k : Nat) (a0 : ByteArray) : Option (Bool) := (isoglossref06_letters.f k a0 2 2).bind fun t325 => (if t325 = true then (some true) else (if (a0.size : Int) = 3 then ((isoglossref02_Class.f k a0).bind fun t326 => (some (t326 == 2))) else (some false)))
theorem isoglossref06_Region.mono : ∀ a0 k, LeO (isoglossref06_Region.f k a0) (isoglossref06_Region.f (k + 1) a0) := by
 intro a0 k
 unfold isoglossref06_Region.f
 repeat' first
   | (with_reducible exact isoglossref02_Class.mono _ _)
   | (with_reducible exact isoglossref06_letters.mono _ _ _ _)
   | (with_reducible exact LeO.refl _)
   | (with_reducible exact LeO.none _)
   | (with_reducible refine LeO.ite ?_ ?_)
   | (with_reducible refine LeO.bind ?_ (fun _ => ?_))
   | exact isoglossref02_Class.mono _ _
   | exact isoglossref06_letters.mono _ _ _ _
   | exact LeO.none _
   | refine LeO.ite ?_ ?_
   | refine LeO.bind ?_ (fun _ => ?_)
set_option maxHeartbeats 8000000 in
set_option maxRecDepth 100000 in
theorem isoglossref06_Region.calls (k : Nat) (a0 : ByteArray) (r : Bool) (w : World) (h : isoglossref06_Region.f k a0 = some r) :
  Calls Try.prog 47 #[.string a0] w fun e w' => e = .returned (.bool r) ∧ Drawn0 w w' := by
 have H : ((isoglossref06_letters.f k a0 2 2).bind fun t325 => (if t325 = true then (some true) else (if (a0.size : Int) = 3 then ((isoglossref02_Class.f k a0).bind fun t326 => (some (t326 == 2))) else (some false)))) = some r := h
 clear h
 replace H := Option.bind_eq_some_iff.mp H
 obtain ⟨t325, A20, H⟩ := H
 replace H : (if t325 = true then (some true) else (if (a0.size : Int) = 3 then ((isoglossref02_Class.f k a0).bind fun t326 => (some (t326 == 2))) else (some false))) = some r := H
 have A2 := Aside0.mk A20
 clear A20
 by_cases c3 : t325 = true
 ·subst c3
  have H1 : (some true) = some r := by rw [if_pos rfl] at H; exact H
  clear H
  have H := H1
  clear H1
  obtain rfl := Option.some.inj H
  go_enter Try.func47, Try.ntmps47
  go_wp2_with (first | ((with_reducible refine gate_callee (f := 71) rfl ?_); refine goesL_ (some 5) rfl rfl Try.func71 (by kernel_rfl) rfl #[.string a0, .int .i64 2, .int .i64 2] rfl (by (try simp only [List.map_toArray, List.map_cons, List.map_nil]); first | done | rfl | (simp only [List.length_drop, List.length_take]; rfl)) ?_; (with_reducible refine (isoglossref06_letters.calls k a0 2 2 true _ A2.out).mono ?_); rintro e w' ⟨rfl, ⟨nd, rfl⟩⟩; refine ⟨_, rfl, ?_⟩))
  go_ret
  exact ⟨by first | rfl | (simp; done) | (simp [*]; done), by repeat (first | exact Drawn0.refl _ | apply Drawn0.step)⟩
 ·replace c3 := Bool.eq_false_iff.mpr c3
  subst c3
  have H1 : (if (a0.size : Int) = 3 then ((isoglossref02_Class.f k a0).bind fun t326 => (some (t326 == 2))) else (some false)) = some r := by rw [if_neg (show ¬ (false = true) by decide)] at H; exact H
  clear H
  have H := H1
  clear H1
  by_cases c4 : (a0.size : Int) = 3
  ·rw [if_pos c4] at H
   have c4b0 : ((a0.size : Int) == 3) = true := beq_iff_eq.mpr c4
   have c4b1 : ((a0.size : Int) != 3) = false := bne_eq_false_iff_eq.mpr c4
   clear c4
   replace H := Option.bind_eq_some_iff.mp H
   obtain ⟨t326, A50, H⟩ := H
   replace H : (some (t326 == 2)) = some r := H
   have A5 := Aside0.mk A50
   clear A50
   obtain rfl := Option.some.inj H
   go_enter Try.func47, Try.ntmps47
   go_wp2_with (first | ((with_reducible refine gate_callee (f := 71) rfl ?_); refine goesL_ (some 5) rfl rfl Try.func71 (by kernel_rfl) rfl #[.string a0, .int .i64 2, .int .i64 2] rfl (by (try simp only [List.map_toArray, List.map_cons, List.map_nil]); first | done | rfl | (simp only [List.length_drop, List.length_take]; rfl)) ?_; (with_reducible refine (isoglossref06_letters.calls k a0 2 2 false _ A2.out).mono ?_); rintro e w' ⟨rfl, ⟨nd, rfl⟩⟩; refine ⟨_, rfl, ?_⟩) | (go_at_call 72; (with_reducible refine (isoglossref02_Class.calls k a0 t326 _ A5.out).mono ?_); rintro e w' ⟨rfl, ⟨nd, rfl⟩⟩))
   go_ret
   exact ⟨by first | rfl | (simp; done) | (simp [*]; done), by repeat (first | exact Drawn0.refl _ | apply Drawn0.step)⟩
  ·rw [if_neg c4] at H
   have c4b0 : ((a0.size : Int) == 3) = false := beq_eq_false_iff_ne.mpr c4
   have c4b1 : ((a0.size : Int) != 3) = true := bne_iff_ne.mpr c4
   obtain rfl := Option.some.inj H
   go_enter Try.func47, Try.ntmps47
   go_wp2_with (first | ((with_reducible refine gate_callee (f := 71) rfl ?_); refine goesL_ (some 5) rfl rfl Try.func71 (by kernel_rfl) rfl #[.string a0, .int .i64 2, .int .i64 2] rfl (by (try simp only [List.map_toArray, List.map_cons, List.map_nil]); first | done | rfl | (simp only [List.length_drop, List.length_take]; rfl)) ?_; (with_reducible refine (isoglossref06_letters.calls k a0 2 2 false _ A2.out).mono ?_); rintro e w' ⟨rfl, ⟨nd, rfl⟩⟩; refine ⟨_, rfl, ?_⟩))
   go_ret
   exact ⟨by first | rfl | (simp; done) | (simp [*]; done), by repeat (first | exact Drawn0.refl _ | apply Drawn0.step)⟩

/-! ### isoglossref06_Variant: function 52 -/
def isoglossref06_Variant.f (k : Nat) (a0 : ByteArray) : Option (Bool) := (isoglossref02_Class.f k a0).bind fun t327 => (if t327 = 0 then (some false) else (if (a0.size : Int) ≥ 5 then (if (a0.size : Int) ≤ 8 then (some true) else (if (a0.size : Int) = 4 then (if 0 < (a0.size : Int) then (if (bt a0 0) ≥ 48 then (some (decide ((bt a0 0) ≤ 57))) else (some false)) else (none)) else (some false))) else (if (a0.size : Int) = 4 then (if 0 < (a0.size : Int) then (if (bt a0 0) ≥ 48 then (some (decide ((bt a0 0) ≤ 57))) else (some false)) else (none)) else (some false))))
theorem isoglossref06_Variant.mono : ∀ a0 k, LeO (isoglossref06_Variant.f k a0) (isoglossref06_Variant.f (k + 1) a0) := by
 intro a0 k
 unfold isoglossref06_Variant.f
 repeat' first
   | (with_reducible exact isoglossref02_Class.mono _ _)
   | (with_reducible exact LeO.refl _)
   | (with_reducible exact LeO.none _)
   | (with_reducible refine LeO.ite ?_ ?_)
   | (with_reducible refine LeO.bind ?_ (fun _ => ?_))
   | exact isoglossref02_Class.mono _ _
   | exact LeO.none _
   | refine LeO.ite ?_ ?_
   | refine LeO.bind ?_ (fun _ => ?_)
set_option maxHeartbeats 8000000 in
set_option maxRecDepth 100000 in
theorem isoglossref06_Variant.calls (k : Nat) (a0 : ByteArray) (r : Bool) (w : World) (h : isoglossref06_Variant.f k a0 = some r) :
  Calls Try.prog 52 #[.string a0] w fun e w' => e = .returned (.bool r) ∧ Drawn0 w w' := by
 have H : ((isoglossref02_Class.f k a0).bind fun t327 => (if t327 = 0 then (some false) else (if (a0.size : Int) ≥ 5 then (if (a0.size : Int) ≤ 8 then (some true) else (if (a0.size : Int) = 4 then (if 0 < (a0.size : Int) then (if (bt a0 0) ≥ 48 then (some (decide ((bt a0 0) ≤ 57))) else (some false)) else (none)) else (some false))) else (if (a0.size : Int) = 4 then (if 0 < (a0.size : Int) then (if (bt a0 0) ≥ 48 then (some (decide ((bt a0 0) ≤ 57))) else (some false)) else (none)) else (some false))))) = some r := h
 clear h
 replace H := Option.bind_eq_some_iff.mp H
 obtain ⟨t327, A20, H⟩ := H
 replace H : (if t327 = 0 then (some false) else (if (a0.size : Int) ≥ 5 then (if (a0.size : Int) ≤ 8 then (some true) else (if (a0.size : Int) = 4 then (if 0 < (a0.size : Int) then (if (bt a0 0) ≥ 48 then (some (decide ((bt a0 0) ≤ 57))) else (some false)) else (none)) else (some false))) else (if (a0.size : Int) = 4 then (if 0 < (a0.size : Int) then (if (bt a0 0) ≥ 48 then (some (decide ((bt a0 0) ≤ 57))) else (some false)) else (none)) else (some false)))) = some r := H
 have A2 := Aside0.mk A20
 clear A20
 by_cases c3 : t327 = 0
 ·rw [if_pos c3] at H
  have c3b0 : (t327 == 0) = true := beq_iff_eq.mpr c3
  have c3b1 : (t327 != 0) = false := bne_eq_false_iff_eq.mpr c3
  clear c3
  obtain rfl := Option.some.inj H
  go_enter Try.func52, Try.ntmps52
  go_wp2_with (first | ((with_reducible refine gate_callee (f := 72) rfl ?_); refine goesL_ (some 4) rfl rfl Try.func72 (by kernel_rfl) rfl #[.string a0] rfl (by (try simp only [List.map_toArray, List.map_cons, List.map_nil]); first | done | rfl | (simp only [List.length_drop, List.length_take]; rfl)) ?_; (with_reducible refine (isoglossref02_Class.calls k a0 t327 _ A2.out).mono ?_); rintro e w' ⟨rfl, ⟨nd, rfl⟩⟩; refine ⟨_, rfl, ?_⟩))
  go_ret
  exact ⟨by first | rfl | (simp; done) | (simp [*]; done), by repeat (first | exact Drawn0.refl _ | apply Drawn0.step)⟩
 ·rw [if_neg c3] at H
  have c3b0 : (t327 == 0) = false := beq_eq_false_iff_ne.mpr c3
  have c3b1 : (t327 != 0) = true := bne_iff_ne.mpr c3
  by_cases c4 : (a0.size : Int) ≥ 5
  ·rw [if_pos c4] at H
   have c4b0 : decide (5 ≤ (a0.size : Int)) = true := decide_eq_true c4
   have c4b1 : decide (5 ≤ a0.size) = true := decide_eq_true (by omega)
   clear c4
   by_cases c5 : (a0.size : Int) ≤ 8
   ·rw [if_pos c5] at H
    have c5b0 : decide ((a0.size : Int) ≤ 8) = true := decide_eq_true c5
    have c5b1 : decide (a0.size ≤ 8) = true := decide_eq_true (by omega)
    clear c5
    obtain rfl := Option.some.inj H
    go_enter Try.func52, Try.ntmps52
    go_wp2_with (first | ((with_reducible refine gate_callee (f := 72) rfl ?_); refine goesL_ (some 4) rfl rfl Try.func72 (by kernel_rfl) rfl #[.string a0] rfl (by (try simp only [List.map_toArray, List.map_cons, List.map_nil]); first | done | rfl | (simp only [List.length_drop, List.length_take]; rfl)) ?_; (with_reducible refine (isoglossref02_Class.calls k a0 t327 _ A2.out).mono ?_); rintro e w' ⟨rfl, ⟨nd, rfl⟩⟩; refine ⟨_, rfl, ?_⟩))
    go_ret
    exact ⟨by first | rfl | (simp; done) | (simp [*]; done), by repeat (first | exact Drawn0.refl _ | apply Drawn0.step)⟩
   ·rw [if_neg c5] at H
    have c5b0 : decide ((a0.size : Int) ≤ 8) = false := decide_eq_false c5
    have c5b1 : decide (a0.size ≤ 8) = false := decide_eq_false (by omega)
    clear c5
    by_cases c6 : (a0.size : Int) = 4
    ·rw [if_pos c6] at H
     have c6b0 : ((a0.size : Int) == 4) = true := beq_iff_eq.mpr c6
     have c6b1 : ((a0.size : Int) != 4) = false := bne_eq_false_iff_eq.mpr c6
     clear c6
     by_cases c7 : 0 < (a0.size : Int)
     ·rw [if_pos c7] at H
      have c7b0 : decide (0 < (a0.size : Int)) = true := decide_eq_true c7
      have c7b1 : decide (0 < a0.size) = true := decide_eq_true (by omega)
      clear c7
      by_cases c9 : (bt a0 0) ≥ 48
      ·rw [if_pos c9] at H
       have c9b0 : decide (48 ≤ (bt a0 0)) = true := decide_eq_true c9
       clear c9
       obtain rfl := Option.some.inj H
       go_enter Try.func52, Try.ntmps52
       go_wp2_with (first | ((with_reducible refine gate_callee (f := 72) rfl ?_); refine goesL_ (some 4) rfl rfl Try.func72 (by kernel_rfl) rfl #[.string a0] rfl (by (try simp only [List.map_toArray, List.map_cons, List.map_nil]); first | done | rfl | (simp only [List.length_drop, List.length_take]; rfl)) ?_; (with_reducible refine (isoglossref02_Class.calls k a0 t327 _ A2.out).mono ?_); rintro e w' ⟨rfl, ⟨nd, rfl⟩⟩; refine ⟨_, rfl, ?_⟩; have p8 : 0 ≤ (0 : Int) := (by omega); have q8 : 0 < a0.size := (by have : (0 : Int) < (a0.size : Int) := of_decide_eq_true (by first | (with_reducible assumption) | assumption); omega); have hx8 : ∀ h : 0 < a0.size, ((a0[0]'h).toNat : Int) = bt a0 0 := bt_at a0 0; clear p8; have qi8 : (0 < (a0.size : Int)) = True := eq_true (of_decide_eq_true (by first | (with_reducible assumption) | assumption)); replace q8 := eq_true q8; have p10 : 0 ≤ (0 : Int) := (by omega); have q10 : 0 < a0.size := (by have : (0 : Int) < (a0.size : Int) := of_decide_eq_true (by first | (with_reducible assumption) | assumption); omega); have hx10 : ∀ h : 0 < a0.size, ((a0[0]'h).toNat : Int) = bt a0 0 := bt_at a0 0; clear p10; have qi10 : (0 < (a0.size : Int)) = True := eq_true (of_decide_eq_true (by first | (with_reducible assumption) | assumption)); replace q10 := eq_true q10))
       go_ret
       exact ⟨by first | rfl | (simp; done) | (simp [*]; done), by repeat (first | exact Drawn0.refl _ | apply Drawn0.step)⟩
      ·rw [if_neg c9] at H
       have c9b0 : decide (48 ≤ (bt a0 0)) = false := decide_eq_false c9
       clear c9
       obtain rfl := Option.some.inj H
       go_enter Try.func52, Try.ntmps52
       go_wp2_with (first | ((with_reducible refine gate_callee (f := 72) rfl ?_); refine goesL_ (some 4) rfl rfl Try.func72 (by kernel_rfl) rfl #[.string a0] rfl (by (try simp only [List.map_toArray, List.map_cons, List.map_nil]); first | done | rfl | (simp only [List.length_drop, List.length_take]; rfl)) ?_; (with_reducible refine (isoglossref02_Class.calls k a0 t327 _ A2.out).mono ?_); rintro e w' ⟨rfl, ⟨nd, rfl⟩⟩; refine ⟨_, rfl, ?_⟩; have p8 : 0 ≤ (0 : Int) := (by omega); have q8 : 0 < a0.size := (by have : (0 : Int) < (a0.size : Int) := of_decide_eq_true (by first | (with_reducible assumption) | assumption); omega); have hx8 : ∀ h : 0 < a0.size, ((a0[0]'h).toNat : Int) = bt a0 0 := bt_at a0 0; clear p8; have qi8 : (0 < (a0.size : Int)) = True := eq_true (of_decide_eq_true (by first | (with_reducible assumption) | assumption)); replace q8 := eq_true q8))
       go_ret
       exact ⟨by first | rfl | (simp; done) | (simp [*]; done), by repeat (first | exact Drawn0.refl _ | apply Drawn0.step)⟩
     ·rw [if_neg c7] at H
      exact absurd H (by simp)
    ·rw [if_neg c6] at H
     have c6b0 : ((a0.size : Int) == 4) = false := beq_eq_false_iff_ne.mpr c6
     have c6b1 : ((a0.size : Int) != 4) = true := bne_iff_ne.mpr c6
     obtain rfl := Option.some.inj H
     go_enter Try.func52, Try.ntmps52
     go_wp2_with (first | ((with_reducible refine gate_callee (f := 72) rfl ?_); refine goesL_ (some 4) rfl rfl Try.func72 (by kernel_rfl) rfl #[.string a0] rfl (by (try simp only [List.map_toArray, List.map_cons, List.map_nil]); first | done | rfl | (simp only [List.length_drop, List.length_take]; rfl)) ?_; (with_reducible refine (isoglossref02_Class.calls k a0 t327 _ A2.out).mono ?_); rintro e w' ⟨rfl, ⟨nd, rfl⟩⟩; refine ⟨_, rfl, ?_⟩))
     go_ret
     exact ⟨by first | rfl | (simp; done) | (simp [*]; done), by repeat (first | exact Drawn0.refl _ | apply Drawn0.step)⟩
  ·rw [if_neg c4] at H
   have c4b0 : decide (5 ≤ (a0.size : Int)) = false := decide_eq_false c4
   have c4b1 : decide (5 ≤ a0.size) = false := decide_eq_false (by omega)
   clear c4
   by_cases c11 : (a0.size : Int) = 4
   ·rw [if_pos c11] at H
    have c11b0 : ((a0.size : Int) == 4) = true := beq_iff_eq.mpr c11
    have c11b1 : ((a0.size : Int) != 4) = false := bne_eq_false_iff_eq.mpr c11
    clear c11
    by_cases c12 : 0 < (a0.size : Int)
    ·rw [if_pos c12] at H
     have c12b0 : decide (0 < (a0.size : Int)) = true := decide_eq_true c12
     have c12b1 : decide (0 < a0.size) = true := decide_eq_true (by omega)
     clear c12
     by_cases c14 : (bt a0 0) ≥ 48
     ·rw [if_pos c14] at H
      have c14b0 : decide (48 ≤ (bt a0 0)) = true := decide_eq_true c14
      clear c14
      obtain rfl := Option.some.inj H
      go_enter Try.func52, Try.ntmps52
      go_wp2_with (first | ((with_reducible refine gate_callee (f := 72) rfl ?_); refine goesL_ (some 4) rfl rfl Try.func72 (by kernel_rfl) rfl #[.string a0] rfl (by (try simp only [List.map_toArray, List.map_cons, List.map_nil]); first | done | rfl | (simp only [List.length_drop, List.length_take]; rfl)) ?_; (with_reducible refine (isoglossref02_Class.calls k a0 t327 _ A2.out).mono ?_); rintro e w' ⟨rfl, ⟨nd, rfl⟩⟩; refine ⟨_, rfl, ?_⟩; have p13 : 0 ≤ (0 : Int) := (by omega); have q13 : 0 < a0.size := (by have : (0 : Int) < (a0.size : Int) := of_decide_eq_true (by first | (with_reducible assumption) | assumption); omega); have hx13 : ∀ h : 0 < a0.size, ((a0[0]'h).toNat : Int) = bt a0 0 := bt_at a0 0; clear p13; have qi13 : (0 < (a0.size : Int)) = True := eq_true (of_decide_eq_true (by first | (with_reducible assumption) | assumption)); replace q13 := eq_true q13; have p15 : 0 ≤ (0 : Int) := (by omega); have q15 : 0 < a0.size := (by have : (0 : Int) < (a0.size : Int) := of_decide_eq_true (by first | (with_reducible assumption) | assumption); omega); have hx15 : ∀ h : 0 < a0.size, ((a0[0]'h).toNat : Int) = bt a0 0 := bt_at a0 0; clear p15; have qi15 : (0 < (a0.size : Int)) = True := eq_true (of_decide_eq_true (by first | (with_reducible assumption) | assumption)); replace q15 := eq_true q15))
      go_ret
      exact ⟨by first | rfl | (simp; done) | (simp [*]; done), by repeat (first | exact Drawn0.refl _ | apply Drawn0.step)⟩
     ·rw [if_neg c14] at H
      have c14b0 : decide (48 ≤ (bt a0 0)) = false := decide_eq_false c14
      clear c14
      obtain rfl := Option.some.inj H
      go_enter Try.func52, Try.ntmps52
      go_wp2_with (first | ((with_reducible refine gate_callee (f := 72) rfl ?_); refine goesL_ (some 4) rfl rfl Try.func72 (by kernel_rfl) rfl #[.string a0] rfl (by (try simp only [List.map_toArray, List.map_cons, List.map_nil]); first | done | rfl | (simp only [List.length_drop, List.length_take]; rfl)) ?_; (with_reducible refine (isoglossref02_Class.calls k a0 t327 _ A2.out).mono ?_); rintro e w' ⟨rfl, ⟨nd, rfl⟩⟩; refine ⟨_, rfl, ?_⟩; have p13 : 0 ≤ (0 : Int) := (by omega); have q13 : 0 < a0.size := (by have : (0 : Int) < (a0.size : Int) := of_decide_eq_true (by first | (with_reducible assumption) | assumption); omega); have hx13 : ∀ h : 0 < a0.size, ((a0[0]'h).toNat : Int) = bt a0 0 := bt_at a0 0; clear p13; have qi13 : (0 < (a0.size : Int)) = True := eq_true (of_decide_eq_true (by first | (with_reducible assumption) | assumption)); replace q13 := eq_true q13))
      go_ret
      exact ⟨by first | rfl | (simp; done) | (simp [*]; done), by repeat (first | exact Drawn0.refl _ | apply Drawn0.step)⟩
    ·rw [if_neg c12] at H
     exact absurd H (by simp)
   ·rw [if_neg c11] at H
    have c11b0 : ((a0.size : Int) == 4) = false := beq_eq_false_iff_ne.mpr c11
    have c11b1 : ((a0.size : Int) != 4) = true := bne_iff_ne.mpr c11
    obtain rfl := Option.some.inj H
    go_enter Try.func52, Try.ntmps52
    go_wp2_with (first | ((with_reducible refine gate_callee (f := 72) rfl ?_); refine goesL_ (some 4) rfl rfl Try.func72 (by kernel_rfl) rfl #[.string a0] rfl (by (try simp only [List.map_toArray, List.map_cons, List.map_nil]); first | done | rfl | (simp only [List.length_drop, List.length_take]; rfl)) ?_; (with_reducible refine (isoglossref02_Class.calls k a0 t327 _ A2.out).mono ?_); rintro e w' ⟨rfl, ⟨nd, rfl⟩⟩; refine ⟨_, rfl, ?_⟩))
    go_ret
    exact ⟨by first | rfl | (simp; done) | (simp [*]; done), by repeat (first | exact Drawn0.refl _ | apply Drawn0.step)⟩

/-! ### isoglossref06_Singleton: function 54 -/
def isoglossref06_Singleton.f (k : Nat) (a0 : ByteArray) : Option (Bool) := if (a0.size : Int) = 1 then ((isoglossref02_Class.f k a0).bind fun t328 => (if t328 > 0 then (if a0.toList = ([120] : List UInt8) then (some false) else (some (a0.toList != ([88] : List UInt8)))) else (some false))) else (some false)
theorem isoglossref06_Singleton.mono : ∀ a0 k, LeO (isoglossref06_Singleton.f k a0) (isoglossref06_Singleton.f (k + 1) a0) := by
 intro a0 k
 unfold isoglossref06_Singleton.f
 repeat' first
   | (with_reducible exact isoglossref02_Class.mono _ _)
   | (with_reducible exact LeO.refl _)
   | (with_reducible exact LeO.none _)
   | (with_reducible refine LeO.ite ?_ ?_)
   | (with_reducible refine LeO.bind ?_ (fun _ => ?_))
   | exact isoglossref02_Class.mono _ _
   | exact LeO.none _
   | refine LeO.ite ?_ ?_
   | refine LeO.bind ?_ (fun _ => ?_)
set_option maxHeartbeats 8000000 in
set_option maxRecDepth 100000 in
theorem isoglossref06_Singleton.calls (k : Nat) (a0 : ByteArray) (r : Bool) (w : World) (h : isoglossref06_Singleton.f k a0 = some r) :
  Calls Try.prog 54 #[.string a0] w fun e w' => e = .returned (.bool r) ∧ Drawn0 w w' := by
 have H : (if (a0.size : Int) = 1 then ((isoglossref02_Class.f k a0).bind fun t328 => (if t328 > 0 then (if a0.toList = ([120] : List UInt8) then (some false) else (some (a0.toList != ([88] : List UInt8)))) else (some false))) else (some false)) = some r := h
 clear h
 by_cases c2 : (a0.size : Int) = 1
 ·rw [if_pos c2] at H
  have c2b0 : ((a0.size : Int) == 1) = true := beq_iff_eq.mpr c2
  have c2b1 : ((a0.size : Int) != 1) = false := bne_eq_false_iff_eq.mpr c2
  clear c2
  replace H := Option.bind_eq_some_iff.mp H
  obtain ⟨t328, A30, H⟩ := H
  replace H : (if t328 > 0 then (if a0.toList = ([120] : List UInt8) then (some false) else (some (a0.toList != ([88] : List UInt8)))) else (some false)) = some r := H
  have A3 := Aside0.mk A30
  clear A30
  by_cases c4 : t328 > 0
  ·rw [if_pos c4] at H
   have c4b0 : decide (0 < t328) = true := decide_eq_true c4
   clear c4
   by_cases c5 : a0.toList = ([120] : List UInt8)
   ·rw [if_pos c5] at H
    have c5b0 : (a0.toList == ([120] : List UInt8)) = true := beq_iff_eq.mpr c5
    have c5b1 : (a0.toList != ([120] : List UInt8)) = false := bne_eq_false_iff_eq.mpr c5
    clear c5
    obtain rfl := Option.some.inj H
    go_enter Try.func54, Try.ntmps54
    go_wp2_with (first | (go_at_call 72; (with_reducible refine (isoglossref02_Class.calls k a0 t328 _ A3.out).mono ?_); rintro e w' ⟨rfl, ⟨nd, rfl⟩⟩))
    go_ret
    exact ⟨by first | rfl | (simp; done) | (simp [*]; done), by repeat (first | exact Drawn0.refl _ | apply Drawn0.step)⟩
   ·rw [if_neg c5] at H
    have c5b0 : (a0.toList == ([120] : List UInt8)) = false := beq_eq_false_iff_ne.mpr c5
    have c5b1 : (a0.toList != ([120] : List UInt8)) = true := bne_iff_ne.mpr c5
    obtain rfl := Option.some.inj H
    go_enter Try.func54, Try.ntmps54
    go_wp2_with (first | (go_at_call 72; (with_reducible refine (isoglossref02_Class.calls k a0 t328 _ A3.out).mono ?_); rintro e w' ⟨rfl, ⟨nd, rfl⟩⟩))
    go_ret
    exact ⟨by first | rfl | (simp; done) | (simp [*]; done), by repeat (first | exact Drawn0.refl _ | apply Drawn0.step)⟩
  ·rw [if_neg c4] at H
   have c4b0 : decide (0 < t328) = false := decide_eq_false c4
   clear c4
   obtain rfl := Option.some.inj H
   go_enter Try.func54, Try.ntmps54
   go_wp2_with (first | (go_at_call 72; (with_reducible refine (isoglossref02_Class.calls k a0 t328 _ A3.out).mono ?_); rintro e w' ⟨rfl, ⟨nd, rfl⟩⟩))
   go_ret
   exact ⟨by first | rfl | (simp; done) | (simp [*]; done), by repeat (first | exact Drawn0.refl _ | apply Drawn0.step)⟩
 ·rw [if_neg c2] at H
  have c2b0 : ((a0.size : Int) == 1) = false := beq_eq_false_iff_ne.mpr c2
  have c2b1 : ((a0.size : Int) != 1) = true := bne_iff_ne.mpr c2
  obtain rfl := Option.some.inj H
  go_enter Try.func54, Try.ntmps54
  go_wp2
  go_ret
  exact ⟨by first | rfl | (simp; done) | (simp [*]; done), by repeat (first | exact Drawn0.refl _ | apply Drawn0.step)⟩

end Go.Proofs.Ytojglflamecnkaa.P
