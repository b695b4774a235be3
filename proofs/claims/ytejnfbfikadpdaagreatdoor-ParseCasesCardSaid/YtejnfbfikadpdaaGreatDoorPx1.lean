-- Written for this claim by the session's own run of the print, functions proved by hand put in.
import Derived.Test.YtejnfbfikadpdaaGreatDoorPx0
namespace Go.Proofs.YtejnfbfikadpdaaGreatDoor.P
open Go.RowKit Go.Proofs.YtejnfbfikadpdaaGreatDoorW.PrintWords Go.Proofs.YtejnfbfikadpdaaGreatDoorW.PrintLast Go.Proofs.YtejnfbfikadpdaaGreatDoorW.PrintMore
open Go.Proofs.YtejnfbfikadpdaaGreatDoorW.PrintWords renaming below_alloc → wA_, pw_below_drewN → wN_, below_drew1 → wD_
attribute [local go_sem] max2_int min2_int max_two min_two max_three min_three max_four min_four   -- for this text's walks alone
set_option linter.unusedVariables false
set_option linter.unusedSimpArgs false
def ascii_lower.f (a0 : Int) : Option (Int) := if a0 ≥ 65 then (if a0 ≤ 90 then (some ((a0 + 32) % 256)) else (some a0)) else (some a0)
set_option maxHeartbeats 8000000 in
set_option maxRecDepth 100000 in
theorem ascii_lower.calls (a0 : Int) (r : Int) (w : World) (h : ascii_lower.f a0 = some r) :
  Calls Tryz.prog 73 #[.int .u8 a0] w fun e w' => e = .returned (.int .u8 r) ∧ Drawn0 w w' := by
 have H : (if a0 ≥ 65 then (if a0 ≤ 90 then (some ((a0 + 32) % 256)) else (some a0)) else (some a0)) = some r := h
 clear h
 by_cases c2 : a0 ≥ 65
 ·rw [if_pos c2] at H
  have c2b0 : decide (65 ≤ a0) = true := decide_eq_true c2
  clear c2
  by_cases c3 : a0 ≤ 90
  ·rw [if_pos c3] at H
   have c3b0 : decide (a0 ≤ 90) = true := decide_eq_true c3
   clear c3
   obtain rfl := Option.some.inj H
   go_enter Tryz.func73, Tryz.ntmps73
   go_wp2
   go_ret
   exact ⟨by first | rfl | (simp; done) | (simp [*]; done), by repeat (first | exact Drawn0.refl _ | apply Drawn0.step)⟩
  ·rw [if_neg c3] at H
   have c3b0 : decide (a0 ≤ 90) = false := decide_eq_false c3
   clear c3
   obtain rfl := Option.some.inj H
   go_enter Tryz.func73, Tryz.ntmps73
   go_wp2
   go_ret
   exact ⟨by first | rfl | (simp; done) | (simp [*]; done), by repeat (first | exact Drawn0.refl _ | apply Drawn0.step)⟩
 ·rw [if_neg c2] at H
  have c2b0 : decide (65 ≤ a0) = false := decide_eq_false c2
  clear c2
  obtain rfl := Option.some.inj H
  go_enter Tryz.func73, Tryz.ntmps73
  go_wp2
  go_ret
  exact ⟨by first | rfl | (simp; done) | (simp [*]; done), by repeat (first | exact Drawn0.refl _ | apply Drawn0.step)⟩
def ascii_order_byte.f (a0 : Int) (a1 : Int) : Option (Int) := if a0 < a1 then (some (-1)) else (if a0 > a1 then (some 1) else (some 0))
set_option maxHeartbeats 8000000 in
set_option maxRecDepth 100000 in
theorem ascii_order_byte.calls (a0 : Int) (a1 : Int) (r : Int) (w : World) (h : ascii_order_byte.f a0 a1 = some r) :
  Calls Tryz.prog 111 #[.int .u8 a0, .int .u8 a1] w fun e w' => e = .returned (.int .i64 r) ∧ Drawn0 w w' := by
 have H : (if a0 < a1 then (some (-1)) else (if a0 > a1 then (some 1) else (some 0))) = some r := h
 clear h
 by_cases c3 : a0 < a1
 ·rw [if_pos c3] at H
  have c3b0 : decide (a0 < a1) = true := decide_eq_true c3
  clear c3
  obtain rfl := Option.some.inj H
  go_enter Tryz.func111, Tryz.ntmps111
  go_wp2
  go_ret
  exact ⟨by first | rfl | (simp; done) | (simp [*]; done), by repeat (first | exact Drawn0.refl _ | apply Drawn0.step)⟩
 ·rw [if_neg c3] at H
  have c3b0 : decide (a0 < a1) = false := decide_eq_false c3
  clear c3
  by_cases c4 : a0 > a1
  ·rw [if_pos c4] at H
   have c4b0 : decide (a1 < a0) = true := decide_eq_true c4
   clear c4
   obtain rfl := Option.some.inj H
   go_enter Tryz.func111, Tryz.ntmps111
   go_wp2
   go_ret
   exact ⟨by first | rfl | (simp; done) | (simp [*]; done), by repeat (first | exact Drawn0.refl _ | apply Drawn0.step)⟩
  ·rw [if_neg c4] at H
   have c4b0 : decide (a1 < a0) = false := decide_eq_false c4
   clear c4
   obtain rfl := Option.some.inj H
   go_enter Tryz.func111, Tryz.ntmps111
   go_wp2
   go_ret
   exact ⟨by first | rfl | (simp; done) | (simp [*]; done), by repeat (first | exact Drawn0.refl _ | apply Drawn0.step)⟩
def ascii_order_int.f (a0 : Int) (a1 : Int) : Option (Int) := if a0 < a1 then (some (-1)) else (if a0 > a1 then (some 1) else (some 0))
set_option maxHeartbeats 8000000 in
set_option maxRecDepth 100000 in
theorem ascii_order_int.calls (a0 : Int) (a1 : Int) (r : Int) (w : World) (h : ascii_order_int.f a0 a1 = some r) :
  Calls Tryz.prog 112 #[.int .i64 a0, .int .i64 a1] w fun e w' => e = .returned (.int .i64 r) ∧ Drawn0 w w' := by
 have H : (if a0 < a1 then (some (-1)) else (if a0 > a1 then (some 1) else (some 0))) = some r := h
 clear h
 by_cases c3 : a0 < a1
 ·rw [if_pos c3] at H
  have c3b0 : decide (a0 < a1) = true := decide_eq_true c3
  clear c3
  obtain rfl := Option.some.inj H
  go_enter Tryz.func112, Tryz.ntmps112
  go_wp2
  go_ret
  exact ⟨by first | rfl | (simp; done) | (simp [*]; done), by repeat (first | exact Drawn0.refl _ | apply Drawn0.step)⟩
 ·rw [if_neg c3] at H
  have c3b0 : decide (a0 < a1) = false := decide_eq_false c3
  clear c3
  by_cases c4 : a0 > a1
  ·rw [if_pos c4] at H
   have c4b0 : decide (a1 < a0) = true := decide_eq_true c4
   clear c4
   obtain rfl := Option.some.inj H
   go_enter Tryz.func112, Tryz.ntmps112
   go_wp2
   go_ret
   exact ⟨by first | rfl | (simp; done) | (simp [*]; done), by repeat (first | exact Drawn0.refl _ | apply Drawn0.step)⟩
  ·rw [if_neg c4] at H
   have c4b0 : decide (a1 < a0) = false := decide_eq_false c4
   clear c4
   obtain rfl := Option.some.inj H
   go_enter Tryz.func112, Tryz.ntmps112
   go_wp2
   go_ret
   exact ⟨by first | rfl | (simp; done) | (simp [*]; done), by repeat (first | exact Drawn0.refl _ | apply Drawn0.step)⟩
def ascii_Compare.l0 : Nat → ByteArray → ByteArray → Int → Int → Option (Int)
 | 0, _, _, _, _ => none
 | k + 1, x0, x1, x11, x12 => if x12 < x11 then (if 0 ≤ x12 then (if x12 < (x0.size : Int) then ((ascii_lower.f (bt x0 x12)).bind fun t102 => (if x12 < (x1.size : Int) then ((ascii_lower.f (bt x1 x12)).bind fun t103 => ((ascii_order_byte.f t102 t103).bind fun t104 => (if t104 = 0 then (ascii_Compare.l0 k x0 x1 x11 (wrap64 (x12 + 1))) else (some t104)))) else (none))) else (none)) else (none)) else ((ascii_order_int.f (x0.size : Int) (x1.size : Int)).bind fun t101 => (some t101))
def ascii_Compare.f (k : Nat) (a0 : ByteArray) (a1 : ByteArray) : Option (Int) := ascii_Compare.l0 k a0 a1 (mn (a0.size : Int) (a1.size : Int)) 0
set_option maxHeartbeats 8000000 in
set_option maxRecDepth 100000 in
theorem ascii_Compare.calls (k : Nat) (a0 : ByteArray) (a1 : ByteArray) (r : Int) (w : World) (h : ascii_Compare.f k a0 a1 = some r) :
  Calls Tryz.prog 69 #[.string a0, .string a1] w fun e w' => e = .returned (.int .i64 r) ∧ Below w.heap.size w w' := by
 have HB := Aside0.mk (Below.refl w.heap.size w)
 have H : (ascii_Compare.l0 k a0 a1 (mn (a0.size : Int) (a1.size : Int)) 0) = some r := h
 clear h
 obtain ⟨ji3, hji3⟩ : ∃ j_ : Int, (mn (a0.size : Int) (a1.size : Int)) = j_ := ⟨_, rfl⟩
 replace H : (ascii_Compare.l0 k a0 a1 ji3 0) = some r := by first | (rw [hji3] at H; exact H) | (simp only [hji3] at H ⊢; exact H)
 (try (have hji3l : 0 ≤ ji3 := by (rw [← hji3]; unfold mn; (repeat' split) <;> omega)))
 (try (have hji3m : 0 ≤ ji3 := by omega))
 have hji3_ : (if (a1.size : Int) < (a0.size : Int) then (a1.size : Int) else (a0.size : Int)) = ji3 := hji3
 have hji3n_ : (if a1.size < a0.size then (a1.size : Int) else (a0.size : Int)) = ji3 := by rw [← hji3_]; simp only [Int.ofNat_lt]
 have H' := Aside0.mk H
 clear H
 go_enter Tryz.func69, Tryz.ntmps69
 go_wp2
 repeat (go_quiet (fail); try go_wp2)
 go_loopg [12] k (fun kq v12 w' => ∃ (x12_1 : Int), v12 = .int .i64 x12_1 ∧ Aside0 (ascii_Compare.l0 kq a0 a1 ji3 x12_1 = some r) ∧ Aside0 (kq ≤ k) ∧ Aside0 (Below w.heap.size w w'))
 case atStart => exact ⟨(0), (by first | rfl | (simp; done) | (simp [*]; done)), H', ⟨Nat.le_refl _⟩, ⟨by repeat (first | (with_reducible first | exact HB.out | apply wA_ | apply wN_ | apply wD_) | exact HB.out)⟩⟩
 case round =>
  clear H'
  try clear p2
  obtain ⟨x12_1, rfl, HA, HK1, HB⟩ := hrel
  cases gk with
  | zero => exact absurd HA.out (by simp [ascii_Compare.l0])
  | succ k1 =>
   have H := HA.out
   clear HA
   simp only [ascii_Compare.l0] at H
   by_cases c4 : x12_1 < ji3
   ·rw [if_pos c4] at H
    have c4b0 : decide (x12_1 < ji3) = true := decide_eq_true c4
    clear c4
    by_cases c5 : 0 ≤ x12_1
    ·rw [if_pos c5] at H
     have c5b0 : decide (0 ≤ x12_1) = true := decide_eq_true c5
     clear c5
     by_cases c6 : x12_1 < (a0.size : Int)
     ·rw [if_pos c6] at H
      have c6b0 : decide (x12_1 < (a0.size : Int)) = true := decide_eq_true c6
      clear c6
      replace H := Option.bind_eq_some_iff.mp H
      obtain ⟨t102, A80, H⟩ := H
      replace H : (if x12_1 < (a1.size : Int) then ((ascii_lower.f (bt a1 x12_1)).bind fun t103 => ((ascii_order_byte.f t102 t103).bind fun t104 => (if t104 = 0 then (ascii_Compare.l0 k1 a0 a1 ji3 (wrap64 (x12_1 + 1))) else (some t104)))) else (none)) = some r := H
      have A8 := Aside0.mk A80
      clear A80
      by_cases c9 : x12_1 < (a1.size : Int)
      ·rw [if_pos c9] at H
       have c9b0 : decide (x12_1 < (a1.size : Int)) = true := decide_eq_true c9
       clear c9
       replace H := Option.bind_eq_some_iff.mp H
       obtain ⟨t103, A110, H⟩ := H
       replace H : ((ascii_order_byte.f t102 t103).bind fun t104 => (if t104 = 0 then (ascii_Compare.l0 k1 a0 a1 ji3 (wrap64 (x12_1 + 1))) else (some t104))) = some r := H
       have A11 := Aside0.mk A110
       clear A110
       replace H := Option.bind_eq_some_iff.mp H
       obtain ⟨t104, A120, H⟩ := H
       replace H : (if t104 = 0 then (ascii_Compare.l0 k1 a0 a1 ji3 (wrap64 (x12_1 + 1))) else (some t104)) = some r := H
       have A12 := Aside0.mk A120
       clear A120
       by_cases c13 : t104 = 0
       ·rw [if_pos c13] at H
        have c13b0 : (t104 == 0) = true := beq_iff_eq.mpr c13
        have c13b1 : (t104 != 0) = false := bne_eq_false_iff_eq.mpr c13
        clear c13
        have H' := Aside0.mk H
        clear H
        have p7 : 0 ≤ (x12_1 : Int) := of_decide_eq_true (by first | (with_reducible assumption) | assumption)
        have q7 : x12_1 < (a0.size : Int) := of_decide_eq_true (by first | (with_reducible assumption) | assumption)
        have hx7 := bt_at a0 x12_1
        replace p7 := eq_true p7
        replace q7 := eq_true q7
        go_wp2_with (first | (go_at_call 73; (with_reducible refine (ascii_lower.calls (bt a0 x12_1) t102 _ A8.out).mono ?_); rintro e w' ⟨rfl, ⟨nd, rfl⟩⟩; (try first | exact ⟨rfl, _, World.drewN_drewN _ _ _⟩ | exact ⟨rfl, _, Eq.trans (World.drewN_drewN _ _ _) (congrArg (World.drewN _) (Nat.add_assoc _ _ _))⟩); have p10 : 0 ≤ (x12_1 : Int) := of_decide_eq_true (by first | (with_reducible assumption) | assumption); have q10 : x12_1 < (a1.size : Int) := of_decide_eq_true (by first | (with_reducible assumption) | assumption); have hx10 := bt_at a1 x12_1; replace p10 := eq_true p10; replace q10 := eq_true q10) | (go_at_call 73; (with_reducible refine (ascii_lower.calls (bt a1 x12_1) t103 _ A11.out).mono ?_); rintro e w' ⟨rfl, ⟨nd, rfl⟩⟩; (try first | exact ⟨rfl, _, World.drewN_drewN _ _ _⟩ | exact ⟨rfl, _, Eq.trans (World.drewN_drewN _ _ _) (congrArg (World.drewN _) (Nat.add_assoc _ _ _))⟩)) | (go_at_call 111; (with_reducible refine (ascii_order_byte.calls t102 t103 t104 _ A12.out).mono ?_); rintro e w' ⟨rfl, ⟨nd, rfl⟩⟩; (try first | exact ⟨rfl, _, World.drewN_drewN _ _ _⟩ | exact ⟨rfl, _, Eq.trans (World.drewN_drewN _ _ _) (congrArg (World.drewN _) (Nat.add_assoc _ _ _))⟩)))
        repeat (go_quiet (first | (go_at_call 73; (with_reducible refine (ascii_lower.calls (bt a0 x12_1) t102 _ A8.out).mono ?_); rintro e w' ⟨rfl, ⟨nd, rfl⟩⟩; (try first | exact ⟨rfl, _, World.drewN_drewN _ _ _⟩ | exact ⟨rfl, _, Eq.trans (World.drewN_drewN _ _ _) (congrArg (World.drewN _) (Nat.add_assoc _ _ _))⟩); have p10 : 0 ≤ (x12_1 : Int) := of_decide_eq_true (by first | (with_reducible assumption) | assumption); have q10 : x12_1 < (a1.size : Int) := of_decide_eq_true (by first | (with_reducible assumption) | assumption); have hx10 := bt_at a1 x12_1; replace p10 := eq_true p10; replace q10 := eq_true q10) | (go_at_call 73; (with_reducible refine (ascii_lower.calls (bt a1 x12_1) t103 _ A11.out).mono ?_); rintro e w' ⟨rfl, ⟨nd, rfl⟩⟩; (try first | exact ⟨rfl, _, World.drewN_drewN _ _ _⟩ | exact ⟨rfl, _, Eq.trans (World.drewN_drewN _ _ _) (congrArg (World.drewN _) (Nat.add_assoc _ _ _))⟩)) | (go_at_call 111; (with_reducible refine (ascii_order_byte.calls t102 t103 t104 _ A12.out).mono ?_); rintro e w' ⟨rfl, ⟨nd, rfl⟩⟩; (try first | exact ⟨rfl, _, World.drewN_drewN _ _ _⟩ | exact ⟨rfl, _, Eq.trans (World.drewN_drewN _ _ _) (congrArg (World.drewN _) (Nat.add_assoc _ _ _))⟩))); try go_wp2_with (first | (go_at_call 73; (with_reducible refine (ascii_lower.calls (bt a0 x12_1) t102 _ A8.out).mono ?_); rintro e w' ⟨rfl, ⟨nd, rfl⟩⟩; (try first | exact ⟨rfl, _, World.drewN_drewN _ _ _⟩ | exact ⟨rfl, _, Eq.trans (World.drewN_drewN _ _ _) (congrArg (World.drewN _) (Nat.add_assoc _ _ _))⟩); have p10 : 0 ≤ (x12_1 : Int) := of_decide_eq_true (by first | (with_reducible assumption) | assumption); have q10 : x12_1 < (a1.size : Int) := of_decide_eq_true (by first | (with_reducible assumption) | assumption); have hx10 := bt_at a1 x12_1; replace p10 := eq_true p10; replace q10 := eq_true q10) | (go_at_call 73; (with_reducible refine (ascii_lower.calls (bt a1 x12_1) t103 _ A11.out).mono ?_); rintro e w' ⟨rfl, ⟨nd, rfl⟩⟩; (try first | exact ⟨rfl, _, World.drewN_drewN _ _ _⟩ | exact ⟨rfl, _, Eq.trans (World.drewN_drewN _ _ _) (congrArg (World.drewN _) (Nat.add_assoc _ _ _))⟩)) | (go_at_call 111; (with_reducible refine (ascii_order_byte.calls t102 t103 t104 _ A12.out).mono ?_); rintro e w' ⟨rfl, ⟨nd, rfl⟩⟩; (try first | exact ⟨rfl, _, World.drewN_drewN _ _ _⟩ | exact ⟨rfl, _, Eq.trans (World.drewN_drewN _ _ _) (congrArg (World.drewN _) (Nat.add_assoc _ _ _))⟩))))
        go_roundg k1
        case measure => have := HK1.out; omega
        case rel => exact ⟨(wrap64 (x12_1 + 1)), (by first | rfl | (simp; done) | (simp [*]; done)), H', ⟨by have := HK1.out; omega⟩, ⟨by repeat (first | (with_reducible first | exact HB.out | apply wA_ | apply wN_ | apply wD_) | exact HB.out)⟩⟩
       ·rw [if_neg c13] at H
        have c13b0 : (t104 == 0) = false := beq_eq_false_iff_ne.mpr c13
        have c13b1 : (t104 != 0) = true := bne_iff_ne.mpr c13
        obtain rfl := Option.some.inj H
        have p7 : 0 ≤ (x12_1 : Int) := of_decide_eq_true (by first | (with_reducible assumption) | assumption)
        have q7 : x12_1 < (a0.size : Int) := of_decide_eq_true (by first | (with_reducible assumption) | assumption)
        have hx7 := bt_at a0 x12_1
        replace p7 := eq_true p7
        replace q7 := eq_true q7
        go_wp2_with (first | (go_at_call 73; (with_reducible refine (ascii_lower.calls (bt a0 x12_1) t102 _ A8.out).mono ?_); rintro e w' ⟨rfl, ⟨nd, rfl⟩⟩; (try first | exact ⟨rfl, _, World.drewN_drewN _ _ _⟩ | exact ⟨rfl, _, Eq.trans (World.drewN_drewN _ _ _) (congrArg (World.drewN _) (Nat.add_assoc _ _ _))⟩); have p10 : 0 ≤ (x12_1 : Int) := of_decide_eq_true (by first | (with_reducible assumption) | assumption); have q10 : x12_1 < (a1.size : Int) := of_decide_eq_true (by first | (with_reducible assumption) | assumption); have hx10 := bt_at a1 x12_1; replace p10 := eq_true p10; replace q10 := eq_true q10) | (go_at_call 73; (with_reducible refine (ascii_lower.calls (bt a1 x12_1) t103 _ A11.out).mono ?_); rintro e w' ⟨rfl, ⟨nd, rfl⟩⟩; (try first | exact ⟨rfl, _, World.drewN_drewN _ _ _⟩ | exact ⟨rfl, _, Eq.trans (World.drewN_drewN _ _ _) (congrArg (World.drewN _) (Nat.add_assoc _ _ _))⟩)) | (go_at_call 111; (with_reducible refine (ascii_order_byte.calls t102 t103 t104 _ A12.out).mono ?_); rintro e w' ⟨rfl, ⟨nd, rfl⟩⟩; (try first | exact ⟨rfl, _, World.drewN_drewN _ _ _⟩ | exact ⟨rfl, _, Eq.trans (World.drewN_drewN _ _ _) (congrArg (World.drewN _) (Nat.add_assoc _ _ _))⟩)))
        repeat (go_quiet (first | (go_at_call 73; (with_reducible refine (ascii_lower.calls (bt a0 x12_1) t102 _ A8.out).mono ?_); rintro e w' ⟨rfl, ⟨nd, rfl⟩⟩; (try first | exact ⟨rfl, _, World.drewN_drewN _ _ _⟩ | exact ⟨rfl, _, Eq.trans (World.drewN_drewN _ _ _) (congrArg (World.drewN _) (Nat.add_assoc _ _ _))⟩); have p10 : 0 ≤ (x12_1 : Int) := of_decide_eq_true (by first | (with_reducible assumption) | assumption); have q10 : x12_1 < (a1.size : Int) := of_decide_eq_true (by first | (with_reducible assumption) | assumption); have hx10 := bt_at a1 x12_1; replace p10 := eq_true p10; replace q10 := eq_true q10) | (go_at_call 73; (with_reducible refine (ascii_lower.calls (bt a1 x12_1) t103 _ A11.out).mono ?_); rintro e w' ⟨rfl, ⟨nd, rfl⟩⟩; (try first | exact ⟨rfl, _, World.drewN_drewN _ _ _⟩ | exact ⟨rfl, _, Eq.trans (World.drewN_drewN _ _ _) (congrArg (World.drewN _) (Nat.add_assoc _ _ _))⟩)) | (go_at_call 111; (with_reducible refine (ascii_order_byte.calls t102 t103 t104 _ A12.out).mono ?_); rintro e w' ⟨rfl, ⟨nd, rfl⟩⟩; (try first | exact ⟨rfl, _, World.drewN_drewN _ _ _⟩ | exact ⟨rfl, _, Eq.trans (World.drewN_drewN _ _ _) (congrArg (World.drewN _) (Nat.add_assoc _ _ _))⟩))); try go_wp2_with (first | (go_at_call 73; (with_reducible refine (ascii_lower.calls (bt a0 x12_1) t102 _ A8.out).mono ?_); rintro e w' ⟨rfl, ⟨nd, rfl⟩⟩; (try first | exact ⟨rfl, _, World.drewN_drewN _ _ _⟩ | exact ⟨rfl, _, Eq.trans (World.drewN_drewN _ _ _) (congrArg (World.drewN _) (Nat.add_assoc _ _ _))⟩); have p10 : 0 ≤ (x12_1 : Int) := of_decide_eq_true (by first | (with_reducible assumption) | assumption); have q10 : x12_1 < (a1.size : Int) := of_decide_eq_true (by first | (with_reducible assumption) | assumption); have hx10 := bt_at a1 x12_1; replace p10 := eq_true p10; replace q10 := eq_true q10) | (go_at_call 73; (with_reducible refine (ascii_lower.calls (bt a1 x12_1) t103 _ A11.out).mono ?_); rintro e w' ⟨rfl, ⟨nd, rfl⟩⟩; (try first | exact ⟨rfl, _, World.drewN_drewN _ _ _⟩ | exact ⟨rfl, _, Eq.trans (World.drewN_drewN _ _ _) (congrArg (World.drewN _) (Nat.add_assoc _ _ _))⟩)) | (go_at_call 111; (with_reducible refine (ascii_order_byte.calls t102 t103 t104 _ A12.out).mono ?_); rintro e w' ⟨rfl, ⟨nd, rfl⟩⟩; (try first | exact ⟨rfl, _, World.drewN_drewN _ _ _⟩ | exact ⟨rfl, _, Eq.trans (World.drewN_drewN _ _ _) (congrArg (World.drewN _) (Nat.add_assoc _ _ _))⟩))))
        go_ret
        exact ⟨by first | rfl | (simp [errW_none, errW_some] <;> rfl) | (simp only [← hji3]; first | rfl | (simp [errW_none, errW_some] <;> rfl)) | (simp [*, errW_none, errW_some] <;> rfl), by repeat (first | (with_reducible first | exact HB.out | apply wA_ | apply wN_ | apply wD_) | exact HB.out)⟩
      ·rw [if_neg c9] at H
       exact absurd H (by simp)
     ·rw [if_neg c6] at H
      exact absurd H (by simp)
    ·rw [if_neg c5] at H
     exact absurd H (by simp)
   ·rw [if_neg c4] at H
    have c4b0 : decide (x12_1 < ji3) = false := decide_eq_false c4
    clear c4
    replace H := Option.bind_eq_some_iff.mp H
    obtain ⟨t101, A140, H⟩ := H
    replace H : (some t101) = some r := H
    have A14 := Aside0.mk A140
    clear A140
    obtain rfl := Option.some.inj H
    go_wp2_with (first | (go_at_call 112; (with_reducible refine (ascii_order_int.calls (a0.size : Int) (a1.size : Int) t101 _ A14.out).mono ?_); rintro e w' ⟨rfl, ⟨nd, rfl⟩⟩; (try first | exact ⟨rfl, _, World.drewN_drewN _ _ _⟩ | exact ⟨rfl, _, Eq.trans (World.drewN_drewN _ _ _) (congrArg (World.drewN _) (Nat.add_assoc _ _ _))⟩)))
    repeat (go_quiet (first | (go_at_call 112; (with_reducible refine (ascii_order_int.calls (a0.size : Int) (a1.size : Int) t101 _ A14.out).mono ?_); rintro e w' ⟨rfl, ⟨nd, rfl⟩⟩; (try first | exact ⟨rfl, _, World.drewN_drewN _ _ _⟩ | exact ⟨rfl, _, Eq.trans (World.drewN_drewN _ _ _) (congrArg (World.drewN _) (Nat.add_assoc _ _ _))⟩))); try go_wp2_with (first | (go_at_call 112; (with_reducible refine (ascii_order_int.calls (a0.size : Int) (a1.size : Int) t101 _ A14.out).mono ?_); rintro e w' ⟨rfl, ⟨nd, rfl⟩⟩; (try first | exact ⟨rfl, _, World.drewN_drewN _ _ _⟩ | exact ⟨rfl, _, Eq.trans (World.drewN_drewN _ _ _) (congrArg (World.drewN _) (Nat.add_assoc _ _ _))⟩))))
    go_ret
    exact ⟨by first | rfl | (simp [errW_none, errW_some] <;> rfl) | (simp only [← hji3]; first | rfl | (simp [errW_none, errW_some] <;> rfl)) | (simp [*, errW_none, errW_some] <;> rfl), by repeat (first | (with_reducible first | exact HB.out | apply wA_ | apply wN_ | apply wD_) | exact HB.out)⟩
def ascii_Same.f (k : Nat) (a0 : ByteArray) (a1 : ByteArray) : Option (Bool) := (ascii_Compare.f k a0 a1).bind fun t105 => (some (t105 == 0))
set_option maxHeartbeats 8000000 in
set_option maxRecDepth 100000 in
theorem ascii_Same.calls (k : Nat) (a0 : ByteArray) (a1 : ByteArray) (r : Bool) (w : World) (h : ascii_Same.f k a0 a1 = some r) :
  Calls Tryz.prog 70 #[.string a0, .string a1] w fun e w' => e = .returned (.bool r) ∧ Below w.heap.size w w' := by
 have HB := Aside0.mk (Below.refl w.heap.size w)
 have H : ((ascii_Compare.f k a0 a1).bind fun t105 => (some (t105 == 0))) = some r := h
 clear h
 replace H := Option.bind_eq_some_iff.mp H
 obtain ⟨t105, A30, H⟩ := H
 replace H : (some (t105 == 0)) = some r := H
 have A3 := Aside0.mk A30
 clear A30
 obtain rfl := Option.some.inj H
 go_enter Tryz.func70, Tryz.ntmps70
 go_wp2_with (first | ((with_reducible refine gate_callee (f := 69) rfl ?_); refine goesL_ (some 7) rfl rfl Tryz.func69 (by kernel_rfl) rfl #[.string a0, .string a1] rfl (by (try simp only [List.map_toArray, List.map_cons, List.map_nil]); first | done | rfl | (simp only [List.length_drop, List.length_take]; rfl)) ?_; (with_reducible refine (ascii_Compare.calls k a0 a1 t105 _ A3.out).mono ?_); rintro e w4 ⟨rfl, hb⟩; refine ⟨_, rfl, ?_⟩; have n0_ := Aside0.mk (below_step (by repeat (first | (with_reducible first | exact HB.out | apply wA_ | apply wN_ | apply wD_) | exact HB.out)) hb); clear HB; have HB := n0_; clear n0_; (try clear hb); (try clear hb2); (try clear hk); (try clear hi)))
 go_ret
 exact ⟨by first | rfl | (simp [errW_none, errW_some] <;> rfl) | (simp [*, errW_none, errW_some] <;> rfl), by repeat (first | (with_reducible first | exact HB.out | apply wA_ | apply wN_ | apply wD_) | exact HB.out)⟩
end Go.Proofs.YtejnfbfikadpdaaGreatDoor.P
