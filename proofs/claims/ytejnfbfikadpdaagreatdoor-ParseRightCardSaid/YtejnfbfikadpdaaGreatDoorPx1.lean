-- Written for this claim by the session's own run of the print, functions proved by hand put in.
import Derived.Test.YtejnfbfikadpdaaGreatDoorSq
import Derived.Test.YtejnfbfikadpdaaGreatDoorPx0
namespace Go.Proofs.YtejnfbfikadpdaaGreatDoor.P
open Go.RowKit Go.Proofs.YtejnfbfikadpdaaGreatDoorW.PrintWords Go.Proofs.YtejnfbfikadpdaaGreatDoorW.PrintLast Go.Proofs.YtejnfbfikadpdaaGreatDoorW.PrintMore
attribute [local go_sem] max2_int min2_int max_two min_two max_three min_three max_four min_four   -- for this text's walks alone
set_option linter.unusedVariables false
set_option linter.unusedSimpArgs false
def ascii_lower.f (a0 : Int) : Option (Int) := if a0 ≥ 65 then (if a0 ≤ 90 then (some ((a0 + 32) % 256)) else (some a0)) else (some a0)
set_option maxHeartbeats 8000000 in
set_option maxRecDepth 100000 in
theorem ascii_lower.calls (a0 : Int) (r : Int) (w : World) (h : ascii_lower.f a0 = some r) :
  Calls Tryz.prog 73 #[.int .u8 a0] w fun e w' => e = .returned (.int .u8 r) ∧ Drawn0 w w' := by
 have H := h; unfold ascii_lower.f at H
 clear h
 by_cases c2 : a0 ≥ 65
 ·rw [if_pos c2] at H
  have ao : decide (65 ≤ a0) = true := decide_eq_true c2
  clear c2
  by_cases c3 : a0 ≤ 90
  ·rw [if_pos c3] at H
   have af : decide (a0 ≤ 90) = true := decide_eq_true c3
   clear c3
   obtain rfl := Option.some.inj H
   go_enter Tryz.func73, Tryz.ntmps73
   go_wp2
   go_ret
   exact ⟨Qs, Q0⟩
  ·rw [if_neg c3] at H
   have af : decide (a0 ≤ 90) = false := decide_eq_false c3
   clear c3
   obtain rfl := Option.some.inj H
   go_enter Tryz.func73, Tryz.ntmps73
   go_wp2
   go_ret
   exact ⟨Qs, Q0⟩
 ·rw [if_neg c2] at H
  have ao : decide (65 ≤ a0) = false := decide_eq_false c2
  clear c2
  obtain rfl := Option.some.inj H
  go_enter Tryz.func73, Tryz.ntmps73
  go_wp2
  go_ret
  exact ⟨Qs, Q0⟩
def ascii_order_byte.f (a0 : Int) (a1 : Int) : Option (Int) := if a0 < a1 then (some (-1)) else (if a0 > a1 then (some 1) else (some 0))
set_option maxHeartbeats 8000000 in
set_option maxRecDepth 100000 in
theorem ascii_order_byte.calls (a0 : Int) (a1 : Int) (r : Int) (w : World) (h : ascii_order_byte.f a0 a1 = some r) :
  Calls Tryz.prog 111 #[.int .u8 a0, .int .u8 a1] w fun e w' => e = .returned (.int .i64 r) ∧ Drawn0 w w' := by
 have H := h; unfold ascii_order_byte.f at H
 clear h
 by_cases c3 : a0 < a1
 ·rw [if_pos c3] at H
  have af : decide (a0 < a1) = true := decide_eq_true c3
  clear c3
  obtain rfl := Option.some.inj H
  go_enter Tryz.func111, Tryz.ntmps111
  go_wp2
  go_ret
  exact ⟨Qs, Q0⟩
 ·rw [if_neg c3] at H
  have af : decide (a0 < a1) = false := decide_eq_false c3
  clear c3
  by_cases c4 : a0 > a1
  ·rw [if_pos c4] at H
   have ag : decide (a1 < a0) = true := decide_eq_true c4
   clear c4
   obtain rfl := Option.some.inj H
   go_enter Tryz.func111, Tryz.ntmps111
   go_wp2
   go_ret
   exact ⟨Qs, Q0⟩
  ·rw [if_neg c4] at H
   have ag : decide (a1 < a0) = false := decide_eq_false c4
   clear c4
   obtain rfl := Option.some.inj H
   go_enter Tryz.func111, Tryz.ntmps111
   go_wp2
   go_ret
   exact ⟨Qs, Q0⟩
def ascii_order_int.f (a0 : Int) (a1 : Int) : Option (Int) := if a0 < a1 then (some (-1)) else (if a0 > a1 then (some 1) else (some 0))
set_option maxHeartbeats 8000000 in
set_option maxRecDepth 100000 in
theorem ascii_order_int.calls (a0 : Int) (a1 : Int) (r : Int) (w : World) (h : ascii_order_int.f a0 a1 = some r) :
  Calls Tryz.prog 112 #[.int .i64 a0, .int .i64 a1] w fun e w' => e = .returned (.int .i64 r) ∧ Drawn0 w w' := by
 have H := h; unfold ascii_order_int.f at H
 clear h
 by_cases c3 : a0 < a1
 ·rw [if_pos c3] at H
  have af : decide (a0 < a1) = true := decide_eq_true c3
  clear c3
  obtain rfl := Option.some.inj H
  go_enter Tryz.func112, Tryz.ntmps112
  go_wp2
  go_ret
  exact ⟨Qs, Q0⟩
 ·rw [if_neg c3] at H
  have af : decide (a0 < a1) = false := decide_eq_false c3
  clear c3
  by_cases c4 : a0 > a1
  ·rw [if_pos c4] at H
   have ag : decide (a1 < a0) = true := decide_eq_true c4
   clear c4
   obtain rfl := Option.some.inj H
   go_enter Tryz.func112, Tryz.ntmps112
   go_wp2
   go_ret
   exact ⟨Qs, Q0⟩
  ·rw [if_neg c4] at H
   have ag : decide (a1 < a0) = false := decide_eq_false c4
   clear c4
   obtain rfl := Option.some.inj H
   go_enter Tryz.func112, Tryz.ntmps112
   go_wp2
   go_ret
   exact ⟨Qs, Q0⟩
def ascii_Compare.l0 : Nat → ByteArray → ByteArray → Int → Int → Option (Int)
 | 0, _, _, _, _ => none
 | k + 1, x0, x1, x11, x12 => if x12 < x11 then (if 0 ≤ x12 then (if x12 < (x0.size : Int) then ((ascii_lower.f (bt x0 x12)).bind fun ac => (if x12 < (x1.size : Int) then ((ascii_lower.f (bt x1 x12)).bind fun ad => ((ascii_order_byte.f ac ad).bind fun ab => (if ab = 0 then (ascii_Compare.l0 k x0 x1 x11 (wrap64 (x12 + 1))) else (some ab)))) else (none))) else (none)) else (none)) else ((ascii_order_int.f (x0.size : Int) (x1.size : Int)).bind fun ah => (some ah))
def ascii_Compare.f (k : Nat) (a0 : ByteArray) (a1 : ByteArray) : Option (Int) := ascii_Compare.l0 k a0 a1 (mn (a0.size : Int) (a1.size : Int)) 0
set_option maxHeartbeats 8000000 in
set_option maxRecDepth 100000 in
theorem ascii_Compare.calls (k : Nat) (a0 : ByteArray) (a1 : ByteArray) (r : Int) (w : World) (h : ascii_Compare.f k a0 a1 = some r) :
  Calls Tryz.prog 69 #[.string a0, .string a1] w fun e w' => e = .returned (.int .i64 r) ∧ Below w.heap.size w w' := by
 have HB := Aside0.mk (Below.refl w.heap.size w)
 have H : (ascii_Compare.l0 k a0 a1 (mn (a0.size : Int) (a1.size : Int)) 0) = some r := h
 clear h
 obtain ⟨ji3, hji3⟩ : ∃ j_ : Int, (mn (a0.size : Int) (a1.size : Int)) = j_ := ⟨_, rfl⟩
 replace H : (ascii_Compare.l0 k a0 a1 ji3 0) = some r := by first | (rw [hji3] at H; exact H) | (simp only [hji3] at H ⊢; exact H)
 (try (have hji3l : 0 ≤ ji3 := by (rw [← hji3]; unfold mn; (repeat' split) <;> omega)))
 (try (have hji3m : 0 ≤ ji3 := by omega))
 have hji3_ : (if (a1.size : Int) < (a0.size : Int) then (a1.size : Int) else (a0.size : Int)) = ji3 := hji3
 have hji3n_ : (if a1.size < a0.size then (a1.size : Int) else (a0.size : Int)) = ji3 := by rw [← hji3_]; simp only [Int.ofNat_lt]
 have H' := Aside0.mk H
 clear H
 go_enter Tryz.func69, Tryz.ntmps69
 go_wp2
 go_loopg [12] k (fun kq v12 w' => ∃ (aa : Int), v12 = .int .i64 aa ∧ Aside0 (ascii_Compare.l0 kq a0 a1 ji3 aa = some r) ∧ Aside0 (kq ≤ k) ∧ Aside0 (Below w.heap.size w w'))
 case atStart => exact ⟨(0), Qs, H', ⟨Nat.le_refl _⟩, ⟨Qw HB.out⟩⟩
 case round =>
  clear H'
  obtain ⟨aa, rfl, HA, HK1, HB⟩ := hrel
  cases gk with
  | zero => exact absurd HA.out (by simp [ascii_Compare.l0])
  | succ k1 =>
   have H := HA.out
   clear HA
   simp only [ascii_Compare.l0] at H
   by_cases c4 : aa < ji3
   ·rw [if_pos c4] at H
    have ag : decide (aa < ji3) = true := decide_eq_true c4
    clear c4
    by_cases c5 : 0 ≤ aa
    ·rw [if_pos c5] at H
     have ax : decide (0 ≤ aa) = true := decide_eq_true c5
     clear c5
     by_cases c6 : aa < (a0.size : Int)
     ·rw [if_pos c6] at H
      have ay : decide (aa < (a0.size : Int)) = true := decide_eq_true c6
      clear c6
      replace H := Option.bind_eq_some_iff.mp H
      obtain ⟨ac, ap, H⟩ := H
      try dsimp only at H
      have A8 := Aside0.mk ap
      clear ap
      by_cases c9 : aa < (a1.size : Int)
      ·rw [if_pos c9] at H
       have az : decide (aa < (a1.size : Int)) = true := decide_eq_true c9
       clear c9
       replace H := Option.bind_eq_some_iff.mp H
       obtain ⟨ad, ai, H⟩ := H
       try dsimp only at H
       have aq := Aside0.mk ai
       clear ai
       replace H := Option.bind_eq_some_iff.mp H
       obtain ⟨ab, aj, H⟩ := H
       try dsimp only at H
       have ar := Aside0.mk aj
       clear aj
       by_cases c13 : ab = 0
       ·rw [if_pos c13] at H
        have ak : (ab == 0) = true := beq_iff_eq.mpr c13
        have al : (ab != 0) = false := bne_eq_false_iff_eq.mpr c13
        clear c13
        have H' := Aside0.mk H
        clear H
        have p7 : 0 ≤ (aa : Int) := of_decide_eq_true Qa
        have q7 : aa < (a0.size : Int) := of_decide_eq_true Qa
        have hx7 := bt_at a0 aa
        replace p7 := eq_true p7
        replace q7 := eq_true q7
        go_wp2_with (fail)
        repeat (go_quiet (first | (go_at_call 73; (with_reducible refine (ascii_lower.calls (bt a0 aa) ac _ A8.out).mono ?_); rintro e w' ⟨rfl, ⟨nd, rfl⟩⟩; (try exact Qd); have p10 : 0 ≤ (aa : Int) := of_decide_eq_true Qa; have q10 : aa < (a1.size : Int) := of_decide_eq_true Qa; have hx10 := bt_at a1 aa; replace p10 := eq_true p10; replace q10 := eq_true q10) | (go_at_call 73; (with_reducible refine (ascii_lower.calls (bt a1 aa) ad _ aq.out).mono ?_); rintro e w' ⟨rfl, ⟨nd, rfl⟩⟩; (try exact Qd)) | (go_at_call 111; (with_reducible refine (ascii_order_byte.calls ac ad ab _ ar.out).mono ?_); rintro e w' ⟨rfl, ⟨nd, rfl⟩⟩; (try exact Qd))); try go_wp2_with (fail))
        go_roundg k1
        case measure => have := HK1.out; omega
        case rel => exact ⟨(wrap64 (aa + 1)), Qs, H', ⟨by have := HK1.out; omega⟩, ⟨Qw HB.out⟩⟩
       ·rw [if_neg c13] at H
        have ak : (ab == 0) = false := beq_eq_false_iff_ne.mpr c13
        have al : (ab != 0) = true := bne_iff_ne.mpr c13
        obtain rfl := Option.some.inj H
        have p7 : 0 ≤ (aa : Int) := of_decide_eq_true Qa
        have q7 : aa < (a0.size : Int) := of_decide_eq_true Qa
        have hx7 := bt_at a0 aa
        replace p7 := eq_true p7
        replace q7 := eq_true q7
        go_wp2_with (fail)
        repeat (go_quiet (first | (go_at_call 73; (with_reducible refine (ascii_lower.calls (bt a0 aa) ac _ A8.out).mono ?_); rintro e w' ⟨rfl, ⟨nd, rfl⟩⟩; (try exact Qd); have p10 : 0 ≤ (aa : Int) := of_decide_eq_true Qa; have q10 : aa < (a1.size : Int) := of_decide_eq_true Qa; have hx10 := bt_at a1 aa; replace p10 := eq_true p10; replace q10 := eq_true q10) | (go_at_call 73; (with_reducible refine (ascii_lower.calls (bt a1 aa) ad _ aq.out).mono ?_); rintro e w' ⟨rfl, ⟨nd, rfl⟩⟩; (try exact Qd)) | (go_at_call 111; (with_reducible refine (ascii_order_byte.calls ac ad ab _ ar.out).mono ?_); rintro e w' ⟨rfl, ⟨nd, rfl⟩⟩; (try exact Qd))); try go_wp2_with (fail))
        go_ret
        exact ⟨by first | rfl | (simp [errW_none, errW_some] <;> rfl) | (simp only [← hji3]; first | rfl | (simp [errW_none, errW_some] <;> rfl)) | (simp [*, errW_none, errW_some] <;> rfl), Qw HB.out⟩
      ·rw [if_neg c9] at H
       exact absurd H (by simp)
     ·rw [if_neg c6] at H
      exact absurd H (by simp)
    ·rw [if_neg c5] at H
     exact absurd H (by simp)
   ·rw [if_neg c4] at H
    have ag : decide (aa < ji3) = false := decide_eq_false c4
    clear c4
    replace H := Option.bind_eq_some_iff.mp H
    obtain ⟨ah, am, H⟩ := H
    replace H : (some ah) = some r := H
    have au := Aside0.mk am
    clear am
    obtain rfl := Option.some.inj H
    go_wp2_with (first | (go_at_call 112; (with_reducible refine (ascii_order_int.calls (a0.size : Int) (a1.size : Int) ah _ au.out).mono ?_); rintro e w' ⟨rfl, ⟨nd, rfl⟩⟩; (try exact Qd)))
    repeat (go_quiet (first | (go_at_call 112; (with_reducible refine (ascii_order_int.calls (a0.size : Int) (a1.size : Int) ah _ au.out).mono ?_); rintro e w' ⟨rfl, ⟨nd, rfl⟩⟩; (try exact Qd))); try go_wp2_with (fail))
    go_ret
    exact ⟨by first | rfl | (simp [errW_none, errW_some] <;> rfl) | (simp only [← hji3]; first | rfl | (simp [errW_none, errW_some] <;> rfl)) | (simp [*, errW_none, errW_some] <;> rfl), Qw HB.out⟩
def ascii_Same.f (k : Nat) (a0 : ByteArray) (a1 : ByteArray) : Option (Bool) := (ascii_Compare.f k a0 a1).bind fun ae => (some (ae == 0))
set_option maxHeartbeats 8000000 in
set_option maxRecDepth 100000 in
theorem ascii_Same.calls (k : Nat) (a0 : ByteArray) (a1 : ByteArray) (r : Bool) (w : World) (h : ascii_Same.f k a0 a1 = some r) :
  Calls Tryz.prog 70 #[.string a0, .string a1] w fun e w' => e = .returned (.bool r) ∧ Below w.heap.size w w' := by
 have HB := Aside0.mk (Below.refl w.heap.size w)
 have H : ((ascii_Compare.f k a0 a1).bind fun ae => (some (ae == 0))) = some r := h
 clear h
 replace H := Option.bind_eq_some_iff.mp H
 obtain ⟨ae, av, H⟩ := H
 replace H : (some (ae == 0)) = some r := H
 have A3 := Aside0.mk av
 clear av
 obtain rfl := Option.some.inj H
 go_enter Tryz.func70, Tryz.ntmps70
 go_wp2_with (first | ((with_reducible refine gate_callee (f := 69) rfl ?_); refine goesL_ (some 7) rfl rfl Tryz.func69 (by kernel_rfl) rfl #[.string a0, .string a1] rfl Qm ?_; (with_reducible refine (ascii_Compare.calls k a0 a1 ae _ A3.out).mono ?_); rintro e w4 ⟨rfl, hb⟩; refine ⟨_, rfl, ?_⟩; have aw := Aside0.mk (below_step (Qw HB.out) hb); clear HB; have HB := aw; clear aw; (try clear hb); (try clear hk)))
 go_ret
 exact ⟨Qe, Qw HB.out⟩
end Go.Proofs.YtejnfbfikadpdaaGreatDoor.P
