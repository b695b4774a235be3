-- Written for this claim by the session's own run of the print, functions proved by hand put in.
import Derived.Test.YtljadeeoaoiilaaGreatDoorSq
import Derived.Test.YtljadeeoaoiilaaGreatDoorPx0
namespace Go.Proofs.YtljadeeoaoiilaaGreatDoor.P
open Go.RowKit Go.Proofs.YtljadeeoaoiilaaGreatDoorW.PrintWords Go.Proofs.YtljadeeoaoiilaaGreatDoorW.PrintLast Go.Proofs.YtljadeeoaoiilaaGreatDoorW.PrintMore
open Go.Proofs.YtljadeeoaoiilaaGreatDoorW.PrintWords renaming below_alloc → wA_, pw_below_drewN → wN_, below_drew1 → wD_
open Go.Proofs.YtljadeeoaoiilaaGreatDoorW.PrintWords.Kd renaming R_alloc → rA_, R_drewN → rN_, R_drew → rD_
attribute [local go_sem] max2_int min2_int max_two min_two max_three min_three max_four min_four   -- for this text's walks alone
set_option linter.unusedVariables false
set_option linter.unusedSimpArgs false
mutual
def ascii_kind.j0 : Nat → Int → Bool → Option (Int)
 | 0, _, _ => none
 | k + 1, x0, x3 => if x3 = true then (some 1) else (if x0 ≥ 97 then (ascii_kind.j1 k x0 (decide (x0 ≤ 122))) else (ascii_kind.j1 k x0 false))
def ascii_kind.j1 : Nat → Int → Bool → Option (Int)
 | 0, _, _ => none
 | k + 1, x0, x10 => if x10 = true then (some 1) else (if x0 ≥ 48 then (if x0 ≤ 57 then (some 2) else (some 0)) else (some 0))
end
def ascii_kind.f (k : Nat) (a0 : Int) : Option (Int) := if a0 ≥ 65 then (ascii_kind.j0 k a0 (decide (a0 ≤ 90))) else (ascii_kind.j0 k a0 false)
set_option maxHeartbeats 8000000 in
set_option maxRecDepth 100000 in
theorem ascii_kind.calls (k : Nat) (a0 : Int) (r : Int) (w : World) (h : ascii_kind.f k a0 = some r) :
  Calls Tryz.prog 101 #[.int .u8 a0] w fun e w' => e = .returned (.int .i64 r) ∧ Drawn0 w w' := by
 have H := h; unfold ascii_kind.f at H
 clear h
 have aM := Aside0.mk H
 clear H
 go_enter Tryz.func101, Tryz.ntmps101
 go_upto_region 1 with (fail)
 go_cut [3] (fun v3 wc => ∃ (kq : Nat) (ac : Bool), v3 = .bool ac ∧ Aside0 (ascii_kind.j0 kq a0 ac = some r) ∧ Aside0 (kq ≤ k) ∧ Drawn0 w wc)
 case first =>
  have H := aM.out
  clear aM
  by_cases c3 : a0 ≥ 65
  ·rw [if_pos c3] at H
   have ae : decide (65 ≤ a0) = true := decide_eq_true c3
   clear c3
   (first | rw [ae] | (simp only [i64_w, i32_w]; rw [ae]) | skip)
   have H' := Aside0.mk H
   clear H
   go_wp2
   go_meet
   case rel => exact ⟨_, (decide (a0 ≤ 90)), Qs, H', ⟨by first | omega | exact Nat.le_refl _⟩, Q0⟩
  ·rw [if_neg c3] at H
   have ae : decide (65 ≤ a0) = false := decide_eq_false c3
   clear c3
   (first | rw [ae] | (simp only [i64_w, i32_w]; rw [ae]) | skip)
   have H' := Aside0.mk H
   clear H
   go_wp2
   go_meet
   case rel => exact ⟨_, (false), Qs, H', ⟨by first | omega | exact Nat.le_refl _⟩, Q0⟩
 case rest =>
  clear aM
  obtain ⟨kq, ac, rfl, HA, HJ1, ⟨mc1, rfl⟩⟩ := hcut
  cases kq with
  | zero => exact absurd HA.out (by simp [ascii_kind.j0])
  | succ kj1 =>
   have H := HA.out
   clear HA
   simp only [ascii_kind.j0] at H
   by_cases c4 : ac = true
   ·subst c4
    rw [if_pos rfl] at H
    obtain rfl := Option.some.inj H
    go_wp2
    go_ret
    exact ⟨Qs, Q0⟩
   ·replace c4 := Bool.eq_false_iff.mpr c4
    subst c4
    rw [if_neg (show ¬ (false = true) by decide)] at H
    have aN := Aside0.mk H
    clear H
    go_upto_region 2 with (fail)
    go_cut [10] (fun v10 wc => ∃ (kq : Nat) (ah : Bool), v10 = .bool ah ∧ Aside0 (ascii_kind.j1 kq a0 ah = some r) ∧ Aside0 (kq ≤ kj1) ∧ Drawn0 w wc)
    case first =>
     have H := aN.out
     clear aN
     by_cases c6 : a0 ≥ 97
     ·rw [if_pos c6] at H
      have ag : decide (97 ≤ a0) = true := decide_eq_true c6
      clear c6
      (first | rw [ag] | (simp only [i64_w, i32_w]; rw [ag]) | skip)
      have H' := Aside0.mk H
      clear H
      go_wp2
      go_meet
      case rel => exact ⟨_, (decide (a0 ≤ 122)), Qs, H', ⟨by have := HJ1.out; first | omega | exact Nat.le_refl _⟩, Q0⟩
     ·rw [if_neg c6] at H
      have ag : decide (97 ≤ a0) = false := decide_eq_false c6
      clear c6
      (first | rw [ag] | (simp only [i64_w, i32_w]; rw [ag]) | skip)
      have H' := Aside0.mk H
      clear H
      go_wp2
      go_meet
      case rel => exact ⟨_, (false), Qs, H', ⟨by have := HJ1.out; first | omega | exact Nat.le_refl _⟩, Q0⟩
    case rest =>
     clear aN
     obtain ⟨kq, ah, rfl, HA, HJ4, ⟨mc4, rfl⟩⟩ := hcut
     cases kq with
     | zero => exact absurd HA.out (by simp [ascii_kind.j1])
     | succ kj4 =>
      have H := HA.out
      clear HA
      simp only [ascii_kind.j1] at H
      by_cases c7 : ah = true
      ·subst c7
       rw [if_pos rfl] at H
       obtain rfl := Option.some.inj H
       go_wp2
       go_ret
       exact ⟨Qs, Q0⟩
      ·replace c7 := Bool.eq_false_iff.mpr c7
       subst c7
       rw [if_neg (show ¬ (false = true) by decide)] at H
       by_cases c8 : a0 ≥ 48
       ·rw [if_pos c8] at H
        have aD : decide (48 ≤ a0) = true := decide_eq_true c8
        clear c8
        by_cases c9 : a0 ≤ 57
        ·rw [if_pos c9] at H
         have aQ : decide (a0 ≤ 57) = true := decide_eq_true c9
         clear c9
         obtain rfl := Option.some.inj H
         go_wp2
         go_ret
         exact ⟨Qs, Q0⟩
        ·rw [if_neg c9] at H
         have aQ : decide (a0 ≤ 57) = false := decide_eq_false c9
         clear c9
         obtain rfl := Option.some.inj H
         go_wp2
         go_ret
         exact ⟨Qs, Q0⟩
       ·rw [if_neg c8] at H
        have aD : decide (48 ≤ a0) = false := decide_eq_false c8
        clear c8
        obtain rfl := Option.some.inj H
        go_wp2
        go_ret
        exact ⟨Qs, Q0⟩
def ascii_Class.l0 : Nat → ByteArray → Int → Int → Int → Option (Int)
 | 0, _, _, _, _ => none
 | k + 1, x0, x3, x7, x8 => if x8 < x7 then (if 0 ≤ x8 then (if x8 < (x0.size : Int) then ((ascii_kind.f k (bt x0 x8)).bind fun ad => (if ad = 0 then (some 0) else (ascii_Class.l0 k x0 (Go.bits .or .i64 x3 ad) x7 (wrap64 (x8 + 1))))) else (none)) else (none)) else (some x3)
def ascii_Class.f (k : Nat) (a0 : ByteArray) : Option (Int) := ascii_Class.l0 k a0 0 (a0.size : Int) 0
set_option maxHeartbeats 8000000 in
set_option maxRecDepth 100000 in
theorem ascii_Class.calls (k : Nat) (a0 : ByteArray) (r : Int) (w : World) (h : ascii_Class.f k a0 = some r) :
  Calls Tryz.prog 84 #[.string a0] w fun e w' => e = .returned (.int .i64 r) ∧ Drawn0 w w' := by
 have H : (ascii_Class.l0 k a0 0 (a0.size : Int) 0) = some r := h
 clear h
 have H' := Aside0.mk H
 clear H
 go_enter Tryz.func84, Tryz.ntmps84
 go_wp2
 go_loopg [3, 8] k (fun kq v3 v8 w' => ∃ (ac : Int) (aa : Int), v3 = .int .i64 ac ∧ v8 = .int .i64 aa ∧ Aside0 (ascii_Class.l0 kq a0 ac (a0.size : Int) aa = some r) ∧ Aside0 (kq ≤ k) ∧ Drawn0 w w')
 case atStart => exact ⟨(0), (0), Qs, Qs, H', ⟨Nat.le_refl _⟩, Q0⟩
 case round =>
  clear H'
  obtain ⟨ac, aa, rfl, rfl, HA, HK1, ⟨m1, rfl⟩⟩ := hrel
  cases gk with
  | zero => exact absurd HA.out (by simp [ascii_Class.l0])
  | succ k1 =>
   have H := HA.out
   clear HA
   simp only [ascii_Class.l0] at H
   by_cases c2 : aa < (a0.size : Int)
   ·rw [if_pos c2] at H
    have ap : decide (aa < (a0.size : Int)) = true := decide_eq_true c2
    clear c2
    by_cases c3 : 0 ≤ aa
    ·rw [if_pos c3] at H
     have ae : decide (0 ≤ aa) = true := decide_eq_true c3
     clear c3
     by_cases c4 : aa < (a0.size : Int)
     ·rw [if_pos c4] at H
      have aj : decide (aa < (a0.size : Int)) = true := decide_eq_true c4
      clear c4
      replace H := Option.bind_eq_some_iff.mp H
      obtain ⟨ad, aV, H⟩ := H
      try dsimp only at H
      have A6 := Aside0.mk aV
      clear aV
      by_cases c7 : ad = 0
      ·rw [if_pos c7] at H
       have aE : (ad == 0) = true := beq_iff_eq.mpr c7
       have aG : (ad != 0) = false := bne_eq_false_iff_eq.mpr c7
       clear c7
       obtain rfl := Option.some.inj H
       have p5 : 0 ≤ (aa : Int) := of_decide_eq_true Qa
       have q5 : aa < (a0.size : Int) := of_decide_eq_true Qa
       have hx5 := bt_at a0 aa
       replace p5 := eq_true p5
       replace q5 := eq_true q5
       go_wp2_with (first | ((with_reducible refine gate_callee (f := 101) rfl ?_); refine goesL_ (some 14) rfl rfl Tryz.func101 (by kernel_rfl) rfl #[.int .u8 (bt a0 aa)] rfl Qm ?_; (with_reducible refine (ascii_kind.calls k1 (bt a0 aa) ad _ A6.out).mono ?_); rintro e w' ⟨rfl, ⟨nd, rfl⟩⟩; refine ⟨_, rfl, ?_⟩))
       go_ret
       exact ⟨Qs, Q0⟩
      ·rw [if_neg c7] at H
       have aE : (ad == 0) = false := beq_eq_false_iff_ne.mpr c7
       have aG : (ad != 0) = true := bne_iff_ne.mpr c7
       have H' := Aside0.mk H
       clear H
       have p5 : 0 ≤ (aa : Int) := of_decide_eq_true Qa
       have q5 : aa < (a0.size : Int) := of_decide_eq_true Qa
       have hx5 := bt_at a0 aa
       replace p5 := eq_true p5
       replace q5 := eq_true q5
       go_wp2_with (first | ((with_reducible refine gate_callee (f := 101) rfl ?_); refine goesL_ (some 14) rfl rfl Tryz.func101 (by kernel_rfl) rfl #[.int .u8 (bt a0 aa)] rfl Qm ?_; (with_reducible refine (ascii_kind.calls k1 (bt a0 aa) ad _ A6.out).mono ?_); rintro e w' ⟨rfl, ⟨nd, rfl⟩⟩; refine ⟨_, rfl, ?_⟩))
       go_roundg k1
       case measure => have := HK1.out; omega
       case rel => exact ⟨(Go.bits .or .i64 ac ad), (wrap64 (aa + 1)), Qs, Qs, H', ⟨by have := HK1.out; omega⟩, Q0⟩
     ·rw [if_neg c4] at H
      exact absurd H (by simp)
    ·rw [if_neg c3] at H
     exact absurd H (by simp)
   ·rw [if_neg c2] at H
    have ap : decide (aa < (a0.size : Int)) = false := decide_eq_false c2
    clear c2
    obtain rfl := Option.some.inj H
    go_wp2
    go_ret
    exact ⟨Qs, Q0⟩
def ascii_Alnum.f (k : Nat) (a0 : ByteArray) : Option (Bool) := (ascii_Class.f k a0).bind fun ak => (some (ak != 0))
set_option maxHeartbeats 8000000 in
set_option maxRecDepth 100000 in
theorem ascii_Alnum.calls (k : Nat) (a0 : ByteArray) (r : Bool) (w : World) (h : ascii_Alnum.f k a0 = some r) :
  Calls Tryz.prog 49 #[.string a0] w fun e w' => e = .returned (.bool r) ∧ Drawn0 w w' := by
 have H : ((ascii_Class.f k a0).bind fun ak => (some (ak != 0))) = some r := h
 clear h
 replace H := Option.bind_eq_some_iff.mp H
 obtain ⟨ak, ai, H⟩ := H
 replace H : (some (ak != 0)) = some r := H
 have A2 := Aside0.mk ai
 clear ai
 obtain rfl := Option.some.inj H
 go_enter Tryz.func49, Tryz.ntmps49
 go_wp2_with (first | ((with_reducible refine gate_callee (f := 84) rfl ?_); refine goesL_ (some 4) rfl rfl Tryz.func84 (by kernel_rfl) rfl #[.string a0] rfl Qm ?_; (with_reducible refine (ascii_Class.calls k a0 ak _ A2.out).mono ?_); rintro e w' ⟨rfl, ⟨nd, rfl⟩⟩; refine ⟨_, rfl, ?_⟩))
 go_ret
 exact ⟨Qs, Q0⟩
def tag_long.f (a0 : ByteArray) (a1 : Int) (a2 : Int) : Option (Bool) := if (a0.size : Int) ≥ a1 then (some (decide ((a0.size : Int) ≤ a2))) else (some false)
set_option maxHeartbeats 8000000 in
set_option maxRecDepth 100000 in
theorem tag_long.calls (a0 : ByteArray) (a1 : Int) (a2 : Int) (r : Bool) (w : World) (h : tag_long.f a0 a1 a2 = some r) :
  Calls Tryz.prog 50 #[.string a0, .int .i64 a1, .int .i64 a2] w fun e w' => e = .returned (.bool r) ∧ Drawn0 w w' := by
 have H := h; unfold tag_long.f at H
 clear h
 by_cases c4 : (a0.size : Int) ≥ a1
 ·rw [if_pos c4] at H
  have aj : decide (a1 ≤ (a0.size : Int)) = true := decide_eq_true c4
  clear c4
  obtain rfl := Option.some.inj H
  go_enter Tryz.func50, Tryz.ntmps50
  go_wp2
  go_ret
  exact ⟨Qs, Q0⟩
 ·rw [if_neg c4] at H
  have aj : decide (a1 ≤ (a0.size : Int)) = false := decide_eq_false c4
  clear c4
  obtain rfl := Option.some.inj H
  go_enter Tryz.func50, Tryz.ntmps50
  go_wp2
  go_ret
  exact ⟨Qs, Q0⟩
def ascii_Digit.f (k : Nat) (a0 : ByteArray) : Option (Bool) := (ascii_Class.f k a0).bind fun al => (some (al == 2))
set_option maxHeartbeats 8000000 in
set_option maxRecDepth 100000 in
theorem ascii_Digit.calls (k : Nat) (a0 : ByteArray) (r : Bool) (w : World) (h : ascii_Digit.f k a0 = some r) :
  Calls Tryz.prog 51 #[.string a0] w fun e w' => e = .returned (.bool r) ∧ Drawn0 w w' := by
 have H : ((ascii_Class.f k a0).bind fun al => (some (al == 2))) = some r := h
 clear h
 replace H := Option.bind_eq_some_iff.mp H
 obtain ⟨al, ai, H⟩ := H
 replace H : (some (al == 2)) = some r := H
 have A2 := Aside0.mk ai
 clear ai
 obtain rfl := Option.some.inj H
 go_enter Tryz.func51, Tryz.ntmps51
 go_wp2_with (first | ((with_reducible refine gate_callee (f := 84) rfl ?_); refine goesL_ (some 4) rfl rfl Tryz.func84 (by kernel_rfl) rfl #[.string a0] rfl Qm ?_; (with_reducible refine (ascii_Class.calls k a0 al _ A2.out).mono ?_); rintro e w' ⟨rfl, ⟨nd, rfl⟩⟩; refine ⟨_, rfl, ?_⟩))
 go_ret
 exact ⟨Qs, Q0⟩
def tag_Variant.f (k : Nat) (a0 : ByteArray) : Option (Bool) := (ascii_Alnum.f k a0).bind fun av => (if av = true then ((tag_long.f a0 5 8).bind fun aw => (if aw = true then (some true) else (if (a0.size : Int) = 4 then (if 0 ≤ 1 then (if 1 ≤ (a0.size : Int) then ((ascii_Digit.f k (a0.extract 0 1)).bind fun aq => (some aq)) else (none)) else (none)) else (some false)))) else (some false))
set_option maxHeartbeats 8000000 in
set_option maxRecDepth 100000 in
theorem tag_Variant.calls (k : Nat) (a0 : ByteArray) (r : Bool) (w : World) (h : tag_Variant.f k a0 = some r) :
  Calls Tryz.prog 13 #[.string a0] w fun e w' => e = .returned (.bool r) ∧ Drawn0 w w' := by
 have H := h; unfold tag_Variant.f at H
 clear h
 replace H := Option.bind_eq_some_iff.mp H
 obtain ⟨av, ai, H⟩ := H
 try dsimp only at H
 have A2 := Aside0.mk ai
 clear ai
 by_cases c3 : av = true
 ·subst c3
  rw [if_pos rfl] at H
  replace H := Option.bind_eq_some_iff.mp H
  obtain ⟨aw, aW, H⟩ := H
  try dsimp only at H
  have A4 := Aside0.mk aW
  clear aW
  by_cases c5 : aw = true
  ·subst c5
   rw [if_pos rfl] at H
   obtain rfl := Option.some.inj H
   go_enter Tryz.func13, Tryz.ntmps13
   go_wp2_with (first | ((with_reducible refine gate_callee (f := 49) rfl ?_); refine goesL_ (some 4) rfl rfl Tryz.func49 (by kernel_rfl) rfl #[.string a0] rfl Qm ?_; (with_reducible refine (ascii_Alnum.calls k a0 true _ A2.out).mono ?_); rintro e w' ⟨rfl, ⟨nd, rfl⟩⟩; refine ⟨_, rfl, ?_⟩) | (go_at_call 50; (with_reducible refine (tag_long.calls a0 5 8 true _ A4.out).mono ?_); rintro e w' ⟨rfl, ⟨nd, rfl⟩⟩))
   go_ret
   exact ⟨Qs, Q0⟩
  ·replace c5 := Bool.eq_false_iff.mpr c5
   subst c5
   rw [if_neg (show ¬ (false = true) by decide)] at H
   by_cases c6 : (a0.size : Int) = 4
   ·rw [if_pos c6] at H
    have ag : ((a0.size : Int) == 4) = true := beq_iff_eq.mpr c6
    have aR : ((a0.size : Int) != 4) = false := bne_eq_false_iff_eq.mpr c6
    clear c6
    by_cases c7 : 0 ≤ 1
    ·rw [if_pos c7] at H
     have aE := eq_true c7
     have aG : decide (0 ≤ 1) = true := decide_eq_true c7
     clear c7
     by_cases c8 : 1 ≤ (a0.size : Int)
     ·rw [if_pos c8] at H
      have aD := eq_true c8
      have a6 : decide (1 ≤ (a0.size : Int)) = true := decide_eq_true c8
      clear c8
      replace H := Option.bind_eq_some_iff.mp H
      obtain ⟨aq, aX, H⟩ := H
      replace H : (some aq) = some r := H
      have A9 := Aside0.mk aX
      clear aX
      obtain rfl := Option.some.inj H
      go_enter Tryz.func13, Tryz.ntmps13
      go_wp2_with (first | ((with_reducible refine gate_callee (f := 49) rfl ?_); refine goesL_ (some 4) rfl rfl Tryz.func49 (by kernel_rfl) rfl #[.string a0] rfl Qm ?_; (with_reducible refine (ascii_Alnum.calls k a0 true _ A2.out).mono ?_); rintro e w' ⟨rfl, ⟨nd, rfl⟩⟩; refine ⟨_, rfl, ?_⟩) | (go_at_call 50; (with_reducible refine (tag_long.calls a0 5 8 false _ A4.out).mono ?_); rintro e w' ⟨rfl, ⟨nd, rfl⟩⟩) | (go_at_call 51; (with_reducible refine (ascii_Digit.calls k (a0.extract 0 1) aq _ A9.out).mono ?_); rintro e w' ⟨rfl, ⟨nd, rfl⟩⟩))
      go_ret
      exact ⟨Qs, Q0⟩
     ·rw [if_neg c8] at H
      exact absurd H (by simp)
    ·rw [if_neg c7] at H
     exact absurd H (by simp)
   ·rw [if_neg c6] at H
    have ag : ((a0.size : Int) == 4) = false := beq_eq_false_iff_ne.mpr c6
    have aR : ((a0.size : Int) != 4) = true := bne_iff_ne.mpr c6
    obtain rfl := Option.some.inj H
    go_enter Tryz.func13, Tryz.ntmps13
    go_wp2_with (first | ((with_reducible refine gate_callee (f := 49) rfl ?_); refine goesL_ (some 4) rfl rfl Tryz.func49 (by kernel_rfl) rfl #[.string a0] rfl Qm ?_; (with_reducible refine (ascii_Alnum.calls k a0 true _ A2.out).mono ?_); rintro e w' ⟨rfl, ⟨nd, rfl⟩⟩; refine ⟨_, rfl, ?_⟩) | (go_at_call 50; (with_reducible refine (tag_long.calls a0 5 8 false _ A4.out).mono ?_); rintro e w' ⟨rfl, ⟨nd, rfl⟩⟩))
    go_ret
    exact ⟨Qs, Q0⟩
 ·replace c3 := Bool.eq_false_iff.mpr c3
  subst c3
  rw [if_neg (show ¬ (false = true) by decide)] at H
  obtain rfl := Option.some.inj H
  go_enter Tryz.func13, Tryz.ntmps13
  go_wp2_with (first | ((with_reducible refine gate_callee (f := 49) rfl ?_); refine goesL_ (some 4) rfl rfl Tryz.func49 (by kernel_rfl) rfl #[.string a0] rfl Qm ?_; (with_reducible refine (ascii_Alnum.calls k a0 false _ A2.out).mono ?_); rintro e w' ⟨rfl, ⟨nd, rfl⟩⟩; refine ⟨_, rfl, ?_⟩))
  go_ret
  exact ⟨Qs, Q0⟩
def ascii_Alpha.f (k : Nat) (a0 : ByteArray) : Option (Bool) := (ascii_Class.f k a0).bind fun am => (some (am == 1))
set_option maxHeartbeats 8000000 in
set_option maxRecDepth 100000 in
theorem ascii_Alpha.calls (k : Nat) (a0 : ByteArray) (r : Bool) (w : World) (h : ascii_Alpha.f k a0 = some r) :
  Calls Tryz.prog 52 #[.string a0] w fun e w' => e = .returned (.bool r) ∧ Drawn0 w w' := by
 have H : ((ascii_Class.f k a0).bind fun am => (some (am == 1))) = some r := h
 clear h
 replace H := Option.bind_eq_some_iff.mp H
 obtain ⟨am, ai, H⟩ := H
 replace H : (some (am == 1)) = some r := H
 have A2 := Aside0.mk ai
 clear ai
 obtain rfl := Option.some.inj H
 go_enter Tryz.func52, Tryz.ntmps52
 go_wp2_with (first | ((with_reducible refine gate_callee (f := 84) rfl ?_); refine goesL_ (some 4) rfl rfl Tryz.func84 (by kernel_rfl) rfl #[.string a0] rfl Qm ?_; (with_reducible refine (ascii_Class.calls k a0 am _ A2.out).mono ?_); rintro e w' ⟨rfl, ⟨nd, rfl⟩⟩; refine ⟨_, rfl, ?_⟩))
 go_ret
 exact ⟨Qs, Q0⟩
def tag_Region.f (k : Nat) (a0 : ByteArray) : Option (Bool) := (ascii_Alpha.f k a0).bind fun ax => (if ax = true then (if (a0.size : Int) = 2 then (some true) else ((ascii_Digit.f k a0).bind fun ay => (if ay = true then (some ((a0.size : Int) == 3)) else (some false)))) else ((ascii_Digit.f k a0).bind fun az => (if az = true then (some ((a0.size : Int) == 3)) else (some false))))
set_option maxHeartbeats 8000000 in
set_option maxRecDepth 100000 in
theorem tag_Region.calls (k : Nat) (a0 : ByteArray) (r : Bool) (w : World) (h : tag_Region.f k a0 = some r) :
  Calls Tryz.prog 14 #[.string a0] w fun e w' => e = .returned (.bool r) ∧ Drawn0 w w' := by
 have H := h; unfold tag_Region.f at H
 clear h
 replace H := Option.bind_eq_some_iff.mp H
 obtain ⟨ax, ai, H⟩ := H
 try dsimp only at H
 have A2 := Aside0.mk ai
 clear ai
 by_cases c3 : ax = true
 ·subst c3
  rw [if_pos rfl] at H
  by_cases c4 : (a0.size : Int) = 2
  ·rw [if_pos c4] at H
   have aj : ((a0.size : Int) == 2) = true := beq_iff_eq.mpr c4
   have aH : ((a0.size : Int) != 2) = false := bne_eq_false_iff_eq.mpr c4
   clear c4
   obtain rfl := Option.some.inj H
   go_enter Tryz.func14, Tryz.ntmps14
   go_wp2_with (first | ((with_reducible refine gate_callee (f := 52) rfl ?_); refine goesL_ (some 4) rfl rfl Tryz.func52 (by kernel_rfl) rfl #[.string a0] rfl Qm ?_; (with_reducible refine (ascii_Alpha.calls k a0 true _ A2.out).mono ?_); rintro e w' ⟨rfl, ⟨nd, rfl⟩⟩; refine ⟨_, rfl, ?_⟩))
   go_ret
   exact ⟨Qs, Q0⟩
  ·rw [if_neg c4] at H
   have aj : ((a0.size : Int) == 2) = false := beq_eq_false_iff_ne.mpr c4
   have aH : ((a0.size : Int) != 2) = true := bne_iff_ne.mpr c4
   replace H := Option.bind_eq_some_iff.mp H
   obtain ⟨ay, au, H⟩ := H
   try dsimp only at H
   have A5 := Aside0.mk au
   clear au
   by_cases c6 : ay = true
   ·subst c6
    rw [if_pos rfl] at H
    obtain rfl := Option.some.inj H
    go_enter Tryz.func14, Tryz.ntmps14
    go_wp2_with (first | ((with_reducible refine gate_callee (f := 52) rfl ?_); refine goesL_ (some 4) rfl rfl Tryz.func52 (by kernel_rfl) rfl #[.string a0] rfl Qm ?_; (with_reducible refine (ascii_Alpha.calls k a0 true _ A2.out).mono ?_); rintro e w' ⟨rfl, ⟨nd, rfl⟩⟩; refine ⟨_, rfl, ?_⟩) | (go_at_call 51; (with_reducible refine (ascii_Digit.calls k a0 true _ A5.out).mono ?_); rintro e w' ⟨rfl, ⟨nd, rfl⟩⟩))
    go_ret
    exact ⟨Qs, Q0⟩
   ·replace c6 := Bool.eq_false_iff.mpr c6
    subst c6
    rw [if_neg (show ¬ (false = true) by decide)] at H
    obtain rfl := Option.some.inj H
    go_enter Tryz.func14, Tryz.ntmps14
    go_wp2_with (first | ((with_reducible refine gate_callee (f := 52) rfl ?_); refine goesL_ (some 4) rfl rfl Tryz.func52 (by kernel_rfl) rfl #[.string a0] rfl Qm ?_; (with_reducible refine (ascii_Alpha.calls k a0 true _ A2.out).mono ?_); rintro e w' ⟨rfl, ⟨nd, rfl⟩⟩; refine ⟨_, rfl, ?_⟩) | (go_at_call 51; (with_reducible refine (ascii_Digit.calls k a0 false _ A5.out).mono ?_); rintro e w' ⟨rfl, ⟨nd, rfl⟩⟩))
    go_ret
    exact ⟨Qs, Q0⟩
 ·replace c3 := Bool.eq_false_iff.mpr c3
  subst c3
  rw [if_neg (show ¬ (false = true) by decide)] at H
  replace H := Option.bind_eq_some_iff.mp H
  obtain ⟨az, aY, H⟩ := H
  try dsimp only at H
  have A7 := Aside0.mk aY
  clear aY
  by_cases c8 : az = true
  ·subst c8
   rw [if_pos rfl] at H
   obtain rfl := Option.some.inj H
   go_enter Tryz.func14, Tryz.ntmps14
   go_wp2_with (first | ((with_reducible refine gate_callee (f := 52) rfl ?_); refine goesL_ (some 4) rfl rfl Tryz.func52 (by kernel_rfl) rfl #[.string a0] rfl Qm ?_; (with_reducible refine (ascii_Alpha.calls k a0 false _ A2.out).mono ?_); rintro e w' ⟨rfl, ⟨nd, rfl⟩⟩; refine ⟨_, rfl, ?_⟩) | (go_at_call 51; (with_reducible refine (ascii_Digit.calls k a0 true _ A7.out).mono ?_); rintro e w' ⟨rfl, ⟨nd, rfl⟩⟩))
   go_ret
   exact ⟨Qs, Q0⟩
  ·replace c8 := Bool.eq_false_iff.mpr c8
   subst c8
   rw [if_neg (show ¬ (false = true) by decide)] at H
   obtain rfl := Option.some.inj H
   go_enter Tryz.func14, Tryz.ntmps14
   go_wp2_with (first | ((with_reducible refine gate_callee (f := 52) rfl ?_); refine goesL_ (some 4) rfl rfl Tryz.func52 (by kernel_rfl) rfl #[.string a0] rfl Qm ?_; (with_reducible refine (ascii_Alpha.calls k a0 false _ A2.out).mono ?_); rintro e w' ⟨rfl, ⟨nd, rfl⟩⟩; refine ⟨_, rfl, ?_⟩) | (go_at_call 51; (with_reducible refine (ascii_Digit.calls k a0 false _ A7.out).mono ?_); rintro e w' ⟨rfl, ⟨nd, rfl⟩⟩))
   go_ret
   exact ⟨Qs, Q0⟩
def isoglosslaw06_awake.f (k : Nat)  : Option (Bool) := (tag_Variant.f k (⟨#[49, 57, 57, 52]⟩ : ByteArray)).bind fun aA => (if aA = true then ((tag_Variant.f k (⟨#[97, 114, 101, 118]⟩ : ByteArray)).bind fun aC => (if aC = true then (some false) else ((tag_Region.f k (⟨#[52, 49, 57]⟩ : ByteArray)).bind fun ar => (some ar)))) else (some false))
set_option maxHeartbeats 8000000 in
set_option maxRecDepth 100000 in
theorem isoglosslaw06_awake.calls (k : Nat)  (r : Bool) (w : World) (h : isoglosslaw06_awake.f k  = some r) :
  Calls Tryz.prog 5 #[] w fun e w' => e = .returned (.bool r) ∧ Drawn0 w w' := by
 have H := h; unfold isoglosslaw06_awake.f at H
 clear h
 replace H := Option.bind_eq_some_iff.mp H
 obtain ⟨aA, aZ, H⟩ := H
 try dsimp only at H
 have A1 := Aside0.mk aZ
 clear aZ
 by_cases c2 : aA = true
 ·subst c2
  rw [if_pos rfl] at H
  replace H := Option.bind_eq_some_iff.mp H
  obtain ⟨aC, a3, H⟩ := H
  try dsimp only at H
  have A3 := Aside0.mk a3
  clear a3
  by_cases c4 : aC = true
  ·subst c4
   rw [if_pos rfl] at H
   obtain rfl := Option.some.inj H
   go_enter Tryz.func5, Tryz.ntmps5
   go_wp2_with (first | ((with_reducible refine gate_callee (f := 13) rfl ?_); refine goesL_ (some 1) rfl rfl Tryz.func13 (by kernel_rfl) rfl #[.string (⟨#[49, 57, 57, 52]⟩ : ByteArray)] rfl Qm ?_; (with_reducible refine (tag_Variant.calls k (⟨#[49, 57, 57, 52]⟩ : ByteArray) true _ A1.out).mono ?_); rintro e w' ⟨rfl, ⟨nd, rfl⟩⟩; refine ⟨_, rfl, ?_⟩) | (go_at_call 13; (with_reducible refine (tag_Variant.calls k (⟨#[97, 114, 101, 118]⟩ : ByteArray) true _ A3.out).mono ?_); rintro e w' ⟨rfl, ⟨nd, rfl⟩⟩))
   go_ret
   exact ⟨Qs, Q0⟩
  ·replace c4 := Bool.eq_false_iff.mpr c4
   subst c4
   rw [if_neg (show ¬ (false = true) by decide)] at H
   replace H := Option.bind_eq_some_iff.mp H
   obtain ⟨ar, au, H⟩ := H
   replace H : (some ar) = some r := H
   have A5 := Aside0.mk au
   clear au
   obtain rfl := Option.some.inj H
   go_enter Tryz.func5, Tryz.ntmps5
   go_wp2_with (first | ((with_reducible refine gate_callee (f := 13) rfl ?_); refine goesL_ (some 1) rfl rfl Tryz.func13 (by kernel_rfl) rfl #[.string (⟨#[49, 57, 57, 52]⟩ : ByteArray)] rfl Qm ?_; (with_reducible refine (tag_Variant.calls k (⟨#[49, 57, 57, 52]⟩ : ByteArray) true _ A1.out).mono ?_); rintro e w' ⟨rfl, ⟨nd, rfl⟩⟩; refine ⟨_, rfl, ?_⟩) | (go_at_call 13; (with_reducible refine (tag_Variant.calls k (⟨#[97, 114, 101, 118]⟩ : ByteArray) false _ A3.out).mono ?_); rintro e w' ⟨rfl, ⟨nd, rfl⟩⟩) | (go_at_call 14; (with_reducible refine (tag_Region.calls k (⟨#[52, 49, 57]⟩ : ByteArray) ar _ A5.out).mono ?_); rintro e w' ⟨rfl, ⟨nd, rfl⟩⟩))
   go_ret
   exact ⟨Qs, Q0⟩
 ·replace c2 := Bool.eq_false_iff.mpr c2
  subst c2
  rw [if_neg (show ¬ (false = true) by decide)] at H
  obtain rfl := Option.some.inj H
  go_enter Tryz.func5, Tryz.ntmps5
  go_wp2_with (first | ((with_reducible refine gate_callee (f := 13) rfl ?_); refine goesL_ (some 1) rfl rfl Tryz.func13 (by kernel_rfl) rfl #[.string (⟨#[49, 57, 57, 52]⟩ : ByteArray)] rfl Qm ?_; (with_reducible refine (tag_Variant.calls k (⟨#[49, 57, 57, 52]⟩ : ByteArray) false _ A1.out).mono ?_); rintro e w' ⟨rfl, ⟨nd, rfl⟩⟩; refine ⟨_, rfl, ?_⟩))
  go_ret
  exact ⟨Qs, Q0⟩
def isoglosslaw06_short.f (a0 : ByteArray) : Option (ByteArray) := if (a0.size : Int) > 12 then (if 0 ≤ 12 then (if 12 ≤ (a0.size : Int) then (some (a0.extract 0 12)) else (none)) else (none)) else (some a0)
set_option maxHeartbeats 8000000 in
set_option maxRecDepth 100000 in
theorem isoglosslaw06_short.calls (a0 : ByteArray) (r : ByteArray) (w : World) (h : isoglosslaw06_short.f a0 = some r) :
  Calls Tryz.prog 15 #[.string a0] w fun e w' => e = .returned (.string r) ∧ Drawn0 w w' := by
 have H := h; unfold isoglosslaw06_short.f at H
 clear h
 by_cases c2 : (a0.size : Int) > 12
 ·rw [if_pos c2] at H
  have ap : decide (12 < (a0.size : Int)) = true := decide_eq_true c2
  have aT : decide (12 < a0.size) = true := decide_eq_true (by omega)
  clear c2
  by_cases c3 : 0 ≤ 12
  ·rw [if_pos c3] at H
   have ae := eq_true c3
   have a7 : decide (0 ≤ 12) = true := decide_eq_true c3
   clear c3
   by_cases c4 : 12 ≤ (a0.size : Int)
   ·rw [if_pos c4] at H
    have aj := eq_true c4
    have aH : decide (12 ≤ (a0.size : Int)) = true := decide_eq_true c4
    clear c4
    obtain rfl := Option.some.inj H
    go_enter Tryz.func15, Tryz.ntmps15
    go_wp2
    go_ret
    exact ⟨Qs, Q0⟩
   ·rw [if_neg c4] at H
    exact absurd H (by simp)
  ·rw [if_neg c3] at H
   exact absurd H (by simp)
 ·rw [if_neg c2] at H
  have ap : decide (12 < (a0.size : Int)) = false := decide_eq_false c2
  have aT : decide (12 < a0.size) = false := decide_eq_false (by omega)
  clear c2
  obtain rfl := Option.some.inj H
  go_enter Tryz.func15, Tryz.ntmps15
  go_wp2
  go_ret
  exact ⟨Qs, Q0⟩
def isoglosslaw06_row.l0 : Nat → List ByteArray → List ByteArray → Int → Option (List ByteArray)
 | 0, _, _, _ => none
 | k + 1, x0, x3, x4 => if x4 < (x0.length : Int) then (if x4 < 4 then (if 0 ≤ x4 then ((isoglosslaw06_short.f (rdOf ByteArray.empty x0 x4)).bind fun ao => (if x3.length < 8796093022208 then (isoglosslaw06_row.l0 k x0 (x3 ++ [ao]) (wrap64 (x4 + 1))) else (none))) else (none)) else (some x3)) else (some x3)
def isoglosslaw06_row.f (k : Nat) (l0 : List ByteArray) : Option (List ByteArray) := isoglosslaw06_row.l0 k l0 ([] : List ByteArray) 0
set_option maxHeartbeats 8000000 in
set_option maxRecDepth 100000 in
theorem isoglosslaw06_row.calls (k : Nat) (A0 : Option Addr) (c0 : Nat) (l0 : List ByteArray) (r : List ByteArray) (w : World) (hr0 : Kd.C Kd.string w A0 l0.length l0) (hc0 : l0.length ≤ c0) (h : isoglosslaw06_row.f k l0 = some r) :
  Calls Tryz.prog 16 #[.slice A0 l0.length c0] w fun e w' => ∃ v0_ : Value, e = .returned (v0_) ∧ Kd.R Kd.string 9 w' w.heap.size (fun _ => True) v0_ r ∧ Below w.heap.size w w' := by
 have a8 := Aside0.mk hr0
 have a9 := Aside0.mk hc0
 clear hr0 hc0
 have HB := Aside0.mk (Below.refl w.heap.size w)
 have H : (isoglosslaw06_row.l0 k l0 ([] : List ByteArray) 0) = some r := h
 clear h
 have H' := Aside0.mk H
 clear H
 go_enter Tryz.func16, Tryz.ntmps16
 go_wp2
 go_loopg [3, 4] k (fun kq v3 v4 w' => ∃ (ac : List ByteArray) (ab : Int), v4 = .int .i64 ab ∧ Aside0 (isoglosslaw06_row.l0 kq l0 ac ab = some r) ∧ Aside0 (kq ≤ k) ∧ Aside0 (Kd.R Kd.string 9 w' w.heap.size (fun _ => True) v3 ac) ∧ Aside0 (Below w.heap.size w w'))
 case atStart => exact ⟨(([] : List ByteArray)), (0), Qs, H', ⟨Nat.le_refl _⟩, ⟨by first | exact Kd.R_nil _ _ _ _ _ | exact Kd.N_nil _ _ _ _ _ | exact Kd.V_nil _ _ _ _ _ | exact Kd.Q_nil _ _ _ _ _ | exact Kd.S_nil _ _ _ _ _⟩, ⟨Qw HB.out⟩⟩
 case round =>
  clear H'
  obtain ⟨ac, ab, rfl, HA, HK1, HO_3, HB⟩ := hrel
  cases gk with
  | zero => exact absurd HA.out (by simp [isoglosslaw06_row.l0])
  | succ k1 =>
   have H := HA.out
   clear HA
   simp only [isoglosslaw06_row.l0] at H
   by_cases c2 : ab < (l0.length : Int)
   ·rw [if_pos c2] at H
    have ap : decide (ab < (l0.length : Int)) = true := decide_eq_true c2
    clear c2
    by_cases c3 : ab < 4
    ·rw [if_pos c3] at H
     have ae : decide (ab < 4) = true := decide_eq_true c3
     clear c3
     by_cases c4 : 0 ≤ ab
     ·rw [if_pos c4] at H
      have aj : decide (0 ≤ ab) = true := decide_eq_true c4
      clear c4
      replace H := Option.bind_eq_some_iff.mp H
      obtain ⟨ao, au, H⟩ := H
      try dsimp only at H
      have A5 := Aside0.mk au
      clear au
      by_cases c6 : ac.length < 8796093022208
      ·rw [if_pos c6] at H
       have aU := Aside0.mk c6
       clear c6
       obtain ⟨aI, af⟩ : ∃ y_ : List ByteArray, y_ = (ac ++ [ao]) := ⟨_, rfl⟩
       replace H : (isoglosslaw06_row.l0 k1 l0 aI (wrap64 (ab + 1))) = some r := by first | (rw [af]; with_reducible exact H) | (have H2_ := (Option.bind_some _ _).symm.trans H; rw [af]; with_reducible exact H2_) | (have H2_ := (Option.bind_some _ _).symm.trans H; with_reducible exact H2_) | with_reducible exact H | (rw [af]; exact H) | exact H
       have aJ := Aside0.mk af
       clear af
       have H' := Aside0.mk H
       clear H
       have p114 : 0 ≤ (ab : Int) := of_decide_eq_true Qa
       have q114 : ab < (l0.length : Int) := of_decide_eq_true Qa
       obtain ⟨ad114, e114, hx114_0⟩ := Kd.at_string a8.out ab p114 q114
       cases e114
       replace hx114_0 := (HB.out.cell (World.block_lt_of_cell? w _ hx114_0)).trans hx114_0
       replace p114 := eq_true p114
       replace q114 := eq_true q114
       go_wp2_with (first | ((with_reducible refine gate_callee (f := 15) rfl ?_); refine goesL_ (some 20) rfl rfl Tryz.func15 (by kernel_rfl) rfl #[.string (rdOf ByteArray.empty l0 ab)] rfl Qm ?_; (with_reducible refine (isoglosslaw06_short.calls (rdOf ByteArray.empty l0 ab) ao _ A5.out).mono ?_); rintro e w' ⟨rfl, ⟨nd, rfl⟩⟩; refine ⟨_, rfl, ?_⟩) | ((with_reducible refine gate_builtin (b := .append) (xs := #[.tmp 15, .tmp 21]) rfl ?_); at_builtin; refine Kd.R_append Kd.string (w0 := w) w.heap.size rfl (.tmp 15) (.tmp 21) 22 9 (.string ⟨#[]⟩) 16 rfl Tryz.underlying22 info9 rfl (by decide) (by omega) u3 ac ao [.string ao] (fun _ => True) (fun _ => False) rfl rfl ?aP (fun _ hk => hk.elim) ?aF ?aO ?aB ?aS ?aL ?_; (case aP => exact rfl); (case aB => exact (Qw HB.out)); (case aF => exact (fun _ _ => trivial)); (case aO => exact (Qr HO_3.out)); (case aS => exact (below_size (Qw HB.out))); (case aL => have := aU.out; omega); intro v117 w7 ho hb hg hat; rw [← aJ.out] at ho; have a4 := Aside0.mk (hb); have a5 := Aside0.mk (ho); clear HB; clear HO_3; have HB := a4; have aK := a5; clear a4 a5; clear ho hb hg hat))
       go_roundg k1
       case measure => have := HK1.out; omega
       case rel => exact ⟨(aI), (wrap64 (ab + 1)), Qs, H', ⟨by have := HK1.out; omega⟩, ⟨Qr aK.out⟩, ⟨Qw HB.out⟩⟩
      ·rw [if_neg c6] at H
       exact absurd H (by simp)
     ·rw [if_neg c4] at H
      exact absurd H (by simp)
    ·rw [if_neg c3] at H
     have ae : decide (ab < 4) = false := decide_eq_false c3
     clear c3
     obtain rfl := Option.some.inj H
     go_wp2
     go_ret
     exact ⟨_, Qe, Qr HO_3.out, Qw HB.out⟩
   ·rw [if_neg c2] at H
    have ap : decide (ab < (l0.length : Int)) = false := decide_eq_false c2
    clear c2
    obtain rfl := Option.some.inj H
    go_wp2
    go_ret
    exact ⟨_, Qe, Qr HO_3.out, Qw HB.out⟩
end Go.Proofs.YtljadeeoaoiilaaGreatDoor.P
