-- Written for this claim by the session's own run of the print, functions proved by hand put in.
import Derived.Test.YtljadeeoaoiilaaGreatDoorSq
import Derived.Test.YtljadeeoaoiilaaGreatDoorPx0
namespace Go.Proofs.YtljadeeoaoiilaaGreatDoor.P
open Go.RowKit Go.Proofs.YtljadeeoaoiilaaGreatDoorW.PrintWords Go.Proofs.YtljadeeoaoiilaaGreatDoorW.PrintLast Go.Proofs.YtljadeeoaoiilaaGreatDoorW.PrintMore
attribute [local go_sem] max2_int min2_int max_two min_two max_three min_three max_four min_four   -- for this text's walks alone
set_option linter.unusedVariables false
set_option linter.unusedSimpArgs false
mutual
def ascii_kind.j0 : Nat → Int → Bool → Option (Int)
 | 0, _, _ => none
 | k + 1, x0, x3 => if x3 = true then (some 1) else (if x0 ≥ 97 then (ascii_kind.j1 k x0 (decide (x0 ≤ 122))) else (ascii_kind.j1 k x0 false))
def ascii_kind.j1 : Nat → Int → Bool → Option (Int)
 | 0, _, _ => none
 | k + 1, x0, x10 => if x10 = true then (some 1) else (if x0 ≥ 48 then (if x0 ≤ 57 then (some 2) else (some 0)) else (some 0))
end
def ascii_kind.f (k : Nat) (a0 : Int) : Option (Int) := if a0 ≥ 65 then (ascii_kind.j0 k a0 (decide (a0 ≤ 90))) else (ascii_kind.j0 k a0 false)
set_option maxHeartbeats 8000000 in
set_option maxRecDepth 100000 in
theorem ascii_kind.calls (k : Nat) (a0 : Int) (r : Int) (w : World) (h : ascii_kind.f k a0 = some r) :
  Calls Tryz.prog 101 #[.int .u8 a0] w fun e w' => e = .returned (.int .i64 r) ∧ Drawn0 w w' := by
 have H := h; unfold ascii_kind.f at H
 clear h
 have aB := Aside0.mk H
 clear H
 go_enter Tryz.func101, Tryz.ntmps101
 go_upto_region 1 with (fail)
 go_cut [3] (fun v3 wc => ∃ (kq : Nat) (ac : Bool), v3 = .bool ac ∧ Aside0 (ascii_kind.j0 kq a0 ac = some r) ∧ Aside0 (kq ≤ k) ∧ Drawn0 w wc)
 case first =>
  have H := aB.out
  clear aB
  by_cases c3 : a0 ≥ 65
  ·rw [if_pos c3] at H
   have ag : decide (65 ≤ a0) = true := decide_eq_true c3
   clear c3
   (first | rw [ag] | (simp only [i64_w, i32_w]; rw [ag]) | skip)
   have H' := Aside0.mk H
   clear H
   go_wp2
   go_meet
   case rel => exact ⟨_, (decide (a0 ≤ 90)), Qs, H', ⟨by first | omega | exact Nat.le_refl _⟩, Q0⟩
  ·rw [if_neg c3] at H
   have ag : decide (65 ≤ a0) = false := decide_eq_false c3
   clear c3
   (first | rw [ag] | (simp only [i64_w, i32_w]; rw [ag]) | skip)
   have H' := Aside0.mk H
   clear H
   go_wp2
   go_meet
   case rel => exact ⟨_, (false), Qs, H', ⟨by first | omega | exact Nat.le_refl _⟩, Q0⟩
 case rest =>
  clear aB
  obtain ⟨kq, ac, rfl, HA, HJ1, ⟨mc1, rfl⟩⟩ := hcut
  cases kq with
  | zero => exact absurd HA.out (by simp [ascii_kind.j0])
  | succ kj1 =>
   have H := HA.out
   clear HA
   simp only [ascii_kind.j0] at H
   by_cases c4 : ac = true
   ·subst c4
    rw [if_pos rfl] at H
    obtain rfl := Option.some.inj H
    go_wp2
    go_ret
    exact ⟨Qs, Q0⟩
   ·replace c4 := Bool.eq_false_iff.mpr c4
    subst c4
    rw [if_neg (show ¬ (false = true) by decide)] at H
    have aC := Aside0.mk H
    clear H
    go_upto_region 2 with (fail)
    go_cut [10] (fun v10 wc => ∃ (kq : Nat) (ae : Bool), v10 = .bool ae ∧ Aside0 (ascii_kind.j1 kq a0 ae = some r) ∧ Aside0 (kq ≤ kj1) ∧ Drawn0 w wc)
    case first =>
     have H := aC.out
     clear aC
     by_cases c6 : a0 ≥ 97
     ·rw [if_pos c6] at H
      have ad : decide (97 ≤ a0) = true := decide_eq_true c6
      clear c6
      (first | rw [ad] | (simp only [i64_w, i32_w]; rw [ad]) | skip)
      have H' := Aside0.mk H
      clear H
      go_wp2
      go_meet
      case rel => exact ⟨_, (decide (a0 ≤ 122)), Qs, H', ⟨by have := HJ1.out; first | omega | exact Nat.le_refl _⟩, Q0⟩
     ·rw [if_neg c6] at H
      have ad : decide (97 ≤ a0) = false := decide_eq_false c6
      clear c6
      (first | rw [ad] | (simp only [i64_w, i32_w]; rw [ad]) | skip)
      have H' := Aside0.mk H
      clear H
      go_wp2
      go_meet
      case rel => exact ⟨_, (false), Qs, H', ⟨by have := HJ1.out; first | omega | exact Nat.le_refl _⟩, Q0⟩
    case rest =>
     clear aC
     obtain ⟨kq, ae, rfl, HA, HJ4, ⟨mc4, rfl⟩⟩ := hcut
     cases kq with
     | zero => exact absurd HA.out (by simp [ascii_kind.j1])
     | succ kj4 =>
      have H := HA.out
      clear HA
      simp only [ascii_kind.j1] at H
      by_cases c7 : ae = true
      ·subst c7
       rw [if_pos rfl] at H
       obtain rfl := Option.some.inj H
       go_wp2
       go_ret
       exact ⟨Qs, Q0⟩
      ·replace c7 := Bool.eq_false_iff.mpr c7
       subst c7
       rw [if_neg (show ¬ (false = true) by decide)] at H
       by_cases c8 : a0 ≥ 48
       ·rw [if_pos c8] at H
        have ax : decide (48 ≤ a0) = true := decide_eq_true c8
        clear c8
        by_cases c9 : a0 ≤ 57
        ·rw [if_pos c9] at H
         have aD : decide (a0 ≤ 57) = true := decide_eq_true c9
         clear c9
         obtain rfl := Option.some.inj H
         go_wp2
         go_ret
         exact ⟨Qs, Q0⟩
        ·rw [if_neg c9] at H
         have aD : decide (a0 ≤ 57) = false := decide_eq_false c9
         clear c9
         obtain rfl := Option.some.inj H
         go_wp2
         go_ret
         exact ⟨Qs, Q0⟩
       ·rw [if_neg c8] at H
        have ax : decide (48 ≤ a0) = false := decide_eq_false c8
        clear c8
        obtain rfl := Option.some.inj H
        go_wp2
        go_ret
        exact ⟨Qs, Q0⟩
def ascii_Class.l0 : Nat → ByteArray → Int → Int → Int → Option (Int)
 | 0, _, _, _, _ => none
 | k + 1, x0, x3, x7, x8 => if x8 < x7 then (if 0 ≤ x8 then (if x8 < (x0.size : Int) then ((ascii_kind.f k (bt x0 x8)).bind fun ab => (if ab = 0 then (some 0) else (ascii_Class.l0 k x0 (Go.bits .or .i64 x3 ab) x7 (wrap64 (x8 + 1))))) else (none)) else (none)) else (some x3)
def ascii_Class.f (k : Nat) (a0 : ByteArray) : Option (Int) := ascii_Class.l0 k a0 0 (a0.size : Int) 0
set_option maxHeartbeats 8000000 in
set_option maxRecDepth 100000 in
theorem ascii_Class.calls (k : Nat) (a0 : ByteArray) (r : Int) (w : World) (h : ascii_Class.f k a0 = some r) :
  Calls Tryz.prog 84 #[.string a0] w fun e w' => e = .returned (.int .i64 r) ∧ Drawn0 w w' := by
 have H : (ascii_Class.l0 k a0 0 (a0.size : Int) 0) = some r := h
 clear h
 have H' := Aside0.mk H
 clear H
 go_enter Tryz.func84, Tryz.ntmps84
 go_wp2
 go_loopg [3, 8] k (fun kq v3 v8 w' => ∃ (ac : Int) (aa : Int), v3 = .int .i64 ac ∧ v8 = .int .i64 aa ∧ Aside0 (ascii_Class.l0 kq a0 ac (a0.size : Int) aa = some r) ∧ Aside0 (kq ≤ k) ∧ Drawn0 w w')
 case atStart => exact ⟨(0), (0), Qs, Qs, H', ⟨Nat.le_refl _⟩, Q0⟩
 case round =>
  clear H'
  obtain ⟨ac, aa, rfl, rfl, HA, HK1, ⟨m1, rfl⟩⟩ := hrel
  cases gk with
  | zero => exact absurd HA.out (by simp [ascii_Class.l0])
  | succ k1 =>
   have H := HA.out
   clear HA
   simp only [ascii_Class.l0] at H
   by_cases c2 : aa < (a0.size : Int)
   ·rw [if_pos c2] at H
    have aE : decide (aa < (a0.size : Int)) = true := decide_eq_true c2
    clear c2
    by_cases c3 : 0 ≤ aa
    ·rw [if_pos c3] at H
     have ag : decide (0 ≤ aa) = true := decide_eq_true c3
     clear c3
     by_cases c4 : aa < (a0.size : Int)
     ·rw [if_pos c4] at H
      have ak : decide (aa < (a0.size : Int)) = true := decide_eq_true c4
      clear c4
      replace H := Option.bind_eq_some_iff.mp H
      obtain ⟨ab, aH, H⟩ := H
      try dsimp only at H
      have A6 := Aside0.mk aH
      clear aH
      by_cases c7 : ab = 0
      ·rw [if_pos c7] at H
       have ay : (ab == 0) = true := beq_iff_eq.mpr c7
       have az : (ab != 0) = false := bne_eq_false_iff_eq.mpr c7
       clear c7
       obtain rfl := Option.some.inj H
       have p5 : 0 ≤ (aa : Int) := of_decide_eq_true Qa
       have q5 : aa < (a0.size : Int) := of_decide_eq_true Qa
       have hx5 := bt_at a0 aa
       replace p5 := eq_true p5
       replace q5 := eq_true q5
       go_wp2_with (first | ((with_reducible refine gate_callee (f := 101) rfl ?_); refine goesL_ (some 14) rfl rfl Tryz.func101 (by kernel_rfl) rfl #[.int .u8 (bt a0 aa)] rfl Qm ?_; (with_reducible refine (ascii_kind.calls k1 (bt a0 aa) ab _ A6.out).mono ?_); rintro e w' ⟨rfl, ⟨nd, rfl⟩⟩; refine ⟨_, rfl, ?_⟩))
       go_ret
       exact ⟨Qs, Q0⟩
      ·rw [if_neg c7] at H
       have ay : (ab == 0) = false := beq_eq_false_iff_ne.mpr c7
       have az : (ab != 0) = true := bne_iff_ne.mpr c7
       have H' := Aside0.mk H
       clear H
       have p5 : 0 ≤ (aa : Int) := of_decide_eq_true Qa
       have q5 : aa < (a0.size : Int) := of_decide_eq_true Qa
       have hx5 := bt_at a0 aa
       replace p5 := eq_true p5
       replace q5 := eq_true q5
       go_wp2_with (first | ((with_reducible refine gate_callee (f := 101) rfl ?_); refine goesL_ (some 14) rfl rfl Tryz.func101 (by kernel_rfl) rfl #[.int .u8 (bt a0 aa)] rfl Qm ?_; (with_reducible refine (ascii_kind.calls k1 (bt a0 aa) ab _ A6.out).mono ?_); rintro e w' ⟨rfl, ⟨nd, rfl⟩⟩; refine ⟨_, rfl, ?_⟩))
       go_roundg k1
       case measure => have := HK1.out; omega
       case rel => exact ⟨(Go.bits .or .i64 ac ab), (wrap64 (aa + 1)), Qs, Qs, H', ⟨by have := HK1.out; omega⟩, Q0⟩
     ·rw [if_neg c4] at H
      exact absurd H (by simp)
    ·rw [if_neg c3] at H
     exact absurd H (by simp)
   ·rw [if_neg c2] at H
    have aE : decide (aa < (a0.size : Int)) = false := decide_eq_false c2
    clear c2
    obtain rfl := Option.some.inj H
    go_wp2
    go_ret
    exact ⟨Qs, Q0⟩
def ascii_Alnum.f (k : Nat) (a0 : ByteArray) : Option (Bool) := (ascii_Class.f k a0).bind fun ah => (some (ah != 0))
set_option maxHeartbeats 8000000 in
set_option maxRecDepth 100000 in
theorem ascii_Alnum.calls (k : Nat) (a0 : ByteArray) (r : Bool) (w : World) (h : ascii_Alnum.f k a0 = some r) :
  Calls Tryz.prog 49 #[.string a0] w fun e w' => e = .returned (.bool r) ∧ Drawn0 w w' := by
 have H : ((ascii_Class.f k a0).bind fun ah => (some (ah != 0))) = some r := h
 clear h
 replace H := Option.bind_eq_some_iff.mp H
 obtain ⟨ah, af, H⟩ := H
 replace H : (some (ah != 0)) = some r := H
 have A2 := Aside0.mk af
 clear af
 obtain rfl := Option.some.inj H
 go_enter Tryz.func49, Tryz.ntmps49
 go_wp2_with (first | ((with_reducible refine gate_callee (f := 84) rfl ?_); refine goesL_ (some 4) rfl rfl Tryz.func84 (by kernel_rfl) rfl #[.string a0] rfl Qm ?_; (with_reducible refine (ascii_Class.calls k a0 ah _ A2.out).mono ?_); rintro e w' ⟨rfl, ⟨nd, rfl⟩⟩; refine ⟨_, rfl, ?_⟩))
 go_ret
 exact ⟨Qs, Q0⟩
def tag_long.f (a0 : ByteArray) (a1 : Int) (a2 : Int) : Option (Bool) := if (a0.size : Int) ≥ a1 then (some (decide ((a0.size : Int) ≤ a2))) else (some false)
set_option maxHeartbeats 8000000 in
set_option maxRecDepth 100000 in
theorem tag_long.calls (a0 : ByteArray) (a1 : Int) (a2 : Int) (r : Bool) (w : World) (h : tag_long.f a0 a1 a2 = some r) :
  Calls Tryz.prog 50 #[.string a0, .int .i64 a1, .int .i64 a2] w fun e w' => e = .returned (.bool r) ∧ Drawn0 w w' := by
 have H := h; unfold tag_long.f at H
 clear h
 by_cases c4 : (a0.size : Int) ≥ a1
 ·rw [if_pos c4] at H
  have ak : decide (a1 ≤ (a0.size : Int)) = true := decide_eq_true c4
  clear c4
  obtain rfl := Option.some.inj H
  go_enter Tryz.func50, Tryz.ntmps50
  go_wp2
  go_ret
  exact ⟨Qs, Q0⟩
 ·rw [if_neg c4] at H
  have ak : decide (a1 ≤ (a0.size : Int)) = false := decide_eq_false c4
  clear c4
  obtain rfl := Option.some.inj H
  go_enter Tryz.func50, Tryz.ntmps50
  go_wp2
  go_ret
  exact ⟨Qs, Q0⟩
def ascii_Digit.f (k : Nat) (a0 : ByteArray) : Option (Bool) := (ascii_Class.f k a0).bind fun ai => (some (ai == 2))
set_option maxHeartbeats 8000000 in
set_option maxRecDepth 100000 in
theorem ascii_Digit.calls (k : Nat) (a0 : ByteArray) (r : Bool) (w : World) (h : ascii_Digit.f k a0 = some r) :
  Calls Tryz.prog 51 #[.string a0] w fun e w' => e = .returned (.bool r) ∧ Drawn0 w w' := by
 have H : ((ascii_Class.f k a0).bind fun ai => (some (ai == 2))) = some r := h
 clear h
 replace H := Option.bind_eq_some_iff.mp H
 obtain ⟨ai, af, H⟩ := H
 replace H : (some (ai == 2)) = some r := H
 have A2 := Aside0.mk af
 clear af
 obtain rfl := Option.some.inj H
 go_enter Tryz.func51, Tryz.ntmps51
 go_wp2_with (first | ((with_reducible refine gate_callee (f := 84) rfl ?_); refine goesL_ (some 4) rfl rfl Tryz.func84 (by kernel_rfl) rfl #[.string a0] rfl Qm ?_; (with_reducible refine (ascii_Class.calls k a0 ai _ A2.out).mono ?_); rintro e w' ⟨rfl, ⟨nd, rfl⟩⟩; refine ⟨_, rfl, ?_⟩))
 go_ret
 exact ⟨Qs, Q0⟩
def tag_Variant.f (k : Nat) (a0 : ByteArray) : Option (Bool) := (ascii_Alnum.f k a0).bind fun ao => (if ao = true then ((tag_long.f a0 5 8).bind fun ap => (if ap = true then (some true) else (if (a0.size : Int) = 4 then (if 0 ≤ 1 then (if 1 ≤ (a0.size : Int) then ((ascii_Digit.f k (a0.extract 0 1)).bind fun al => (some al)) else (none)) else (none)) else (some false)))) else (some false))
set_option maxHeartbeats 8000000 in
set_option maxRecDepth 100000 in
theorem tag_Variant.calls (k : Nat) (a0 : ByteArray) (r : Bool) (w : World) (h : tag_Variant.f k a0 = some r) :
  Calls Tryz.prog 13 #[.string a0] w fun e w' => e = .returned (.bool r) ∧ Drawn0 w w' := by
 have H := h; unfold tag_Variant.f at H
 clear h
 replace H := Option.bind_eq_some_iff.mp H
 obtain ⟨ao, af, H⟩ := H
 try dsimp only at H
 have A2 := Aside0.mk af
 clear af
 by_cases c3 : ao = true
 ·subst c3
  rw [if_pos rfl] at H
  replace H := Option.bind_eq_some_iff.mp H
  obtain ⟨ap, aI, H⟩ := H
  try dsimp only at H
  have A4 := Aside0.mk aI
  clear aI
  by_cases c5 : ap = true
  ·subst c5
   rw [if_pos rfl] at H
   obtain rfl := Option.some.inj H
   go_enter Tryz.func13, Tryz.ntmps13
   go_wp2_with (first | ((with_reducible refine gate_callee (f := 49) rfl ?_); refine goesL_ (some 4) rfl rfl Tryz.func49 (by kernel_rfl) rfl #[.string a0] rfl Qm ?_; (with_reducible refine (ascii_Alnum.calls k a0 true _ A2.out).mono ?_); rintro e w' ⟨rfl, ⟨nd, rfl⟩⟩; refine ⟨_, rfl, ?_⟩) | (go_at_call 50; (with_reducible refine (tag_long.calls a0 5 8 true _ A4.out).mono ?_); rintro e w' ⟨rfl, ⟨nd, rfl⟩⟩))
   go_ret
   exact ⟨Qs, Q0⟩
  ·replace c5 := Bool.eq_false_iff.mpr c5
   subst c5
   rw [if_neg (show ¬ (false = true) by decide)] at H
   by_cases c6 : (a0.size : Int) = 4
   ·rw [if_pos c6] at H
    have ad : ((a0.size : Int) == 4) = true := beq_iff_eq.mpr c6
    have aF : ((a0.size : Int) != 4) = false := bne_eq_false_iff_eq.mpr c6
    clear c6
    by_cases c7 : 0 ≤ 1
    ·rw [if_pos c7] at H
     have ay := eq_true c7
     have az : decide (0 ≤ 1) = true := decide_eq_true c7
     clear c7
     by_cases c8 : 1 ≤ (a0.size : Int)
     ·rw [if_pos c8] at H
      have ax := eq_true c8
      have aN : decide (1 ≤ (a0.size : Int)) = true := decide_eq_true c8
      clear c8
      replace H := Option.bind_eq_some_iff.mp H
      obtain ⟨al, aJ, H⟩ := H
      replace H : (some al) = some r := H
      have A9 := Aside0.mk aJ
      clear aJ
      obtain rfl := Option.some.inj H
      go_enter Tryz.func13, Tryz.ntmps13
      go_wp2_with (first | ((with_reducible refine gate_callee (f := 49) rfl ?_); refine goesL_ (some 4) rfl rfl Tryz.func49 (by kernel_rfl) rfl #[.string a0] rfl Qm ?_; (with_reducible refine (ascii_Alnum.calls k a0 true _ A2.out).mono ?_); rintro e w' ⟨rfl, ⟨nd, rfl⟩⟩; refine ⟨_, rfl, ?_⟩) | (go_at_call 50; (with_reducible refine (tag_long.calls a0 5 8 false _ A4.out).mono ?_); rintro e w' ⟨rfl, ⟨nd, rfl⟩⟩) | (go_at_call 51; (with_reducible refine (ascii_Digit.calls k (a0.extract 0 1) al _ A9.out).mono ?_); rintro e w' ⟨rfl, ⟨nd, rfl⟩⟩))
      go_ret
      exact ⟨Qs, Q0⟩
     ·rw [if_neg c8] at H
      exact absurd H (by simp)
    ·rw [if_neg c7] at H
     exact absurd H (by simp)
   ·rw [if_neg c6] at H
    have ad : ((a0.size : Int) == 4) = false := beq_eq_false_iff_ne.mpr c6
    have aF : ((a0.size : Int) != 4) = true := bne_iff_ne.mpr c6
    obtain rfl := Option.some.inj H
    go_enter Tryz.func13, Tryz.ntmps13
    go_wp2_with (first | ((with_reducible refine gate_callee (f := 49) rfl ?_); refine goesL_ (some 4) rfl rfl Tryz.func49 (by kernel_rfl) rfl #[.string a0] rfl Qm ?_; (with_reducible refine (ascii_Alnum.calls k a0 true _ A2.out).mono ?_); rintro e w' ⟨rfl, ⟨nd, rfl⟩⟩; refine ⟨_, rfl, ?_⟩) | (go_at_call 50; (with_reducible refine (tag_long.calls a0 5 8 false _ A4.out).mono ?_); rintro e w' ⟨rfl, ⟨nd, rfl⟩⟩))
    go_ret
    exact ⟨Qs, Q0⟩
 ·replace c3 := Bool.eq_false_iff.mpr c3
  subst c3
  rw [if_neg (show ¬ (false = true) by decide)] at H
  obtain rfl := Option.some.inj H
  go_enter Tryz.func13, Tryz.ntmps13
  go_wp2_with (first | ((with_reducible refine gate_callee (f := 49) rfl ?_); refine goesL_ (some 4) rfl rfl Tryz.func49 (by kernel_rfl) rfl #[.string a0] rfl Qm ?_; (with_reducible refine (ascii_Alnum.calls k a0 false _ A2.out).mono ?_); rintro e w' ⟨rfl, ⟨nd, rfl⟩⟩; refine ⟨_, rfl, ?_⟩))
  go_ret
  exact ⟨Qs, Q0⟩
def ascii_Alpha.f (k : Nat) (a0 : ByteArray) : Option (Bool) := (ascii_Class.f k a0).bind fun aj => (some (aj == 1))
set_option maxHeartbeats 8000000 in
set_option maxRecDepth 100000 in
theorem ascii_Alpha.calls (k : Nat) (a0 : ByteArray) (r : Bool) (w : World) (h : ascii_Alpha.f k a0 = some r) :
  Calls Tryz.prog 52 #[.string a0] w fun e w' => e = .returned (.bool r) ∧ Drawn0 w w' := by
 have H : ((ascii_Class.f k a0).bind fun aj => (some (aj == 1))) = some r := h
 clear h
 replace H := Option.bind_eq_some_iff.mp H
 obtain ⟨aj, af, H⟩ := H
 replace H : (some (aj == 1)) = some r := H
 have A2 := Aside0.mk af
 clear af
 obtain rfl := Option.some.inj H
 go_enter Tryz.func52, Tryz.ntmps52
 go_wp2_with (first | ((with_reducible refine gate_callee (f := 84) rfl ?_); refine goesL_ (some 4) rfl rfl Tryz.func84 (by kernel_rfl) rfl #[.string a0] rfl Qm ?_; (with_reducible refine (ascii_Class.calls k a0 aj _ A2.out).mono ?_); rintro e w' ⟨rfl, ⟨nd, rfl⟩⟩; refine ⟨_, rfl, ?_⟩))
 go_ret
 exact ⟨Qs, Q0⟩
def tag_Region.f (k : Nat) (a0 : ByteArray) : Option (Bool) := (ascii_Alpha.f k a0).bind fun aq => (if aq = true then (if (a0.size : Int) = 2 then (some true) else ((ascii_Digit.f k a0).bind fun ar => (if ar = true then (some ((a0.size : Int) == 3)) else (some false)))) else ((ascii_Digit.f k a0).bind fun au => (if au = true then (some ((a0.size : Int) == 3)) else (some false))))
set_option maxHeartbeats 8000000 in
set_option maxRecDepth 100000 in
theorem tag_Region.calls (k : Nat) (a0 : ByteArray) (r : Bool) (w : World) (h : tag_Region.f k a0 = some r) :
  Calls Tryz.prog 14 #[.string a0] w fun e w' => e = .returned (.bool r) ∧ Drawn0 w w' := by
 have H := h; unfold tag_Region.f at H
 clear h
 replace H := Option.bind_eq_some_iff.mp H
 obtain ⟨aq, af, H⟩ := H
 try dsimp only at H
 have A2 := Aside0.mk af
 clear af
 by_cases c3 : aq = true
 ·subst c3
  rw [if_pos rfl] at H
  by_cases c4 : (a0.size : Int) = 2
  ·rw [if_pos c4] at H
   have ak : ((a0.size : Int) == 2) = true := beq_iff_eq.mpr c4
   have aG : ((a0.size : Int) != 2) = false := bne_eq_false_iff_eq.mpr c4
   clear c4
   obtain rfl := Option.some.inj H
   go_enter Tryz.func14, Tryz.ntmps14
   go_wp2_with (first | ((with_reducible refine gate_callee (f := 52) rfl ?_); refine goesL_ (some 4) rfl rfl Tryz.func52 (by kernel_rfl) rfl #[.string a0] rfl Qm ?_; (with_reducible refine (ascii_Alpha.calls k a0 true _ A2.out).mono ?_); rintro e w' ⟨rfl, ⟨nd, rfl⟩⟩; refine ⟨_, rfl, ?_⟩))
   go_ret
   exact ⟨Qs, Q0⟩
  ·rw [if_neg c4] at H
   have ak : ((a0.size : Int) == 2) = false := beq_eq_false_iff_ne.mpr c4
   have aG : ((a0.size : Int) != 2) = true := bne_iff_ne.mpr c4
   replace H := Option.bind_eq_some_iff.mp H
   obtain ⟨ar, aA, H⟩ := H
   try dsimp only at H
   have A5 := Aside0.mk aA
   clear aA
   by_cases c6 : ar = true
   ·subst c6
    rw [if_pos rfl] at H
    obtain rfl := Option.some.inj H
    go_enter Tryz.func14, Tryz.ntmps14
    go_wp2_with (first | ((with_reducible refine gate_callee (f := 52) rfl ?_); refine goesL_ (some 4) rfl rfl Tryz.func52 (by kernel_rfl) rfl #[.string a0] rfl Qm ?_; (with_reducible refine (ascii_Alpha.calls k a0 true _ A2.out).mono ?_); rintro e w' ⟨rfl, ⟨nd, rfl⟩⟩; refine ⟨_, rfl, ?_⟩) | (go_at_call 51; (with_reducible refine (ascii_Digit.calls k a0 true _ A5.out).mono ?_); rintro e w' ⟨rfl, ⟨nd, rfl⟩⟩))
    go_ret
    exact ⟨Qs, Q0⟩
   ·replace c6 := Bool.eq_false_iff.mpr c6
    subst c6
    rw [if_neg (show ¬ (false = true) by decide)] at H
    obtain rfl := Option.some.inj H
    go_enter Tryz.func14, Tryz.ntmps14
    go_wp2_with (first | ((with_reducible refine gate_callee (f := 52) rfl ?_); refine goesL_ (some 4) rfl rfl Tryz.func52 (by kernel_rfl) rfl #[.string a0] rfl Qm ?_; (with_reducible refine (ascii_Alpha.calls k a0 true _ A2.out).mono ?_); rintro e w' ⟨rfl, ⟨nd, rfl⟩⟩; refine ⟨_, rfl, ?_⟩) | (go_at_call 51; (with_reducible refine (ascii_Digit.calls k a0 false _ A5.out).mono ?_); rintro e w' ⟨rfl, ⟨nd, rfl⟩⟩))
    go_ret
    exact ⟨Qs, Q0⟩
 ·replace c3 := Bool.eq_false_iff.mpr c3
  subst c3
  rw [if_neg (show ¬ (false = true) by decide)] at H
  replace H := Option.bind_eq_some_iff.mp H
  obtain ⟨au, aK, H⟩ := H
  try dsimp only at H
  have A7 := Aside0.mk aK
  clear aK
  by_cases c8 : au = true
  ·subst c8
   rw [if_pos rfl] at H
   obtain rfl := Option.some.inj H
   go_enter Tryz.func14, Tryz.ntmps14
   go_wp2_with (first | ((with_reducible refine gate_callee (f := 52) rfl ?_); refine goesL_ (some 4) rfl rfl Tryz.func52 (by kernel_rfl) rfl #[.string a0] rfl Qm ?_; (with_reducible refine (ascii_Alpha.calls k a0 false _ A2.out).mono ?_); rintro e w' ⟨rfl, ⟨nd, rfl⟩⟩; refine ⟨_, rfl, ?_⟩) | (go_at_call 51; (with_reducible refine (ascii_Digit.calls k a0 true _ A7.out).mono ?_); rintro e w' ⟨rfl, ⟨nd, rfl⟩⟩))
   go_ret
   exact ⟨Qs, Q0⟩
  ·replace c8 := Bool.eq_false_iff.mpr c8
   subst c8
   rw [if_neg (show ¬ (false = true) by decide)] at H
   obtain rfl := Option.some.inj H
   go_enter Tryz.func14, Tryz.ntmps14
   go_wp2_with (first | ((with_reducible refine gate_callee (f := 52) rfl ?_); refine goesL_ (some 4) rfl rfl Tryz.func52 (by kernel_rfl) rfl #[.string a0] rfl Qm ?_; (with_reducible refine (ascii_Alpha.calls k a0 false _ A2.out).mono ?_); rintro e w' ⟨rfl, ⟨nd, rfl⟩⟩; refine ⟨_, rfl, ?_⟩) | (go_at_call 51; (with_reducible refine (ascii_Digit.calls k a0 false _ A7.out).mono ?_); rintro e w' ⟨rfl, ⟨nd, rfl⟩⟩))
   go_ret
   exact ⟨Qs, Q0⟩
def isoglosslaw06_awake.f (k : Nat)  : Option (Bool) := (tag_Variant.f k (⟨#[49, 57, 57, 52]⟩ : ByteArray)).bind fun av => (if av = true then ((tag_Variant.f k (⟨#[97, 114, 101, 118]⟩ : ByteArray)).bind fun aw => (if aw = true then (some false) else ((tag_Region.f k (⟨#[52, 49, 57]⟩ : ByteArray)).bind fun am => (some am)))) else (some false))
set_option maxHeartbeats 8000000 in
set_option maxRecDepth 100000 in
theorem isoglosslaw06_awake.calls (k : Nat)  (r : Bool) (w : World) (h : isoglosslaw06_awake.f k  = some r) :
  Calls Tryz.prog 5 #[] w fun e w' => e = .returned (.bool r) ∧ Drawn0 w w' := by
 have H := h; unfold isoglosslaw06_awake.f at H
 clear h
 replace H := Option.bind_eq_some_iff.mp H
 obtain ⟨av, aL, H⟩ := H
 try dsimp only at H
 have A1 := Aside0.mk aL
 clear aL
 by_cases c2 : av = true
 ·subst c2
  rw [if_pos rfl] at H
  replace H := Option.bind_eq_some_iff.mp H
  obtain ⟨aw, aM, H⟩ := H
  try dsimp only at H
  have A3 := Aside0.mk aM
  clear aM
  by_cases c4 : aw = true
  ·subst c4
   rw [if_pos rfl] at H
   obtain rfl := Option.some.inj H
   go_enter Tryz.func5, Tryz.ntmps5
   go_wp2_with (first | ((with_reducible refine gate_callee (f := 13) rfl ?_); refine goesL_ (some 1) rfl rfl Tryz.func13 (by kernel_rfl) rfl #[.string (⟨#[49, 57, 57, 52]⟩ : ByteArray)] rfl Qm ?_; (with_reducible refine (tag_Variant.calls k (⟨#[49, 57, 57, 52]⟩ : ByteArray) true _ A1.out).mono ?_); rintro e w' ⟨rfl, ⟨nd, rfl⟩⟩; refine ⟨_, rfl, ?_⟩) | (go_at_call 13; (with_reducible refine (tag_Variant.calls k (⟨#[97, 114, 101, 118]⟩ : ByteArray) true _ A3.out).mono ?_); rintro e w' ⟨rfl, ⟨nd, rfl⟩⟩))
   go_ret
   exact ⟨Qs, Q0⟩
  ·replace c4 := Bool.eq_false_iff.mpr c4
   subst c4
   rw [if_neg (show ¬ (false = true) by decide)] at H
   replace H := Option.bind_eq_some_iff.mp H
   obtain ⟨am, aA, H⟩ := H
   replace H : (some am) = some r := H
   have A5 := Aside0.mk aA
   clear aA
   obtain rfl := Option.some.inj H
   go_enter Tryz.func5, Tryz.ntmps5
   go_wp2_with (first | ((with_reducible refine gate_callee (f := 13) rfl ?_); refine goesL_ (some 1) rfl rfl Tryz.func13 (by kernel_rfl) rfl #[.string (⟨#[49, 57, 57, 52]⟩ : ByteArray)] rfl Qm ?_; (with_reducible refine (tag_Variant.calls k (⟨#[49, 57, 57, 52]⟩ : ByteArray) true _ A1.out).mono ?_); rintro e w' ⟨rfl, ⟨nd, rfl⟩⟩; refine ⟨_, rfl, ?_⟩) | (go_at_call 13; (with_reducible refine (tag_Variant.calls k (⟨#[97, 114, 101, 118]⟩ : ByteArray) false _ A3.out).mono ?_); rintro e w' ⟨rfl, ⟨nd, rfl⟩⟩) | (go_at_call 14; (with_reducible refine (tag_Region.calls k (⟨#[52, 49, 57]⟩ : ByteArray) am _ A5.out).mono ?_); rintro e w' ⟨rfl, ⟨nd, rfl⟩⟩))
   go_ret
   exact ⟨Qs, Q0⟩
 ·replace c2 := Bool.eq_false_iff.mpr c2
  subst c2
  rw [if_neg (show ¬ (false = true) by decide)] at H
  obtain rfl := Option.some.inj H
  go_enter Tryz.func5, Tryz.ntmps5
  go_wp2_with (first | ((with_reducible refine gate_callee (f := 13) rfl ?_); refine goesL_ (some 1) rfl rfl Tryz.func13 (by kernel_rfl) rfl #[.string (⟨#[49, 57, 57, 52]⟩ : ByteArray)] rfl Qm ?_; (with_reducible refine (tag_Variant.calls k (⟨#[49, 57, 57, 52]⟩ : ByteArray) false _ A1.out).mono ?_); rintro e w' ⟨rfl, ⟨nd, rfl⟩⟩; refine ⟨_, rfl, ?_⟩))
  go_ret
  exact ⟨Qs, Q0⟩
end Go.Proofs.YtljadeeoaoiilaaGreatDoor.P
