-- Written for this claim by the session's own run of the print, functions proved by hand put in.
import Derived.Test.YtljadeeoaoiilaaGreatDoorSq
import Derived.Test.YtljadeeoaoiilaaGreatDoorPx0
import Derived.Test.YtljadeeoaoiilaaGreatDoorPx14
namespace Go.Proofs.YtljadeeoaoiilaaGreatDoor.P
open Go.RowKit Go.Proofs.YtljadeeoaoiilaaGreatDoorW.PrintWords Go.Proofs.YtljadeeoaoiilaaGreatDoorW.PrintLast Go.Proofs.YtljadeeoaoiilaaGreatDoorW.PrintMore
attribute [local go_sem] max2_int min2_int max_two min_two max_three min_three max_four min_four   -- for this text's walks alone
set_option linter.unusedVariables false
set_option linter.unusedSimpArgs false
mutual
def r2_Class.l0 : Nat → ByteArray → Int → Int → Int → Option (Int)
 | 0, _, _, _, _ => none
 | k + 1, x0, x3, x4, x5 => if x5 < (x0.size : Int) then (if 0 ≤ x5 then ((r2_letter.f (bt x0 x5)).bind fun aB => ((r2_digit.f (bt x0 x5)).bind fun ap => (if aB = true then (if ap = true then (r2_Class.l0 k x0 (wrap64 (x3 + 1)) (wrap64 (x4 + 1)) (wrap64 (x5 + 1))) else (r2_Class.l0 k x0 (wrap64 (x3 + 1)) x4 (wrap64 (x5 + 1)))) else (if ap = true then (r2_Class.l0 k x0 x3 (wrap64 (x4 + 1)) (wrap64 (x5 + 1))) else (r2_Class.l0 k x0 x3 x4 (wrap64 (x5 + 1))))))) else (none)) else (if x0.toList = ([] : List UInt8) then (r2_Class.j1 k x3 x4 true) else (r2_Class.j1 k x3 x4 (decide ((wrap64 (x3 + x4)) < (x0.size : Int)))))
def r2_Class.j1 : Nat → Int → Int → Bool → Option (Int)
 | 0, _, _, _ => none
 | k + 1, x3, x4, x37 => if x37 = true then (some 0) else (if x4 = 0 then (some 1) else (if x3 = 0 then (some 2) else (some 3)))
end
def r2_Class.f (k : Nat) (a0 : ByteArray) : Option (Int) := r2_Class.l0 k a0 0 0 0
set_option maxHeartbeats 8000000 in
set_option maxRecDepth 100000 in
theorem r2_Class.calls (k : Nat) (a0 : ByteArray) (r : Int) (w : World) (h : r2_Class.f k a0 = some r) :
  Calls Tryz.prog 46 #[.string a0] w fun e w' => e = .returned (.int .i64 r) ∧ Drawn0 w w' := by
 have H : (r2_Class.l0 k a0 0 0 0) = some r := h
 clear h
 have H' := Aside0.mk H
 clear H
 go_enter Tryz.func46, Tryz.ntmps46
 go_wp2
 go_loopg [3, 4, 5] k (fun kq v3 v4 v5 w' => ∃ (ac : Int) (ad : Int) (aa : Int), v3 = .int .i64 ac ∧ v4 = .int .i64 ad ∧ v5 = .int .i64 aa ∧ Aside0 (r2_Class.l0 kq a0 ac ad aa = some r) ∧ Aside0 (kq ≤ k) ∧ Drawn0 w w')
 case atStart => exact ⟨(0), (0), (0), Qs, Qs, Qs, H', ⟨Nat.le_refl _⟩, Q0⟩
 case round =>
  clear H'
  obtain ⟨ac, ad, aa, rfl, rfl, rfl, HA, HK1, ⟨m1, rfl⟩⟩ := hrel
  cases gk with
  | zero => exact absurd HA.out (by simp [r2_Class.l0])
  | succ k1 =>
   have H := HA.out
   clear HA
   simp only [r2_Class.l0] at H
   by_cases c2 : aa < (a0.size : Int)
   ·rw [if_pos c2] at H
    have ak : decide (aa < (a0.size : Int)) = true := decide_eq_true c2
    clear c2
    by_cases c3 : 0 ≤ aa
    ·rw [if_pos c3] at H
     have ax : decide (0 ≤ aa) = true := decide_eq_true c3
     clear c3
     replace H := Option.bind_eq_some_iff.mp H
     obtain ⟨aB, aA, H⟩ := H
     try dsimp only at H
     have A5 := Aside0.mk aA
     clear aA
     replace H := Option.bind_eq_some_iff.mp H
     obtain ⟨ap, aT, H⟩ := H
     try dsimp only at H
     have A7 := Aside0.mk aT
     clear aT
     by_cases c8 : aB = true
     ·subst c8
      rw [if_pos rfl] at H
      by_cases c9 : ap = true
      ·subst c9
       rw [if_pos rfl] at H
       have H' := Aside0.mk H
       clear H
       have p4 : 0 ≤ (aa : Int) := of_decide_eq_true Qa
       have q4 : aa < (a0.size : Int) := of_decide_eq_true Qa
       have hx4 := bt_at a0 aa
       replace p4 := eq_true p4
       replace q4 := eq_true q4
       go_wp2_with (first | ((with_reducible refine gate_callee (f := 82) rfl ?_); refine goesL_ (some 17) rfl rfl Tryz.func82 (by kernel_rfl) rfl #[.int .u8 (bt a0 aa)] rfl Qm ?_; (with_reducible refine (r2_letter.calls (bt a0 aa) true _ A5.out).mono ?_); rintro e w' ⟨rfl, ⟨nd, rfl⟩⟩; refine ⟨_, rfl, ?_⟩; have p6 : 0 ≤ (aa : Int) := of_decide_eq_true Qa; have q6 : aa < (a0.size : Int) := of_decide_eq_true Qa; have hx6 := bt_at a0 aa; replace p6 := eq_true p6; replace q6 := eq_true q6) | ((with_reducible refine gate_callee (f := 83) rfl ?_); refine goesL_ (some 21) rfl rfl Tryz.func83 (by kernel_rfl) rfl #[.int .u8 (bt a0 aa)] rfl Qm ?_; (with_reducible refine (r2_digit.calls (bt a0 aa) true _ A7.out).mono ?_); rintro e w' ⟨rfl, ⟨nd, rfl⟩⟩; refine ⟨_, rfl, ?_⟩))
       go_roundg k1
       case measure => have := HK1.out; omega
       case rel => exact ⟨(wrap64 (ac + 1)), (wrap64 (ad + 1)), (wrap64 (aa + 1)), Qs, Qs, Qs, H', ⟨by have := HK1.out; omega⟩, Q0⟩
      ·replace c9 := Bool.eq_false_iff.mpr c9
       subst c9
       rw [if_neg (show ¬ (false = true) by decide)] at H
       have H' := Aside0.mk H
       clear H
       have p4 : 0 ≤ (aa : Int) := of_decide_eq_true Qa
       have q4 : aa < (a0.size : Int) := of_decide_eq_true Qa
       have hx4 := bt_at a0 aa
       replace p4 := eq_true p4
       replace q4 := eq_true q4
       go_wp2_with (first | ((with_reducible refine gate_callee (f := 82) rfl ?_); refine goesL_ (some 17) rfl rfl Tryz.func82 (by kernel_rfl) rfl #[.int .u8 (bt a0 aa)] rfl Qm ?_; (with_reducible refine (r2_letter.calls (bt a0 aa) true _ A5.out).mono ?_); rintro e w' ⟨rfl, ⟨nd, rfl⟩⟩; refine ⟨_, rfl, ?_⟩; have p6 : 0 ≤ (aa : Int) := of_decide_eq_true Qa; have q6 : aa < (a0.size : Int) := of_decide_eq_true Qa; have hx6 := bt_at a0 aa; replace p6 := eq_true p6; replace q6 := eq_true q6) | ((with_reducible refine gate_callee (f := 83) rfl ?_); refine goesL_ (some 21) rfl rfl Tryz.func83 (by kernel_rfl) rfl #[.int .u8 (bt a0 aa)] rfl Qm ?_; (with_reducible refine (r2_digit.calls (bt a0 aa) false _ A7.out).mono ?_); rintro e w' ⟨rfl, ⟨nd, rfl⟩⟩; refine ⟨_, rfl, ?_⟩))
       go_roundg k1
       case measure => have := HK1.out; omega
       case rel => exact ⟨(wrap64 (ac + 1)), (ad), (wrap64 (aa + 1)), Qs, Qs, Qs, H', ⟨by have := HK1.out; omega⟩, Q0⟩
     ·replace c8 := Bool.eq_false_iff.mpr c8
      subst c8
      rw [if_neg (show ¬ (false = true) by decide)] at H
      by_cases c10 : ap = true
      ·subst c10
       rw [if_pos rfl] at H
       have H' := Aside0.mk H
       clear H
       have p4 : 0 ≤ (aa : Int) := of_decide_eq_true Qa
       have q4 : aa < (a0.size : Int) := of_decide_eq_true Qa
       have hx4 := bt_at a0 aa
       replace p4 := eq_true p4
       replace q4 := eq_true q4
       go_wp2_with (first | ((with_reducible refine gate_callee (f := 82) rfl ?_); refine goesL_ (some 17) rfl rfl Tryz.func82 (by kernel_rfl) rfl #[.int .u8 (bt a0 aa)] rfl Qm ?_; (with_reducible refine (r2_letter.calls (bt a0 aa) false _ A5.out).mono ?_); rintro e w' ⟨rfl, ⟨nd, rfl⟩⟩; refine ⟨_, rfl, ?_⟩; have p6 : 0 ≤ (aa : Int) := of_decide_eq_true Qa; have q6 : aa < (a0.size : Int) := of_decide_eq_true Qa; have hx6 := bt_at a0 aa; replace p6 := eq_true p6; replace q6 := eq_true q6) | ((with_reducible refine gate_callee (f := 83) rfl ?_); refine goesL_ (some 21) rfl rfl Tryz.func83 (by kernel_rfl) rfl #[.int .u8 (bt a0 aa)] rfl Qm ?_; (with_reducible refine (r2_digit.calls (bt a0 aa) true _ A7.out).mono ?_); rintro e w' ⟨rfl, ⟨nd, rfl⟩⟩; refine ⟨_, rfl, ?_⟩))
       go_roundg k1
       case measure => have := HK1.out; omega
       case rel => exact ⟨(ac), (wrap64 (ad + 1)), (wrap64 (aa + 1)), Qs, Qs, Qs, H', ⟨by have := HK1.out; omega⟩, Q0⟩
      ·replace c10 := Bool.eq_false_iff.mpr c10
       subst c10
       rw [if_neg (show ¬ (false = true) by decide)] at H
       have H' := Aside0.mk H
       clear H
       have p4 : 0 ≤ (aa : Int) := of_decide_eq_true Qa
       have q4 : aa < (a0.size : Int) := of_decide_eq_true Qa
       have hx4 := bt_at a0 aa
       replace p4 := eq_true p4
       replace q4 := eq_true q4
       go_wp2_with (first | ((with_reducible refine gate_callee (f := 82) rfl ?_); refine goesL_ (some 17) rfl rfl Tryz.func82 (by kernel_rfl) rfl #[.int .u8 (bt a0 aa)] rfl Qm ?_; (with_reducible refine (r2_letter.calls (bt a0 aa) false _ A5.out).mono ?_); rintro e w' ⟨rfl, ⟨nd, rfl⟩⟩; refine ⟨_, rfl, ?_⟩; have p6 : 0 ≤ (aa : Int) := of_decide_eq_true Qa; have q6 : aa < (a0.size : Int) := of_decide_eq_true Qa; have hx6 := bt_at a0 aa; replace p6 := eq_true p6; replace q6 := eq_true q6) | ((with_reducible refine gate_callee (f := 83) rfl ?_); refine goesL_ (some 21) rfl rfl Tryz.func83 (by kernel_rfl) rfl #[.int .u8 (bt a0 aa)] rfl Qm ?_; (with_reducible refine (r2_digit.calls (bt a0 aa) false _ A7.out).mono ?_); rintro e w' ⟨rfl, ⟨nd, rfl⟩⟩; refine ⟨_, rfl, ?_⟩))
       go_roundg k1
       case measure => have := HK1.out; omega
       case rel => exact ⟨(ac), (ad), (wrap64 (aa + 1)), Qs, Qs, Qs, H', ⟨by have := HK1.out; omega⟩, Q0⟩
    ·rw [if_neg c3] at H
     exact absurd H (by simp)
   ·rw [if_neg c2] at H
    have ak : decide (aa < (a0.size : Int)) = false := decide_eq_false c2
    clear c2
    have aC := Aside0.mk H
    clear H
    go_upto_region 12 with (fail)
    go_cut [37] (fun v37 wc => ∃ (kq : Nat) (ag : Bool), v37 = .bool ag ∧ Aside0 (r2_Class.j1 kq ac ad ag = some r) ∧ Aside0 (kq ≤ k1) ∧ Drawn0 w wc)
    case first =>
     have H := aC.out
     clear aC
     by_cases c12 : a0.toList = ([] : List UInt8)
     ·rw [if_pos c12] at H
      have af : (a0.toList == ([] : List UInt8)) = true := beq_iff_eq.mpr c12
      have ah : a0.toList.isEmpty = true := List.isEmpty_iff.2 c12
      have aq : (!a0.toList.isEmpty) = false := by rw [ah]; rfl
      have aj : (a0.toList != ([] : List UInt8)) = false := bne_eq_false_iff_eq.mpr c12
      clear c12
      (first | rw [aq] | rw [ah] | rw [af] | rw [aj] | (simp only [i64_w, i32_w]; rw [af]) | skip)
      have H' := Aside0.mk H
      clear H
      go_wp2
      go_meet
      case rel => exact ⟨_, (true), Qs, H', ⟨by have := HK1.out; first | omega | exact Nat.le_refl _⟩, Q0⟩
     ·rw [if_neg c12] at H
      have af : (a0.toList == ([] : List UInt8)) = false := beq_eq_false_iff_ne.mpr c12
      have ah : a0.toList.isEmpty = false := List.isEmpty_eq_false_iff.2 c12
      have aq : (!a0.toList.isEmpty) = true := by rw [ah]; rfl
      have aj : (a0.toList != ([] : List UInt8)) = true := bne_iff_ne.mpr c12
      (first | rw [aq] | rw [ah] | rw [af] | rw [aj] | (simp only [i64_w, i32_w]; rw [af]) | skip)
      have H' := Aside0.mk H
      clear H
      go_wp2
      go_meet
      case rel => exact ⟨_, (decide ((wrap64 (ac + ad)) < (a0.size : Int))), Qs, H', ⟨by have := HK1.out; first | omega | exact Nat.le_refl _⟩, Q0⟩
    case rest =>
     clear aC
     try clear ak
     obtain ⟨kq, ag, rfl, HA, HJ10, ⟨mc10, rfl⟩⟩ := hcut
     cases kq with
     | zero => exact absurd HA.out (by simp [r2_Class.j1])
     | succ kj10 =>
      have H := HA.out
      clear HA
      simp only [r2_Class.j1] at H
      by_cases c13 : ag = true
      ·subst c13
       rw [if_pos rfl] at H
       obtain rfl := Option.some.inj H
       go_wp2
       go_ret
       exact ⟨Qs, Q0⟩
      ·replace c13 := Bool.eq_false_iff.mpr c13
       subst c13
       rw [if_neg (show ¬ (false = true) by decide)] at H
       by_cases c14 : ad = 0
       ·rw [if_pos c14] at H
        have ar : (ad == 0) = true := beq_iff_eq.mpr c14
        have aI : (ad != 0) = false := bne_eq_false_iff_eq.mpr c14
        clear c14
        obtain rfl := Option.some.inj H
        go_wp2
        go_ret
        exact ⟨Qs, Q0⟩
       ·rw [if_neg c14] at H
        have ar : (ad == 0) = false := beq_eq_false_iff_ne.mpr c14
        have aI : (ad != 0) = true := bne_iff_ne.mpr c14
        by_cases c15 : ac = 0
        ·rw [if_pos c15] at H
         have aJ : (ac == 0) = true := beq_iff_eq.mpr c15
         have aK : (ac != 0) = false := bne_eq_false_iff_eq.mpr c15
         clear c15
         obtain rfl := Option.some.inj H
         go_wp2
         go_ret
         exact ⟨Qs, Q0⟩
        ·rw [if_neg c15] at H
         have aJ : (ac == 0) = false := beq_eq_false_iff_ne.mpr c15
         have aK : (ac != 0) = true := bne_iff_ne.mpr c15
         obtain rfl := Option.some.inj H
         go_wp2
         go_ret
         exact ⟨Qs, Q0⟩
def r4_Sub.f (k : Nat) (a0 : ByteArray) : Option (Bool) := if (a0.size : Int) ≤ 8 then ((r2_Class.f k a0).bind fun ay => (some (decide (ay > 0)))) else (some false)
set_option maxHeartbeats 8000000 in
set_option maxRecDepth 100000 in
theorem r4_Sub.calls (k : Nat) (a0 : ByteArray) (r : Bool) (w : World) (h : r4_Sub.f k a0 = some r) :
  Calls Tryz.prog 11 #[.string a0] w fun e w' => e = .returned (.bool r) ∧ Drawn0 w w' := by
 have H := h; unfold r4_Sub.f at H
 clear h
 by_cases c2 : (a0.size : Int) ≤ 8
 ·rw [if_pos c2] at H
  have ak : decide ((a0.size : Int) ≤ 8) = true := decide_eq_true c2
  have aD : decide (a0.size ≤ 8) = true := decide_eq_true (by omega)
  clear c2
  replace H := Option.bind_eq_some_iff.mp H
  obtain ⟨ay, aL, H⟩ := H
  replace H : (some (decide (ay > 0))) = some r := H
  have A3 := Aside0.mk aL
  clear aL
  obtain rfl := Option.some.inj H
  go_enter Tryz.func11, Tryz.ntmps11
  go_wp2_with (first | (go_at_call 46; (with_reducible refine (r2_Class.calls k a0 ay _ A3.out).mono ?_); rintro e w' ⟨rfl, ⟨nd, rfl⟩⟩))
  go_ret
  exact ⟨Qs, Q0⟩
 ·rw [if_neg c2] at H
  have ak : decide ((a0.size : Int) ≤ 8) = false := decide_eq_false c2
  have aD : decide (a0.size ≤ 8) = false := decide_eq_false (by omega)
  clear c2
  obtain rfl := Option.some.inj H
  go_enter Tryz.func11, Tryz.ntmps11
  go_wp2
  go_ret
  exact ⟨Qs, Q0⟩
def r6_subs.l0 : Nat → List ByteArray → Int → Int → Option (Bool)
 | 0, _, _, _ => none
 | k + 1, x0, x1, x5 => if x5 < (x0.length : Int) then (if 0 ≤ x5 then ((r4_Sub.f k (rdOf ByteArray.empty x0 x5)).bind fun aE => (if aE = true then (if ((rdOf ByteArray.empty x0 x5).size : Int) < x1 then (some false) else (r6_subs.l0 k x0 x1 (wrap64 (x5 + 1)))) else (some false))) else (none)) else (some true)
def r6_subs.f (k : Nat) (l0 : List ByteArray) (a1 : Int) : Option (Bool) := r6_subs.l0 k l0 a1 0
set_option maxHeartbeats 8000000 in
set_option maxRecDepth 100000 in
theorem r6_subs.calls (k : Nat) (A0 : Option Addr) (c0 : Nat) (l0 : List ByteArray) (a1 : Int) (r : Bool) (w : World) (hr0 : Kd.C Kd.string w A0 l0.length l0) (hc0 : l0.length ≤ c0) (h : r6_subs.f k l0 a1 = some r) :
  Calls Tryz.prog 36 #[.slice A0 l0.length c0, .int .i64 a1] w fun e w' => e = .returned (.bool r) ∧ Drawn0 w w' := by
 have aM := Aside0.mk hr0
 have aW := Aside0.mk hc0
 clear hr0 hc0
 have H : (r6_subs.l0 k l0 a1 0) = some r := h
 clear h
 have H' := Aside0.mk H
 clear H
 go_enter Tryz.func36, Tryz.ntmps36
 go_wp2
 go_loopg [5] k (fun kq v5 w' => ∃ (aa : Int), v5 = .int .i64 aa ∧ Aside0 (r6_subs.l0 kq l0 a1 aa = some r) ∧ Aside0 (kq ≤ k) ∧ Drawn0 w w')
 case atStart => exact ⟨(0), Qs, H', ⟨Nat.le_refl _⟩, Q0⟩
 case round =>
  clear H'
  obtain ⟨aa, rfl, HA, HK1, ⟨m1, rfl⟩⟩ := hrel
  cases gk with
  | zero => exact absurd HA.out (by simp [r6_subs.l0])
  | succ k1 =>
   have H := HA.out
   clear HA
   simp only [r6_subs.l0] at H
   by_cases c3 : aa < (l0.length : Int)
   ·rw [if_pos c3] at H
    have ax : decide (aa < (l0.length : Int)) = true := decide_eq_true c3
    clear c3
    by_cases c4 : 0 ≤ aa
    ·rw [if_pos c4] at H
     have al : decide (0 ≤ aa) = true := decide_eq_true c4
     clear c4
     replace H := Option.bind_eq_some_iff.mp H
     obtain ⟨aE, aA, H⟩ := H
     try dsimp only at H
     have A5 := Aside0.mk aA
     clear aA
     by_cases c6 : aE = true
     ·subst c6
      rw [if_pos rfl] at H
      by_cases c7 : ((rdOf ByteArray.empty l0 aa).size : Int) < a1
      ·rw [if_pos c7] at H
       have aN : decide (((rdOf ByteArray.empty l0 aa).size : Int) < a1) = true := decide_eq_true c7
       clear c7
       obtain rfl := Option.some.inj H
       have p349 : 0 ≤ (aa : Int) := of_decide_eq_true Qa
       have q349 : aa < (l0.length : Int) := of_decide_eq_true Qa
       obtain ⟨ad349, e349, hx349_0⟩ := Kd.at_string aM.out aa p349 q349
       cases e349
       replace p349 := eq_true p349
       replace q349 := eq_true q349
       go_wp2_with (first | ((with_reducible refine gate_callee (f := 11) rfl ?_); refine goesL_ (some 17) rfl rfl Tryz.func11 (by kernel_rfl) rfl #[.string (rdOf ByteArray.empty l0 aa)] rfl Qm ?_; (with_reducible refine (r4_Sub.calls k1 (rdOf ByteArray.empty l0 aa) true _ A5.out).mono ?_); rintro e w' ⟨rfl, ⟨nd, rfl⟩⟩; refine ⟨_, rfl, ?_⟩; have p351 : 0 ≤ (aa : Int) := of_decide_eq_true Qa; have q351 : aa < (l0.length : Int) := of_decide_eq_true Qa; obtain ⟨ad351, e351, hx351_0⟩ := Kd.at_string aM.out aa p351 q351; obtain rfl : ad349 = ad351 := (by injection e351); replace p351 := eq_true p351; replace q351 := eq_true q351))
       go_ret
       exact ⟨Qs, Q0⟩
      ·rw [if_neg c7] at H
       have aN : decide (((rdOf ByteArray.empty l0 aa).size : Int) < a1) = false := decide_eq_false c7
       clear c7
       have H' := Aside0.mk H
       clear H
       have p349 : 0 ≤ (aa : Int) := of_decide_eq_true Qa
       have q349 : aa < (l0.length : Int) := of_decide_eq_true Qa
       obtain ⟨ad349, e349, hx349_0⟩ := Kd.at_string aM.out aa p349 q349
       cases e349
       replace p349 := eq_true p349
       replace q349 := eq_true q349
       go_wp2_with (first | ((with_reducible refine gate_callee (f := 11) rfl ?_); refine goesL_ (some 17) rfl rfl Tryz.func11 (by kernel_rfl) rfl #[.string (rdOf ByteArray.empty l0 aa)] rfl Qm ?_; (with_reducible refine (r4_Sub.calls k1 (rdOf ByteArray.empty l0 aa) true _ A5.out).mono ?_); rintro e w' ⟨rfl, ⟨nd, rfl⟩⟩; refine ⟨_, rfl, ?_⟩; have p351 : 0 ≤ (aa : Int) := of_decide_eq_true Qa; have q351 : aa < (l0.length : Int) := of_decide_eq_true Qa; obtain ⟨ad351, e351, hx351_0⟩ := Kd.at_string aM.out aa p351 q351; obtain rfl : ad349 = ad351 := (by injection e351); replace p351 := eq_true p351; replace q351 := eq_true q351))
       go_roundg k1
       case measure => have := HK1.out; omega
       case rel => exact ⟨(wrap64 (aa + 1)), Qs, H', ⟨by have := HK1.out; omega⟩, Q0⟩
     ·replace c6 := Bool.eq_false_iff.mpr c6
      subst c6
      rw [if_neg (show ¬ (false = true) by decide)] at H
      obtain rfl := Option.some.inj H
      have p349 : 0 ≤ (aa : Int) := of_decide_eq_true Qa
      have q349 : aa < (l0.length : Int) := of_decide_eq_true Qa
      obtain ⟨ad349, e349, hx349_0⟩ := Kd.at_string aM.out aa p349 q349
      cases e349
      replace p349 := eq_true p349
      replace q349 := eq_true q349
      go_wp2_with (first | ((with_reducible refine gate_callee (f := 11) rfl ?_); refine goesL_ (some 17) rfl rfl Tryz.func11 (by kernel_rfl) rfl #[.string (rdOf ByteArray.empty l0 aa)] rfl Qm ?_; (with_reducible refine (r4_Sub.calls k1 (rdOf ByteArray.empty l0 aa) false _ A5.out).mono ?_); rintro e w' ⟨rfl, ⟨nd, rfl⟩⟩; refine ⟨_, rfl, ?_⟩))
      go_ret
      exact ⟨Qs, Q0⟩
    ·rw [if_neg c4] at H
     exact absurd H (by simp)
   ·rw [if_neg c3] at H
    have ax : decide (aa < (l0.length : Int)) = false := decide_eq_false c3
    clear c3
    obtain rfl := Option.some.inj H
    go_wp2
    go_ret
    exact ⟨Qs, Q0⟩
def r6_letters.f (k : Nat) (a0 : ByteArray) (a1 : Int) (a2 : Int) : Option (Bool) := (r2_Class.f k a0).bind fun ae => (if ae = 1 then (if (a0.size : Int) ≥ a1 then (some (decide ((a0.size : Int) ≤ a2))) else (some false)) else (some false))
set_option maxHeartbeats 8000000 in
set_option maxRecDepth 100000 in
theorem r6_letters.calls (k : Nat) (a0 : ByteArray) (a1 : Int) (a2 : Int) (r : Bool) (w : World) (h : r6_letters.f k a0 a1 a2 = some r) :
  Calls Tryz.prog 77 #[.string a0, .int .i64 a1, .int .i64 a2] w fun e w' => e = .returned (.bool r) ∧ Drawn0 w w' := by
 have H := h; unfold r6_letters.f at H
 clear h
 replace H := Option.bind_eq_some_iff.mp H
 obtain ⟨ae, aU, H⟩ := H
 try dsimp only at H
 have A4 := Aside0.mk aU
 clear aU
 by_cases c5 : ae = 1
 ·rw [if_pos c5] at H
  have au : (ae == 1) = true := beq_iff_eq.mpr c5
  have av : (ae != 1) = false := bne_eq_false_iff_eq.mpr c5
  clear c5
  by_cases c6 : (a0.size : Int) ≥ a1
  ·rw [if_pos c6] at H
   have aF : decide (a1 ≤ (a0.size : Int)) = true := decide_eq_true c6
   clear c6
   obtain rfl := Option.some.inj H
   go_enter Tryz.func77, Tryz.ntmps77
   go_wp2_with (first | ((with_reducible refine gate_callee (f := 46) rfl ?_); refine goesL_ (some 8) rfl rfl Tryz.func46 (by kernel_rfl) rfl #[.string a0] rfl Qm ?_; (with_reducible refine (r2_Class.calls k a0 ae _ A4.out).mono ?_); rintro e w' ⟨rfl, ⟨nd, rfl⟩⟩; refine ⟨_, rfl, ?_⟩))
   go_ret
   exact ⟨Qs, Q0⟩
  ·rw [if_neg c6] at H
   have aF : decide (a1 ≤ (a0.size : Int)) = false := decide_eq_false c6
   clear c6
   obtain rfl := Option.some.inj H
   go_enter Tryz.func77, Tryz.ntmps77
   go_wp2_with (first | ((with_reducible refine gate_callee (f := 46) rfl ?_); refine goesL_ (some 8) rfl rfl Tryz.func46 (by kernel_rfl) rfl #[.string a0] rfl Qm ?_; (with_reducible refine (r2_Class.calls k a0 ae _ A4.out).mono ?_); rintro e w' ⟨rfl, ⟨nd, rfl⟩⟩; refine ⟨_, rfl, ?_⟩))
   go_ret
   exact ⟨Qs, Q0⟩
 ·rw [if_neg c5] at H
  have au : (ae == 1) = false := beq_eq_false_iff_ne.mpr c5
  have av : (ae != 1) = true := bne_iff_ne.mpr c5
  obtain rfl := Option.some.inj H
  go_enter Tryz.func77, Tryz.ntmps77
  go_wp2_with (first | ((with_reducible refine gate_callee (f := 46) rfl ?_); refine goesL_ (some 8) rfl rfl Tryz.func46 (by kernel_rfl) rfl #[.string a0] rfl Qm ?_; (with_reducible refine (r2_Class.calls k a0 ae _ A4.out).mono ?_); rintro e w' ⟨rfl, ⟨nd, rfl⟩⟩; refine ⟨_, rfl, ?_⟩))
  go_ret
  exact ⟨Qs, Q0⟩
def r6_Language.f (k : Nat) (a0 : ByteArray) : Option (Bool) := (r6_letters.f k a0 2 8).bind fun am => (some am)
set_option maxHeartbeats 8000000 in
set_option maxRecDepth 100000 in
theorem r6_Language.calls (k : Nat) (a0 : ByteArray) (r : Bool) (w : World) (h : r6_Language.f k a0 = some r) :
  Calls Tryz.prog 37 #[.string a0] w fun e w' => e = .returned (.bool r) ∧ Drawn0 w w' := by
 have H : ((r6_letters.f k a0 2 8).bind fun am => (some am)) = some r := h
 clear h
 replace H := Option.bind_eq_some_iff.mp H
 obtain ⟨am, aw, H⟩ := H
 replace H : (some am) = some r := H
 have A2 := Aside0.mk aw
 clear aw
 obtain rfl := Option.some.inj H
 go_enter Tryz.func37, Tryz.ntmps37
 go_wp2_with (first | ((with_reducible refine gate_callee (f := 77) rfl ?_); refine goesL_ (some 4) rfl rfl Tryz.func77 (by kernel_rfl) rfl #[.string a0, .int .i64 2, .int .i64 8] rfl Qm ?_; (with_reducible refine (r6_letters.calls k a0 2 8 am _ A2.out).mono ?_); rintro e w' ⟨rfl, ⟨nd, rfl⟩⟩; refine ⟨_, rfl, ?_⟩))
 go_ret
 exact ⟨Qs, Q0⟩
def r6_Script.f (k : Nat) (a0 : ByteArray) : Option (Bool) := (r6_letters.f k a0 4 4).bind fun ao => (some ao)
set_option maxHeartbeats 8000000 in
set_option maxRecDepth 100000 in
theorem r6_Script.calls (k : Nat) (a0 : ByteArray) (r : Bool) (w : World) (h : r6_Script.f k a0 = some r) :
  Calls Tryz.prog 38 #[.string a0] w fun e w' => e = .returned (.bool r) ∧ Drawn0 w w' := by
 have H : ((r6_letters.f k a0 4 4).bind fun ao => (some ao)) = some r := h
 clear h
 replace H := Option.bind_eq_some_iff.mp H
 obtain ⟨ao, aw, H⟩ := H
 replace H : (some ao) = some r := H
 have A2 := Aside0.mk aw
 clear aw
 obtain rfl := Option.some.inj H
 go_enter Tryz.func38, Tryz.ntmps38
 go_wp2_with (first | ((with_reducible refine gate_callee (f := 77) rfl ?_); refine goesL_ (some 4) rfl rfl Tryz.func77 (by kernel_rfl) rfl #[.string a0, .int .i64 4, .int .i64 4] rfl Qm ?_; (with_reducible refine (r6_letters.calls k a0 4 4 ao _ A2.out).mono ?_); rintro e w' ⟨rfl, ⟨nd, rfl⟩⟩; refine ⟨_, rfl, ?_⟩))
 go_ret
 exact ⟨Qs, Q0⟩
def r6_Region.f (k : Nat) (a0 : ByteArray) : Option (Bool) := (r6_letters.f k a0 2 2).bind fun aG => (if aG = true then (some true) else (if (a0.size : Int) = 3 then ((r2_Class.f k a0).bind fun az => (some (az == 2))) else (some false)))
set_option maxHeartbeats 8000000 in
set_option maxRecDepth 100000 in
theorem r6_Region.calls (k : Nat) (a0 : ByteArray) (r : Bool) (w : World) (h : r6_Region.f k a0 = some r) :
  Calls Tryz.prog 39 #[.string a0] w fun e w' => e = .returned (.bool r) ∧ Drawn0 w w' := by
 have H := h; unfold r6_Region.f at H
 clear h
 replace H := Option.bind_eq_some_iff.mp H
 obtain ⟨aG, aw, H⟩ := H
 try dsimp only at H
 have A2 := Aside0.mk aw
 clear aw
 by_cases c3 : aG = true
 ·subst c3
  rw [if_pos rfl] at H
  obtain rfl := Option.some.inj H
  go_enter Tryz.func39, Tryz.ntmps39
  go_wp2_with (first | ((with_reducible refine gate_callee (f := 77) rfl ?_); refine goesL_ (some 5) rfl rfl Tryz.func77 (by kernel_rfl) rfl #[.string a0, .int .i64 2, .int .i64 2] rfl Qm ?_; (with_reducible refine (r6_letters.calls k a0 2 2 true _ A2.out).mono ?_); rintro e w' ⟨rfl, ⟨nd, rfl⟩⟩; refine ⟨_, rfl, ?_⟩))
  go_ret
  exact ⟨Qs, Q0⟩
 ·replace c3 := Bool.eq_false_iff.mpr c3
  subst c3
  rw [if_neg (show ¬ (false = true) by decide)] at H
  by_cases c4 : (a0.size : Int) = 3
  ·rw [if_pos c4] at H
   have al : ((a0.size : Int) == 3) = true := beq_iff_eq.mpr c4
   have aH : ((a0.size : Int) != 3) = false := bne_eq_false_iff_eq.mpr c4
   clear c4
   replace H := Option.bind_eq_some_iff.mp H
   obtain ⟨az, aA, H⟩ := H
   replace H : (some (az == 2)) = some r := H
   have A5 := Aside0.mk aA
   clear aA
   obtain rfl := Option.some.inj H
   go_enter Tryz.func39, Tryz.ntmps39
   go_wp2_with (first | ((with_reducible refine gate_callee (f := 77) rfl ?_); refine goesL_ (some 5) rfl rfl Tryz.func77 (by kernel_rfl) rfl #[.string a0, .int .i64 2, .int .i64 2] rfl Qm ?_; (with_reducible refine (r6_letters.calls k a0 2 2 false _ A2.out).mono ?_); rintro e w' ⟨rfl, ⟨nd, rfl⟩⟩; refine ⟨_, rfl, ?_⟩) | (go_at_call 46; (with_reducible refine (r2_Class.calls k a0 az _ A5.out).mono ?_); rintro e w' ⟨rfl, ⟨nd, rfl⟩⟩))
   go_ret
   exact ⟨Qs, Q0⟩
  ·rw [if_neg c4] at H
   have al : ((a0.size : Int) == 3) = false := beq_eq_false_iff_ne.mpr c4
   have aH : ((a0.size : Int) != 3) = true := bne_iff_ne.mpr c4
   obtain rfl := Option.some.inj H
   go_enter Tryz.func39, Tryz.ntmps39
   go_wp2_with (first | ((with_reducible refine gate_callee (f := 77) rfl ?_); refine goesL_ (some 5) rfl rfl Tryz.func77 (by kernel_rfl) rfl #[.string a0, .int .i64 2, .int .i64 2] rfl Qm ?_; (with_reducible refine (r6_letters.calls k a0 2 2 false _ A2.out).mono ?_); rintro e w' ⟨rfl, ⟨nd, rfl⟩⟩; refine ⟨_, rfl, ?_⟩))
   go_ret
   exact ⟨Qs, Q0⟩
def r6_Variant.f (k : Nat) (a0 : ByteArray) : Option (Bool) := (r2_Class.f k a0).bind fun ab => (if ab = 0 then (some false) else (if (a0.size : Int) ≥ 5 then (if (a0.size : Int) ≤ 8 then (some true) else (if (a0.size : Int) = 4 then (if 0 < (a0.size : Int) then (if (bt a0 0) ≥ 48 then (some (decide ((bt a0 0) ≤ 57))) else (some false)) else (none)) else (some false))) else (if (a0.size : Int) = 4 then (if 0 < (a0.size : Int) then (if (bt a0 0) ≥ 48 then (some (decide ((bt a0 0) ≤ 57))) else (some false)) else (none)) else (some false))))
set_option maxHeartbeats 8000000 in
set_option maxRecDepth 100000 in
theorem r6_Variant.calls (k : Nat) (a0 : ByteArray) (r : Bool) (w : World) (h : r6_Variant.f k a0 = some r) :
  Calls Tryz.prog 78 #[.string a0] w fun e w' => e = .returned (.bool r) ∧ Drawn0 w w' := by
 have H := h; unfold r6_Variant.f at H
 clear h
 replace H := Option.bind_eq_some_iff.mp H
 obtain ⟨ab, aw, H⟩ := H
 try dsimp only at H
 have A2 := Aside0.mk aw
 clear aw
 by_cases c3 : ab = 0
 ·rw [if_pos c3] at H
  have ax : (ab == 0) = true := beq_iff_eq.mpr c3
  have aQ : (ab != 0) = false := bne_eq_false_iff_eq.mpr c3
  clear c3
  obtain rfl := Option.some.inj H
  go_enter Tryz.func78, Tryz.ntmps78
  go_wp2_with (first | ((with_reducible refine gate_callee (f := 46) rfl ?_); refine goesL_ (some 4) rfl rfl Tryz.func46 (by kernel_rfl) rfl #[.string a0] rfl Qm ?_; (with_reducible refine (r2_Class.calls k a0 ab _ A2.out).mono ?_); rintro e w' ⟨rfl, ⟨nd, rfl⟩⟩; refine ⟨_, rfl, ?_⟩))
  go_ret
  exact ⟨Qs, Q0⟩
 ·rw [if_neg c3] at H
  have ax : (ab == 0) = false := beq_eq_false_iff_ne.mpr c3
  have aQ : (ab != 0) = true := bne_iff_ne.mpr c3
  by_cases c4 : (a0.size : Int) ≥ 5
  ·rw [if_pos c4] at H
   have al : decide (5 ≤ (a0.size : Int)) = true := decide_eq_true c4
   have aH : decide (5 ≤ a0.size) = true := decide_eq_true (by omega)
   clear c4
   by_cases c5 : (a0.size : Int) ≤ 8
   ·rw [if_pos c5] at H
    have au : decide ((a0.size : Int) ≤ 8) = true := decide_eq_true c5
    have av : decide (a0.size ≤ 8) = true := decide_eq_true (by omega)
    clear c5
    obtain rfl := Option.some.inj H
    go_enter Tryz.func78, Tryz.ntmps78
    go_wp2_with (first | ((with_reducible refine gate_callee (f := 46) rfl ?_); refine goesL_ (some 4) rfl rfl Tryz.func46 (by kernel_rfl) rfl #[.string a0] rfl Qm ?_; (with_reducible refine (r2_Class.calls k a0 ab _ A2.out).mono ?_); rintro e w' ⟨rfl, ⟨nd, rfl⟩⟩; refine ⟨_, rfl, ?_⟩))
    go_ret
    exact ⟨Qs, Q0⟩
   ·rw [if_neg c5] at H
    have au : decide ((a0.size : Int) ≤ 8) = false := decide_eq_false c5
    have av : decide (a0.size ≤ 8) = false := decide_eq_false (by omega)
    clear c5
    by_cases c6 : (a0.size : Int) = 4
    ·rw [if_pos c6] at H
     have aF : ((a0.size : Int) == 4) = true := beq_iff_eq.mpr c6
     have aR : ((a0.size : Int) != 4) = false := bne_eq_false_iff_eq.mpr c6
     clear c6
     by_cases c7 : 0 < (a0.size : Int)
     ·rw [if_pos c7] at H
      have aN : decide (0 < (a0.size : Int)) = true := decide_eq_true c7
      have aV : decide (0 < a0.size) = true := decide_eq_true (by omega)
      clear c7
      by_cases c9 : (bt a0 0) ≥ 48
      ·rw [if_pos c9] at H
       have aS : decide (48 ≤ (bt a0 0)) = true := decide_eq_true c9
       clear c9
       obtain rfl := Option.some.inj H
       go_enter Tryz.func78, Tryz.ntmps78
       go_wp2_with (first | ((with_reducible refine gate_callee (f := 46) rfl ?_); refine goesL_ (some 4) rfl rfl Tryz.func46 (by kernel_rfl) rfl #[.string a0] rfl Qm ?_; (with_reducible refine (r2_Class.calls k a0 ab _ A2.out).mono ?_); rintro e w' ⟨rfl, ⟨nd, rfl⟩⟩; refine ⟨_, rfl, ?_⟩; have p8 : 0 ≤ (0 : Int) := (by omega); have q8 : 0 < a0.size := (by have : (0 : Int) < (a0.size : Int) := of_decide_eq_true Qa; omega); have hx8 : ∀ h : 0 < a0.size, ((a0[0]'h).toNat : Int) = bt a0 0 := bt_at a0 0; clear p8; have qi8 : (0 < (a0.size : Int)) = True := eq_true (of_decide_eq_true Qa); replace q8 := eq_true q8; have p10 : 0 ≤ (0 : Int) := (by omega); have q10 : 0 < a0.size := (by have : (0 : Int) < (a0.size : Int) := of_decide_eq_true Qa; omega); have hx10 : ∀ h : 0 < a0.size, ((a0[0]'h).toNat : Int) = bt a0 0 := bt_at a0 0; clear p10; have qi10 : (0 < (a0.size : Int)) = True := eq_true (of_decide_eq_true Qa); replace q10 := eq_true q10))
       go_ret
       exact ⟨Qs, Q0⟩
      ·rw [if_neg c9] at H
       have aS : decide (48 ≤ (bt a0 0)) = false := decide_eq_false c9
       clear c9
       obtain rfl := Option.some.inj H
       go_enter Tryz.func78, Tryz.ntmps78
       go_wp2_with (first | ((with_reducible refine gate_callee (f := 46) rfl ?_); refine goesL_ (some 4) rfl rfl Tryz.func46 (by kernel_rfl) rfl #[.string a0] rfl Qm ?_; (with_reducible refine (r2_Class.calls k a0 ab _ A2.out).mono ?_); rintro e w' ⟨rfl, ⟨nd, rfl⟩⟩; refine ⟨_, rfl, ?_⟩; have p8 : 0 ≤ (0 : Int) := (by omega); have q8 : 0 < a0.size := (by have : (0 : Int) < (a0.size : Int) := of_decide_eq_true Qa; omega); have hx8 : ∀ h : 0 < a0.size, ((a0[0]'h).toNat : Int) = bt a0 0 := bt_at a0 0; clear p8; have qi8 : (0 < (a0.size : Int)) = True := eq_true (of_decide_eq_true Qa); replace q8 := eq_true q8))
       go_ret
       exact ⟨Qs, Q0⟩
     ·rw [if_neg c7] at H
      exact absurd H (by simp)
    ·rw [if_neg c6] at H
     have aF : ((a0.size : Int) == 4) = false := beq_eq_false_iff_ne.mpr c6
     have aR : ((a0.size : Int) != 4) = true := bne_iff_ne.mpr c6
     obtain rfl := Option.some.inj H
     go_enter Tryz.func78, Tryz.ntmps78
     go_wp2_with (first | ((with_reducible refine gate_callee (f := 46) rfl ?_); refine goesL_ (some 4) rfl rfl Tryz.func46 (by kernel_rfl) rfl #[.string a0] rfl Qm ?_; (with_reducible refine (r2_Class.calls k a0 ab _ A2.out).mono ?_); rintro e w' ⟨rfl, ⟨nd, rfl⟩⟩; refine ⟨_, rfl, ?_⟩))
     go_ret
     exact ⟨Qs, Q0⟩
  ·rw [if_neg c4] at H
   have al : decide (5 ≤ (a0.size : Int)) = false := decide_eq_false c4
   have aH : decide (5 ≤ a0.size) = false := decide_eq_false (by omega)
   clear c4
   by_cases c11 : (a0.size : Int) = 4
   ·rw [if_pos c11] at H
    have aO : ((a0.size : Int) == 4) = true := beq_iff_eq.mpr c11
    have aP : ((a0.size : Int) != 4) = false := bne_eq_false_iff_eq.mpr c11
    clear c11
    by_cases c12 : 0 < (a0.size : Int)
    ·rw [if_pos c12] at H
     have af : decide (0 < (a0.size : Int)) = true := decide_eq_true c12
     have aj : decide (0 < a0.size) = true := decide_eq_true (by omega)
     clear c12
     by_cases c14 : (bt a0 0) ≥ 48
     ·rw [if_pos c14] at H
      have ar : decide (48 ≤ (bt a0 0)) = true := decide_eq_true c14
      clear c14
      obtain rfl := Option.some.inj H
      go_enter Tryz.func78, Tryz.ntmps78
      go_wp2_with (first | ((with_reducible refine gate_callee (f := 46) rfl ?_); refine goesL_ (some 4) rfl rfl Tryz.func46 (by kernel_rfl) rfl #[.string a0] rfl Qm ?_; (with_reducible refine (r2_Class.calls k a0 ab _ A2.out).mono ?_); rintro e w' ⟨rfl, ⟨nd, rfl⟩⟩; refine ⟨_, rfl, ?_⟩; have p13 : 0 ≤ (0 : Int) := (by omega); have q13 : 0 < a0.size := (by have : (0 : Int) < (a0.size : Int) := of_decide_eq_true Qa; omega); have hx13 : ∀ h : 0 < a0.size, ((a0[0]'h).toNat : Int) = bt a0 0 := bt_at a0 0; clear p13; have qi13 : (0 < (a0.size : Int)) = True := eq_true (of_decide_eq_true Qa); replace q13 := eq_true q13; have p15 : 0 ≤ (0 : Int) := (by omega); have q15 : 0 < a0.size := (by have : (0 : Int) < (a0.size : Int) := of_decide_eq_true Qa; omega); have hx15 : ∀ h : 0 < a0.size, ((a0[0]'h).toNat : Int) = bt a0 0 := bt_at a0 0; clear p15; have qi15 : (0 < (a0.size : Int)) = True := eq_true (of_decide_eq_true Qa); replace q15 := eq_true q15))
      go_ret
      exact ⟨Qs, Q0⟩
     ·rw [if_neg c14] at H
      have ar : decide (48 ≤ (bt a0 0)) = false := decide_eq_false c14
      clear c14
      obtain rfl := Option.some.inj H
      go_enter Tryz.func78, Tryz.ntmps78
      go_wp2_with (first | ((with_reducible refine gate_callee (f := 46) rfl ?_); refine goesL_ (some 4) rfl rfl Tryz.func46 (by kernel_rfl) rfl #[.string a0] rfl Qm ?_; (with_reducible refine (r2_Class.calls k a0 ab _ A2.out).mono ?_); rintro e w' ⟨rfl, ⟨nd, rfl⟩⟩; refine ⟨_, rfl, ?_⟩; have p13 : 0 ≤ (0 : Int) := (by omega); have q13 : 0 < a0.size := (by have : (0 : Int) < (a0.size : Int) := of_decide_eq_true Qa; omega); have hx13 : ∀ h : 0 < a0.size, ((a0[0]'h).toNat : Int) = bt a0 0 := bt_at a0 0; clear p13; have qi13 : (0 < (a0.size : Int)) = True := eq_true (of_decide_eq_true Qa); replace q13 := eq_true q13))
      go_ret
      exact ⟨Qs, Q0⟩
    ·rw [if_neg c12] at H
     exact absurd H (by simp)
   ·rw [if_neg c11] at H
    have aO : ((a0.size : Int) == 4) = false := beq_eq_false_iff_ne.mpr c11
    have aP : ((a0.size : Int) != 4) = true := bne_iff_ne.mpr c11
    obtain rfl := Option.some.inj H
    go_enter Tryz.func78, Tryz.ntmps78
    go_wp2_with (first | ((with_reducible refine gate_callee (f := 46) rfl ?_); refine goesL_ (some 4) rfl rfl Tryz.func46 (by kernel_rfl) rfl #[.string a0] rfl Qm ?_; (with_reducible refine (r2_Class.calls k a0 ab _ A2.out).mono ?_); rintro e w' ⟨rfl, ⟨nd, rfl⟩⟩; refine ⟨_, rfl, ?_⟩))
    go_ret
    exact ⟨Qs, Q0⟩
def r6_Singleton.f (k : Nat) (a0 : ByteArray) : Option (Bool) := if (a0.size : Int) = 1 then ((r2_Class.f k a0).bind fun ai => (if ai > 0 then (if a0.toList = ([120] : List UInt8) then (some false) else (some (a0.toList != ([88] : List UInt8)))) else (some false))) else (some false)
set_option maxHeartbeats 8000000 in
set_option maxRecDepth 100000 in
theorem r6_Singleton.calls (k : Nat) (a0 : ByteArray) (r : Bool) (w : World) (h : r6_Singleton.f k a0 = some r) :
  Calls Tryz.prog 79 #[.string a0] w fun e w' => e = .returned (.bool r) ∧ Drawn0 w w' := by
 have H := h; unfold r6_Singleton.f at H
 clear h
 by_cases c2 : (a0.size : Int) = 1
 ·rw [if_pos c2] at H
  have ak : ((a0.size : Int) == 1) = true := beq_iff_eq.mpr c2
  have aD : ((a0.size : Int) != 1) = false := bne_eq_false_iff_eq.mpr c2
  clear c2
  replace H := Option.bind_eq_some_iff.mp H
  obtain ⟨ai, aL, H⟩ := H
  try dsimp only at H
  have A3 := Aside0.mk aL
  clear aL
  by_cases c4 : ai > 0
  ·rw [if_pos c4] at H
   have al : decide (0 < ai) = true := decide_eq_true c4
   clear c4
   by_cases c5 : a0.toList = ([120] : List UInt8)
   ·rw [if_pos c5] at H
    have au : (a0.toList == ([120] : List UInt8)) = true := beq_iff_eq.mpr c5
    have av : (a0.toList != ([120] : List UInt8)) = false := bne_eq_false_iff_eq.mpr c5
    clear c5
    obtain rfl := Option.some.inj H
    go_enter Tryz.func79, Tryz.ntmps79
    go_wp2_with (first | (go_at_call 46; (with_reducible refine (r2_Class.calls k a0 ai _ A3.out).mono ?_); rintro e w' ⟨rfl, ⟨nd, rfl⟩⟩))
    go_ret
    exact ⟨Qs, Q0⟩
   ·rw [if_neg c5] at H
    have au : (a0.toList == ([120] : List UInt8)) = false := beq_eq_false_iff_ne.mpr c5
    have av : (a0.toList != ([120] : List UInt8)) = true := bne_iff_ne.mpr c5
    obtain rfl := Option.some.inj H
    go_enter Tryz.func79, Tryz.ntmps79
    go_wp2_with (first | (go_at_call 46; (with_reducible refine (r2_Class.calls k a0 ai _ A3.out).mono ?_); rintro e w' ⟨rfl, ⟨nd, rfl⟩⟩))
    go_ret
    exact ⟨Qs, Q0⟩
  ·rw [if_neg c4] at H
   have al : decide (0 < ai) = false := decide_eq_false c4
   clear c4
   obtain rfl := Option.some.inj H
   go_enter Tryz.func79, Tryz.ntmps79
   go_wp2_with (first | (go_at_call 46; (with_reducible refine (r2_Class.calls k a0 ai _ A3.out).mono ?_); rintro e w' ⟨rfl, ⟨nd, rfl⟩⟩))
   go_ret
   exact ⟨Qs, Q0⟩
 ·rw [if_neg c2] at H
  have ak : ((a0.size : Int) == 1) = false := beq_eq_false_iff_ne.mpr c2
  have aD : ((a0.size : Int) != 1) = true := bne_iff_ne.mpr c2
  obtain rfl := Option.some.inj H
  go_enter Tryz.func79, Tryz.ntmps79
  go_wp2
  go_ret
  exact ⟨Qs, Q0⟩
end Go.Proofs.YtljadeeoaoiilaaGreatDoor.P
