-- Written for this claim by the session's own run of the print, functions proved by hand put in.
import Derived.Test.YtejnfbfikadpdaaGreatDoorSq
import Derived.Test.YtejnfbfikadpdaaGreatDoorPx0
import Derived.Test.YtejnfbfikadpdaaGreatDoorPx1
namespace Go.Proofs.YtejnfbfikadpdaaGreatDoor.P
open Go.RowKit Go.Proofs.YtejnfbfikadpdaaGreatDoorW.PrintWords Go.Proofs.YtejnfbfikadpdaaGreatDoorW.PrintLast Go.Proofs.YtejnfbfikadpdaaGreatDoorW.PrintMore
open Go.Proofs.YtejnfbfikadpdaaGreatDoorW.PrintWords renaming below_alloc → wA_, pw_below_drewN → wN_, below_drew1 → wD_, below_size → wZ_, below_step → wT_
open Go.Proofs.YtejnfbfikadpdaaGreatDoorW.PrintWords.Kd renaming R_alloc → rA_, R_drewN → rN_, R_drew → rD_
attribute [local go_sem] max2_int min2_int max_two min_two max_three min_three max_four min_four   -- for this text's walks alone
set_option linter.unusedVariables false
set_option linter.unusedSimpArgs false
mutual
def ascii_kind.j0 : Nat → Int → Bool → Option (Int)
 | 0, _, _ => none
 | k + 1, x0, x3 => if x3 = true then (some 1) else (if x0 ≥ 97 then (ascii_kind.j1 k x0 (decide (x0 ≤ 122))) else (ascii_kind.j1 k x0 false))
def ascii_kind.j1 : Nat → Int → Bool → Option (Int)
 | 0, _, _ => none
 | k + 1, x0, x10 => if x10 = true then (some 1) else (if x0 ≥ 48 then (if x0 ≤ 57 then (some 2) else (some 0)) else (some 0))
end
def ascii_kind.f (k : Nat) (a0 : Int) : Option (Int) := if a0 ≥ 65 then (ascii_kind.j0 k a0 (decide (a0 ≤ 90))) else (ascii_kind.j0 k a0 false)
set_option maxHeartbeats 8000000 in
set_option maxRecDepth 100000 in
theorem ascii_kind.calls (k : Nat) (a0 : Int) (r : Int) (w : World) (h : ascii_kind.f k a0 = some r) :
  Calls Tryz.prog 163 #[.int .u8 a0] w fun e w' => e = .returned (.int .i64 r) ∧ Drawn0 w w' := by
 have H := h; unfold ascii_kind.f at H
 clear h
 have a3 := Aside0.mk H
 clear H
 go_enter Tryz.func163, Tryz.ntmps163
 go_upto_region 1 with (fail)
 go_cut [3] (fun v3 wc => ∃ (kq : Nat) (ae : Bool), v3 = .bool ae ∧ Aside0 (ascii_kind.j0 kq a0 ae = some r) ∧ Aside0 (kq ≤ k) ∧ Drawn0 w wc)
 case first =>
  have H := a3.out
  clear a3
  by_cases c3 : a0 ≥ 65
  ·rw [if_pos c3] at H
   have af : decide (65 ≤ a0) = true := decide_eq_true c3
   clear c3
   (first | rw [af] | (simp only [i64_w, i32_w]; rw [af]) | skip)
   have H' := Aside0.mk H
   clear H
   go_wp2
   go_meet
   case rel => exact ⟨_, (decide (a0 ≤ 90)), Qs, H', ⟨by first | omega | exact Nat.le_refl _⟩, Q0⟩
  ·rw [if_neg c3] at H
   have af : decide (65 ≤ a0) = false := decide_eq_false c3
   clear c3
   (first | rw [af] | (simp only [i64_w, i32_w]; rw [af]) | skip)
   have H' := Aside0.mk H
   clear H
   go_wp2
   go_meet
   case rel => exact ⟨_, (false), Qs, H', ⟨by first | omega | exact Nat.le_refl _⟩, Q0⟩
 case rest =>
  clear a3
  obtain ⟨kq, ae, rfl, HA, HJ1, ⟨mc1, rfl⟩⟩ := hcut
  cases kq with
  | zero => exact absurd HA.out (by simp [ascii_kind.j0])
  | succ kj1 =>
   have H := HA.out
   clear HA
   simp only [ascii_kind.j0] at H
   by_cases c4 : ae = true
   ·subst c4
    rw [if_pos rfl] at H
    obtain rfl := Option.some.inj H
    go_wp2
    go_ret
    exact ⟨Qs, Q0⟩
   ·replace c4 := Bool.eq_false_iff.mpr c4
    subst c4
    rw [if_neg (show ¬ (false = true) by decide)] at H
    have a4 := Aside0.mk H
    clear H
    go_upto_region 2 with (fail)
    go_cut [10] (fun v10 wc => ∃ (kq : Nat) (ao : Bool), v10 = .bool ao ∧ Aside0 (ascii_kind.j1 kq a0 ao = some r) ∧ Aside0 (kq ≤ kj1) ∧ Drawn0 w wc)
    case first =>
     have H := a4.out
     clear a4
     by_cases c6 : a0 ≥ 97
     ·rw [if_pos c6] at H
      have ad : decide (97 ≤ a0) = true := decide_eq_true c6
      clear c6
      (first | rw [ad] | (simp only [i64_w, i32_w]; rw [ad]) | skip)
      have H' := Aside0.mk H
      clear H
      go_wp2
      go_meet
      case rel => exact ⟨_, (decide (a0 ≤ 122)), Qs, H', ⟨by have := HJ1.out; first | omega | exact Nat.le_refl _⟩, Q0⟩
     ·rw [if_neg c6] at H
      have ad : decide (97 ≤ a0) = false := decide_eq_false c6
      clear c6
      (first | rw [ad] | (simp only [i64_w, i32_w]; rw [ad]) | skip)
      have H' := Aside0.mk H
      clear H
      go_wp2
      go_meet
      case rel => exact ⟨_, (false), Qs, H', ⟨by have := HJ1.out; first | omega | exact Nat.le_refl _⟩, Q0⟩
    case rest =>
     clear a4
     obtain ⟨kq, ao, rfl, HA, HJ4, ⟨mc4, rfl⟩⟩ := hcut
     cases kq with
     | zero => exact absurd HA.out (by simp [ascii_kind.j1])
     | succ kj4 =>
      have H := HA.out
      clear HA
      simp only [ascii_kind.j1] at H
      by_cases c7 : ao = true
      ·subst c7
       rw [if_pos rfl] at H
       obtain rfl := Option.some.inj H
       go_wp2
       go_ret
       exact ⟨Qs, Q0⟩
      ·replace c7 := Bool.eq_false_iff.mpr c7
       subst c7
       rw [if_neg (show ¬ (false = true) by decide)] at H
       by_cases c8 : a0 ≥ 48
       ·rw [if_pos c8] at H
        have aQ : decide (48 ≤ a0) = true := decide_eq_true c8
        clear c8
        by_cases c9 : a0 ≤ 57
        ·rw [if_pos c9] at H
         have a5 : decide (a0 ≤ 57) = true := decide_eq_true c9
         clear c9
         obtain rfl := Option.some.inj H
         go_wp2
         go_ret
         exact ⟨Qs, Q0⟩
        ·rw [if_neg c9] at H
         have a5 : decide (a0 ≤ 57) = false := decide_eq_false c9
         clear c9
         obtain rfl := Option.some.inj H
         go_wp2
         go_ret
         exact ⟨Qs, Q0⟩
       ·rw [if_neg c8] at H
        have aQ : decide (48 ≤ a0) = false := decide_eq_false c8
        clear c8
        obtain rfl := Option.some.inj H
        go_wp2
        go_ret
        exact ⟨Qs, Q0⟩
def ascii_Class.l0 : Nat → ByteArray → Int → Int → Int → Option (Int)
 | 0, _, _, _, _ => none
 | k + 1, x0, x3, x7, x8 => if x8 < x7 then (if 0 ≤ x8 then (if x8 < (x0.size : Int) then ((ascii_kind.f k (bt x0 x8)).bind fun ac => (if ac = 0 then (some 0) else (ascii_Class.l0 k x0 (Go.bits .or .i64 x3 ac) x7 (wrap64 (x8 + 1))))) else (none)) else (none)) else (some x3)
def ascii_Class.f (k : Nat) (a0 : ByteArray) : Option (Int) := ascii_Class.l0 k a0 0 (a0.size : Int) 0
set_option maxHeartbeats 8000000 in
set_option maxRecDepth 100000 in
theorem ascii_Class.calls (k : Nat) (a0 : ByteArray) (r : Int) (w : World) (h : ascii_Class.f k a0 = some r) :
  Calls Tryz.prog 150 #[.string a0] w fun e w' => e = .returned (.int .i64 r) ∧ Drawn0 w w' := by
 have H : (ascii_Class.l0 k a0 0 (a0.size : Int) 0) = some r := h
 clear h
 have H' := Aside0.mk H
 clear H
 go_enter Tryz.func150, Tryz.ntmps150
 go_wp2
 go_loopg [3, 8] k (fun kq v3 v8 w' => ∃ (ae : Int) (aa : Int), v3 = .int .i64 ae ∧ v8 = .int .i64 aa ∧ Aside0 (ascii_Class.l0 kq a0 ae (a0.size : Int) aa = some r) ∧ Aside0 (kq ≤ k) ∧ Drawn0 w w')
 case atStart => exact ⟨(0), (0), Qs, Qs, H', ⟨Nat.le_refl _⟩, Q0⟩
 case round =>
  clear H'
  obtain ⟨ae, aa, rfl, rfl, HA, HK1, ⟨m1, rfl⟩⟩ := hrel
  cases gk with
  | zero => exact absurd HA.out (by simp [ascii_Class.l0])
  | succ k1 =>
   have H := HA.out
   clear HA
   simp only [ascii_Class.l0] at H
   by_cases c2 : aa < (a0.size : Int)
   ·rw [if_pos c2] at H
    have a6 : decide (aa < (a0.size : Int)) = true := decide_eq_true c2
    clear c2
    by_cases c3 : 0 ≤ aa
    ·rw [if_pos c3] at H
     have af : decide (0 ≤ aa) = true := decide_eq_true c3
     clear c3
     by_cases c4 : aa < (a0.size : Int)
     ·rw [if_pos c4] at H
      have am : decide (aa < (a0.size : Int)) = true := decide_eq_true c4
      clear c4
      replace H := Option.bind_eq_some_iff.mp H
      obtain ⟨ac, be, H⟩ := H
      try dsimp only at H
      have A6 := Aside0.mk be
      clear be
      by_cases c7 : ac = 0
      ·rw [if_pos c7] at H
       have aR : (ac == 0) = true := beq_iff_eq.mpr c7
       have aS : (ac != 0) = false := bne_eq_false_iff_eq.mpr c7
       clear c7
       obtain rfl := Option.some.inj H
       have p5 : 0 ≤ (aa : Int) := of_decide_eq_true Qa
       have q5 : aa < (a0.size : Int) := of_decide_eq_true Qa
       have hx5 := bt_at a0 aa
       replace p5 := eq_true p5
       replace q5 := eq_true q5
       go_wp2_with (first | ((with_reducible refine gate_callee (f := 163) rfl ?_); refine goesL_ (some 14) rfl rfl Tryz.func163 (by kernel_rfl) rfl #[.int .u8 (bt a0 aa)] rfl Qm ?_; (with_reducible refine (ascii_kind.calls k1 (bt a0 aa) ac _ A6.out).mono ?_); rintro e w' ⟨rfl, ⟨nd, rfl⟩⟩; refine ⟨_, rfl, ?_⟩))
       go_ret
       exact ⟨Qs, Q0⟩
      ·rw [if_neg c7] at H
       have aR : (ac == 0) = false := beq_eq_false_iff_ne.mpr c7
       have aS : (ac != 0) = true := bne_iff_ne.mpr c7
       have H' := Aside0.mk H
       clear H
       have p5 : 0 ≤ (aa : Int) := of_decide_eq_true Qa
       have q5 : aa < (a0.size : Int) := of_decide_eq_true Qa
       have hx5 := bt_at a0 aa
       replace p5 := eq_true p5
       replace q5 := eq_true q5
       go_wp2_with (first | ((with_reducible refine gate_callee (f := 163) rfl ?_); refine goesL_ (some 14) rfl rfl Tryz.func163 (by kernel_rfl) rfl #[.int .u8 (bt a0 aa)] rfl Qm ?_; (with_reducible refine (ascii_kind.calls k1 (bt a0 aa) ac _ A6.out).mono ?_); rintro e w' ⟨rfl, ⟨nd, rfl⟩⟩; refine ⟨_, rfl, ?_⟩))
       go_roundg k1
       case measure => have := HK1.out; omega
       case rel => exact ⟨(Go.bits .or .i64 ae ac), (wrap64 (aa + 1)), Qs, Qs, H', ⟨by have := HK1.out; omega⟩, Q0⟩
     ·rw [if_neg c4] at H
      exact absurd H (by simp)
    ·rw [if_neg c3] at H
     exact absurd H (by simp)
   ·rw [if_neg c2] at H
    have a6 : decide (aa < (a0.size : Int)) = false := decide_eq_false c2
    clear c2
    obtain rfl := Option.some.inj H
    go_wp2
    go_ret
    exact ⟨Qs, Q0⟩
def ascii_Alnum.f (k : Nat) (a0 : ByteArray) : Option (Bool) := (ascii_Class.f k a0).bind fun aq => (some (aq != 0))
set_option maxHeartbeats 8000000 in
set_option maxRecDepth 100000 in
theorem ascii_Alnum.calls (k : Nat) (a0 : ByteArray) (r : Bool) (w : World) (h : ascii_Alnum.f k a0 = some r) :
  Calls Tryz.prog 114 #[.string a0] w fun e w' => e = .returned (.bool r) ∧ Drawn0 w w' := by
 have H : ((ascii_Class.f k a0).bind fun aq => (some (aq != 0))) = some r := h
 clear h
 replace H := Option.bind_eq_some_iff.mp H
 obtain ⟨aq, ab, H⟩ := H
 replace H : (some (aq != 0)) = some r := H
 have A2 := Aside0.mk ab
 clear ab
 obtain rfl := Option.some.inj H
 go_enter Tryz.func114, Tryz.ntmps114
 go_wp2_with (first | ((with_reducible refine gate_callee (f := 150) rfl ?_); refine goesL_ (some 4) rfl rfl Tryz.func150 (by kernel_rfl) rfl #[.string a0] rfl Qm ?_; (with_reducible refine (ascii_Class.calls k a0 aq _ A2.out).mono ?_); rintro e w' ⟨rfl, ⟨nd, rfl⟩⟩; refine ⟨_, rfl, ?_⟩))
 go_ret
 exact ⟨Qs, Q0⟩
def IsS70 (w0 W : World) (g : Nat) (f0 : List (S75)) (f1 : Int) (f2 : ByteArray) (f3 : List ByteArray) (f4 : ByteArray) (f5 : ByteArray) (f6 : List ByteArray) (f7 : List (S47)) (f8 : List ByteArray) (f9 : ByteArray) : Prop := ∃ A0 c0, ∃ A3 c3, ∃ A6 c6, ∃ A7 c7, ∃ A8 c8, W.heap[g]? = some (.cells #[.slice A0 f0.length c0, .int .i64 f1, .string f2, .slice A3 f3.length c3, .string f4, .string f5, .slice A6 f6.length c6, .slice A7 f7.length c7, .slice A8 f8.length c8, .string f9] 70 (0, 0)) ∧ w0.heap.size ≤ g ∧ Kd.C k75 w0 A0 f0.length f0 ∧ Kd.C Kd.string w0 A3 f3.length f3 ∧ Kd.C Kd.string w0 A6 f6.length f6 ∧ Kd.C k47 w0 A7 f7.length f7 ∧ Kd.C Kd.string w0 A8 f8.length f8
theorem IsS70.grown {w0 W : World} {g : Nat} {f0 : List (S75)} {f1 : Int} {f2 : ByteArray} {f3 : List ByteArray} {f4 : ByteArray} {f5 : ByteArray} {f6 : List ByteArray} {f7 : List (S47)} {f8 : List ByteArray} {f9 : ByteArray} {W1 : World} {row : Option Nat} (h : IsS70 w0 W g f0 f1 f2 f3 f4 f5 f6 f7 f8 f9) (hw : W.grownBy W1 row) (hne : some g ≠ row) : IsS70 w0 W1 g f0 f1 f2 f3 f4 f5 f6 f7 f8 f9 := by
 obtain ⟨A0, c0, A3, c3, A6, c6, A7, c7, A8, c8, hb, hg, hr0, hr3, hr6, hr7, hr8⟩ := h
 exact ⟨A0, c0, A3, c3, A6, c6, A7, c7, A8, c8, blk_grown hb hw hne, hg, hr0, hr3, hr6, hr7, hr8⟩
theorem IsS70.kept {w0 W : World} {g : Nat} {f0 : List (S75)} {f1 : Int} {f2 : ByteArray} {f3 : List ByteArray} {f4 : ByteArray} {f5 : ByteArray} {f6 : List ByteArray} {f7 : List (S47)} {f8 : List ByteArray} {f9 : ByteArray} {W1 : World} {S : Nat → Prop} (h : IsS70 w0 W g f0 f1 f2 f3 f4 f5 f6 f7 f8 f9) (hk : Kept W W1 S) (hne : ¬ S g) : IsS70 w0 W1 g f0 f1 f2 f3 f4 f5 f6 f7 f8 f9 := by
 obtain ⟨A0, c0, A3, c3, A6, c6, A7, c7, A8, c8, hb, hg, hr0, hr3, hr6, hr7, hr8⟩ := h
 exact ⟨A0, c0, A3, c3, A6, c6, A7, c7, A8, c8, blk_kept hb hk hne, hg, hr0, hr3, hr6, hr7, hr8⟩
theorem IsS70.below {w0 W : World} {g : Nat} {f0 : List (S75)} {f1 : Int} {f2 : ByteArray} {f3 : List ByteArray} {f4 : ByteArray} {f5 : ByteArray} {f6 : List ByteArray} {f7 : List (S47)} {f8 : List ByteArray} {f9 : ByteArray} {W1 : World} (h : IsS70 w0 W g f0 f1 f2 f3 f4 f5 f6 f7 f8 f9) (hw : Below W.heap.size W W1) : IsS70 w0 W1 g f0 f1 f2 f3 f4 f5 f6 f7 f8 f9 := h.grown (grown_of_below hw none) (by simp)
theorem IsS70.alloc {w0 W : World} {g : Nat} {f0 : List (S75)} {f1 : Int} {f2 : ByteArray} {f3 : List ByteArray} {f4 : ByteArray} {f5 : ByteArray} {f6 : List ByteArray} {f7 : List (S47)} {f8 : List ByteArray} {f9 : ByteArray} (h : IsS70 w0 W g f0 f1 f2 f3 f4 f5 f6 f7 f8 f9) (o : Obj) : IsS70 w0 (W.alloc o) g f0 f1 f2 f3 f4 f5 f6 f7 f8 f9 := h.below (wA_ (Below.refl _ _) o)
theorem IsS70.drewN {w0 W : World} {g : Nat} {f0 : List (S75)} {f1 : Int} {f2 : ByteArray} {f3 : List ByteArray} {f4 : ByteArray} {f5 : ByteArray} {f6 : List ByteArray} {f7 : List (S47)} {f8 : List ByteArray} {f9 : ByteArray} (h : IsS70 w0 W g f0 f1 f2 f3 f4 f5 f6 f7 f8 f9) (m : Nat) : IsS70 w0 (W.drewN m) g f0 f1 f2 f3 f4 f5 f6 f7 f8 f9 := h
theorem IsS70.drew {w0 W : World} {g : Nat} {f0 : List (S75)} {f1 : Int} {f2 : ByteArray} {f3 : List ByteArray} {f4 : ByteArray} {f5 : ByteArray} {f6 : List ByteArray} {f7 : List (S47)} {f8 : List ByteArray} {f9 : ByteArray} (h : IsS70 w0 W g f0 f1 f2 f3 f4 f5 f6 f7 f8 f9) : IsS70 w0 W.drew g f0 f1 f2 f3 f4 f5 f6 f7 f8 f9 := h
theorem IsS70.at_ {w0 W : World} {g : Nat} {f0 : List (S75)} {f1 : Int} {f2 : ByteArray} {f3 : List ByteArray} {f4 : ByteArray} {f5 : ByteArray} {f6 : List ByteArray} {f7 : List (S47)} {f8 : List ByteArray} {f9 : ByteArray} {w' : World} {m : Nat} (hq : W.drewN m = w') (h : IsS70 w0 W g f0 f1 f2 f3 f4 f5 f6 f7 f8 f9) : IsS70 w0 w' g f0 f1 f2 f3 f4 f5 f6 f7 f8 f9 := by subst hq; exact IsS70.drewN h m
theorem IsS70.apart {w0 W : World} {g : Nat} {f0 : List (S75)} {f1 : Int} {f2 : ByteArray} {f3 : List ByteArray} {f4 : ByteArray} {f5 : ByteArray} {f6 : List ByteArray} {f7 : List (S47)} {f8 : List ByteArray} {f9 : ByteArray} {α : Type} {d : Kd α} {e : Nat} {base : Nat} {ok : Nat → Prop} {v : Value} {xs : List α} (h : IsS70 w0 W g f0 f1 f2 f3 f4 f5 f6 f7 f8 f9) (ho : d.R e W base ok v xs) (ht : ∀ q, q ∈ e :: d.E → q ≠ 70) : d.R e W base (fun k => ok k ∧ k ≠ g) v xs := by
 obtain ⟨A0, c0, A3, c3, A6, c6, A7, c7, A8, c8, hb, hg, hr0, hr3, hr6, hr7, hr8⟩ := h
 exact Kd.R_types ho hb ht
theorem IsS70.own_ne {w0 W : World} {g : Nat} {f0 : List (S75)} {f1 : Int} {f2 : ByteArray} {f3 : List ByteArray} {f4 : ByteArray} {f5 : ByteArray} {f6 : List ByteArray} {f7 : List (S47)} {f8 : List ByteArray} {f9 : ByteArray} {α : Type} {d : Kd α} {e : Nat} {base : Nat} {ok : Nat → Prop} {v : Value} {xs : List α} (h : IsS70 w0 W g f0 f1 f2 f3 f4 f5 f6 f7 f8 f9) (ho : d.R e W base ok v xs) (ht : e ≠ 70) : some g ≠ v.ownBlock := by
 obtain ⟨A0, c0, A3, c3, A6, c6, A7, c7, A8, c8, hb, hg, hr0, hr3, hr6, hr7, hr8⟩ := h
 exact Kd.R_ne ho hb ht
theorem IsS70.lt {w0 W : World} {g : Nat} {f0 : List (S75)} {f1 : Int} {f2 : ByteArray} {f3 : List ByteArray} {f4 : ByteArray} {f5 : ByteArray} {f6 : List ByteArray} {f7 : List (S47)} {f8 : List ByteArray} {f9 : ByteArray} (h : IsS70 w0 W g f0 f1 f2 f3 f4 f5 f6 f7 f8 f9) : g < W.heap.size := by
 obtain ⟨A0, c0, A3, c3, A6, c6, A7, c7, A8, c8, hb, hg, hr0, hr3, hr6, hr7, hr8⟩ := h
 exact blk_lt hb
theorem IsS70.far {w0 W : World} {g : Nat} {f0 : List (S75)} {f1 : Int} {f2 : ByteArray} {f3 : List ByteArray} {f4 : ByteArray} {f5 : ByteArray} {f6 : List ByteArray} {f7 : List (S47)} {f8 : List ByteArray} {f9 : ByteArray} {p : Addr} (h : IsS70 w0 W g f0 f1 f2 f3 f4 f5 f6 f7 f8 f9) (hne : g ≠ p.block) (u : Value) : IsS70 w0 (W.setCell p u) g f0 f1 f2 f3 f4 f5 f6 f7 f8 f9 := by
 obtain ⟨A0, c0, A3, c3, A6, c6, A7, c7, A8, c8, hb, hg, hr0, hr3, hr6, hr7, hr8⟩ := h
 exact ⟨A0, c0, A3, c3, A6, c6, A7, c7, A8, c8, blk_far hb hne u, hg, hr0, hr3, hr6, hr7, hr8⟩
theorem IsS70.new (w0 W : World) (A0 : Option Addr) (c0 : Nat) (A3 : Option Addr) (c3 : Nat) (A6 : Option Addr) (c6 : Nat) (A7 : Option Addr) (c7 : Nat) (A8 : Option Addr) (c8 : Nat) (f0 : List (S75)) (f1 : Int) (f2 : ByteArray) (f3 : List ByteArray) (f4 : ByteArray) (f5 : ByteArray) (f6 : List ByteArray) (f7 : List (S47)) (f8 : List ByteArray) (f9 : ByteArray) (hB : Below w0.heap.size w0 W) (hr0 : Kd.C k75 w0 A0 f0.length f0) (hr3 : Kd.C Kd.string w0 A3 f3.length f3) (hr6 : Kd.C Kd.string w0 A6 f6.length f6) (hr7 : Kd.C k47 w0 A7 f7.length f7) (hr8 : Kd.C Kd.string w0 A8 f8.length f8) : IsS70 w0 (W.alloc (.cells #[.slice A0 f0.length c0, .int .i64 f1, .string f2, .slice A3 f3.length c3, .string f4, .string f5, .slice A6 f6.length c6, .slice A7 f7.length c7, .slice A8 f8.length c8, .string f9] 70)) W.heap.size f0 f1 f2 f3 f4 f5 f6 f7 f8 f9 := ⟨A0, c0, A3, c3, A6, c6, A7, c7, A8, c8, by simpa using heap_alloc_new W _, hB.size, hr0, hr3, hr6, hr7, hr8⟩
def ascii_Alpha.f (k : Nat) (a0 : ByteArray) : Option (Bool) := (ascii_Class.f k a0).bind fun ar => (some (ar == 1))
set_option maxHeartbeats 8000000 in
set_option maxRecDepth 100000 in
theorem ascii_Alpha.calls (k : Nat) (a0 : ByteArray) (r : Bool) (w : World) (h : ascii_Alpha.f k a0 = some r) :
  Calls Tryz.prog 117 #[.string a0] w fun e w' => e = .returned (.bool r) ∧ Drawn0 w w' := by
 have H : ((ascii_Class.f k a0).bind fun ar => (some (ar == 1))) = some r := h
 clear h
 replace H := Option.bind_eq_some_iff.mp H
 obtain ⟨ar, ab, H⟩ := H
 replace H : (some (ar == 1)) = some r := H
 have A2 := Aside0.mk ab
 clear ab
 obtain rfl := Option.some.inj H
 go_enter Tryz.func117, Tryz.ntmps117
 go_wp2_with (first | ((with_reducible refine gate_callee (f := 150) rfl ?_); refine goesL_ (some 4) rfl rfl Tryz.func150 (by kernel_rfl) rfl #[.string a0] rfl Qm ?_; (with_reducible refine (ascii_Class.calls k a0 ar _ A2.out).mono ?_); rintro e w' ⟨rfl, ⟨nd, rfl⟩⟩; refine ⟨_, rfl, ?_⟩))
 go_ret
 exact ⟨Qs, Q0⟩
def tag_long.f (a0 : ByteArray) (a1 : Int) (a2 : Int) : Option (Bool) := if (a0.size : Int) ≥ a1 then (some (decide ((a0.size : Int) ≤ a2))) else (some false)
set_option maxHeartbeats 8000000 in
set_option maxRecDepth 100000 in
theorem tag_long.calls (a0 : ByteArray) (a1 : Int) (a2 : Int) (r : Bool) (w : World) (h : tag_long.f a0 a1 a2 = some r) :
  Calls Tryz.prog 139 #[.string a0, .int .i64 a1, .int .i64 a2] w fun e w' => e = .returned (.bool r) ∧ Drawn0 w w' := by
 have H := h; unfold tag_long.f at H
 clear h
 by_cases c4 : (a0.size : Int) ≥ a1
 ·rw [if_pos c4] at H
  have am : decide (a1 ≤ (a0.size : Int)) = true := decide_eq_true c4
  clear c4
  obtain rfl := Option.some.inj H
  go_enter Tryz.func139, Tryz.ntmps139
  go_wp2
  go_ret
  exact ⟨Qs, Q0⟩
 ·rw [if_neg c4] at H
  have am : decide (a1 ≤ (a0.size : Int)) = false := decide_eq_false c4
  clear c4
  obtain rfl := Option.some.inj H
  go_enter Tryz.func139, Tryz.ntmps139
  go_wp2
  go_ret
  exact ⟨Qs, Q0⟩
def tag_Language.f (k : Nat) (a0 : ByteArray) : Option (Bool) := (ascii_Alpha.f k a0).bind fun aE => (if aE = true then ((tag_long.f a0 2 8).bind fun av => (some av)) else (some false))
set_option maxHeartbeats 8000000 in
set_option maxRecDepth 100000 in
theorem tag_Language.calls (k : Nat) (a0 : ByteArray) (r : Bool) (w : World) (h : tag_Language.f k a0 = some r) :
  Calls Tryz.prog 115 #[.string a0] w fun e w' => e = .returned (.bool r) ∧ Drawn0 w w' := by
 have H := h; unfold tag_Language.f at H
 clear h
 replace H := Option.bind_eq_some_iff.mp H
 obtain ⟨aE, ab, H⟩ := H
 try dsimp only at H
 have A2 := Aside0.mk ab
 clear ab
 by_cases c3 : aE = true
 ·subst c3
  rw [if_pos rfl] at H
  replace H := Option.bind_eq_some_iff.mp H
  obtain ⟨av, aT, H⟩ := H
  replace H : (some av) = some r := H
  have A4 := Aside0.mk aT
  clear aT
  obtain rfl := Option.some.inj H
  go_enter Tryz.func115, Tryz.ntmps115
  go_wp2_with (first | ((with_reducible refine gate_callee (f := 117) rfl ?_); refine goesL_ (some 4) rfl rfl Tryz.func117 (by kernel_rfl) rfl #[.string a0] rfl Qm ?_; (with_reducible refine (ascii_Alpha.calls k a0 true _ A2.out).mono ?_); rintro e w' ⟨rfl, ⟨nd, rfl⟩⟩; refine ⟨_, rfl, ?_⟩) | (go_at_call 139; (with_reducible refine (tag_long.calls a0 2 8 av _ A4.out).mono ?_); rintro e w' ⟨rfl, ⟨nd, rfl⟩⟩))
  go_ret
  exact ⟨Qs, Q0⟩
 ·replace c3 := Bool.eq_false_iff.mpr c3
  subst c3
  rw [if_neg (show ¬ (false = true) by decide)] at H
  obtain rfl := Option.some.inj H
  go_enter Tryz.func115, Tryz.ntmps115
  go_wp2_with (first | ((with_reducible refine gate_callee (f := 117) rfl ?_); refine goesL_ (some 4) rfl rfl Tryz.func117 (by kernel_rfl) rfl #[.string a0] rfl Qm ?_; (with_reducible refine (ascii_Alpha.calls k a0 false _ A2.out).mono ?_); rintro e w' ⟨rfl, ⟨nd, rfl⟩⟩; refine ⟨_, rfl, ?_⟩))
  go_ret
  exact ⟨Qs, Q0⟩
def tag_Extlang.f (k : Nat) (a0 : ByteArray) : Option (Bool) := (ascii_Alpha.f k a0).bind fun aF => (if aF = true then (some ((a0.size : Int) == 3)) else (some false))
set_option maxHeartbeats 8000000 in
set_option maxRecDepth 100000 in
theorem tag_Extlang.calls (k : Nat) (a0 : ByteArray) (r : Bool) (w : World) (h : tag_Extlang.f k a0 = some r) :
  Calls Tryz.prog 116 #[.string a0] w fun e w' => e = .returned (.bool r) ∧ Drawn0 w w' := by
 have H := h; unfold tag_Extlang.f at H
 clear h
 replace H := Option.bind_eq_some_iff.mp H
 obtain ⟨aF, ab, H⟩ := H
 try dsimp only at H
 have A2 := Aside0.mk ab
 clear ab
 by_cases c3 : aF = true
 ·subst c3
  rw [if_pos rfl] at H
  obtain rfl := Option.some.inj H
  go_enter Tryz.func116, Tryz.ntmps116
  go_wp2_with (first | ((with_reducible refine gate_callee (f := 117) rfl ?_); refine goesL_ (some 4) rfl rfl Tryz.func117 (by kernel_rfl) rfl #[.string a0] rfl Qm ?_; (with_reducible refine (ascii_Alpha.calls k a0 true _ A2.out).mono ?_); rintro e w' ⟨rfl, ⟨nd, rfl⟩⟩; refine ⟨_, rfl, ?_⟩))
  go_ret
  exact ⟨Qs, Q0⟩
 ·replace c3 := Bool.eq_false_iff.mpr c3
  subst c3
  rw [if_neg (show ¬ (false = true) by decide)] at H
  obtain rfl := Option.some.inj H
  go_enter Tryz.func116, Tryz.ntmps116
  go_wp2_with (first | ((with_reducible refine gate_callee (f := 117) rfl ?_); refine goesL_ (some 4) rfl rfl Tryz.func117 (by kernel_rfl) rfl #[.string a0] rfl Qm ?_; (with_reducible refine (ascii_Alpha.calls k a0 false _ A2.out).mono ?_); rintro e w' ⟨rfl, ⟨nd, rfl⟩⟩; refine ⟨_, rfl, ?_⟩))
  go_ret
  exact ⟨Qs, Q0⟩
def tag_Script.f (k : Nat) (a0 : ByteArray) : Option (Bool) := (ascii_Alpha.f k a0).bind fun aG => (if aG = true then (some ((a0.size : Int) == 4)) else (some false))
set_option maxHeartbeats 8000000 in
set_option maxRecDepth 100000 in
theorem tag_Script.calls (k : Nat) (a0 : ByteArray) (r : Bool) (w : World) (h : tag_Script.f k a0 = some r) :
  Calls Tryz.prog 79 #[.string a0] w fun e w' => e = .returned (.bool r) ∧ Drawn0 w w' := by
 have H := h; unfold tag_Script.f at H
 clear h
 replace H := Option.bind_eq_some_iff.mp H
 obtain ⟨aG, ab, H⟩ := H
 try dsimp only at H
 have A2 := Aside0.mk ab
 clear ab
 by_cases c3 : aG = true
 ·subst c3
  rw [if_pos rfl] at H
  obtain rfl := Option.some.inj H
  go_enter Tryz.func79, Tryz.ntmps79
  go_wp2_with (first | ((with_reducible refine gate_callee (f := 117) rfl ?_); refine goesL_ (some 4) rfl rfl Tryz.func117 (by kernel_rfl) rfl #[.string a0] rfl Qm ?_; (with_reducible refine (ascii_Alpha.calls k a0 true _ A2.out).mono ?_); rintro e w' ⟨rfl, ⟨nd, rfl⟩⟩; refine ⟨_, rfl, ?_⟩))
  go_ret
  exact ⟨Qs, Q0⟩
 ·replace c3 := Bool.eq_false_iff.mpr c3
  subst c3
  rw [if_neg (show ¬ (false = true) by decide)] at H
  obtain rfl := Option.some.inj H
  go_enter Tryz.func79, Tryz.ntmps79
  go_wp2_with (first | ((with_reducible refine gate_callee (f := 117) rfl ?_); refine goesL_ (some 4) rfl rfl Tryz.func117 (by kernel_rfl) rfl #[.string a0] rfl Qm ?_; (with_reducible refine (ascii_Alpha.calls k a0 false _ A2.out).mono ?_); rintro e w' ⟨rfl, ⟨nd, rfl⟩⟩; refine ⟨_, rfl, ?_⟩))
  go_ret
  exact ⟨Qs, Q0⟩
def ascii_Digit.f (k : Nat) (a0 : ByteArray) : Option (Bool) := (ascii_Class.f k a0).bind fun au => (some (au == 2))
set_option maxHeartbeats 8000000 in
set_option maxRecDepth 100000 in
theorem ascii_Digit.calls (k : Nat) (a0 : ByteArray) (r : Bool) (w : World) (h : ascii_Digit.f k a0 = some r) :
  Calls Tryz.prog 118 #[.string a0] w fun e w' => e = .returned (.bool r) ∧ Drawn0 w w' := by
 have H : ((ascii_Class.f k a0).bind fun au => (some (au == 2))) = some r := h
 clear h
 replace H := Option.bind_eq_some_iff.mp H
 obtain ⟨au, ab, H⟩ := H
 replace H : (some (au == 2)) = some r := H
 have A2 := Aside0.mk ab
 clear ab
 obtain rfl := Option.some.inj H
 go_enter Tryz.func118, Tryz.ntmps118
 go_wp2_with (first | ((with_reducible refine gate_callee (f := 150) rfl ?_); refine goesL_ (some 4) rfl rfl Tryz.func150 (by kernel_rfl) rfl #[.string a0] rfl Qm ?_; (with_reducible refine (ascii_Class.calls k a0 au _ A2.out).mono ?_); rintro e w' ⟨rfl, ⟨nd, rfl⟩⟩; refine ⟨_, rfl, ?_⟩))
 go_ret
 exact ⟨Qs, Q0⟩
def tag_Region.f (k : Nat) (a0 : ByteArray) : Option (Bool) := (ascii_Alpha.f k a0).bind fun aH => (if aH = true then (if (a0.size : Int) = 2 then (some true) else ((ascii_Digit.f k a0).bind fun aI => (if aI = true then (some ((a0.size : Int) == 3)) else (some false)))) else ((ascii_Digit.f k a0).bind fun aJ => (if aJ = true then (some ((a0.size : Int) == 3)) else (some false))))
set_option maxHeartbeats 8000000 in
set_option maxRecDepth 100000 in
theorem tag_Region.calls (k : Nat) (a0 : ByteArray) (r : Bool) (w : World) (h : tag_Region.f k a0 = some r) :
  Calls Tryz.prog 80 #[.string a0] w fun e w' => e = .returned (.bool r) ∧ Drawn0 w w' := by
 have H := h; unfold tag_Region.f at H
 clear h
 replace H := Option.bind_eq_some_iff.mp H
 obtain ⟨aH, ab, H⟩ := H
 try dsimp only at H
 have A2 := Aside0.mk ab
 clear ab
 by_cases c3 : aH = true
 ·subst c3
  rw [if_pos rfl] at H
  by_cases c4 : (a0.size : Int) = 2
  ·rw [if_pos c4] at H
   have am : ((a0.size : Int) == 2) = true := beq_iff_eq.mpr c4
   have aK : ((a0.size : Int) != 2) = false := bne_eq_false_iff_eq.mpr c4
   clear c4
   obtain rfl := Option.some.inj H
   go_enter Tryz.func80, Tryz.ntmps80
   go_wp2_with (first | ((with_reducible refine gate_callee (f := 117) rfl ?_); refine goesL_ (some 4) rfl rfl Tryz.func117 (by kernel_rfl) rfl #[.string a0] rfl Qm ?_; (with_reducible refine (ascii_Alpha.calls k a0 true _ A2.out).mono ?_); rintro e w' ⟨rfl, ⟨nd, rfl⟩⟩; refine ⟨_, rfl, ?_⟩))
   go_ret
   exact ⟨Qs, Q0⟩
  ·rw [if_neg c4] at H
   have am : ((a0.size : Int) == 2) = false := beq_eq_false_iff_ne.mpr c4
   have aK : ((a0.size : Int) != 2) = true := bne_iff_ne.mpr c4
   replace H := Option.bind_eq_some_iff.mp H
   obtain ⟨aI, aU, H⟩ := H
   try dsimp only at H
   have A5 := Aside0.mk aU
   clear aU
   by_cases c6 : aI = true
   ·subst c6
    rw [if_pos rfl] at H
    obtain rfl := Option.some.inj H
    go_enter Tryz.func80, Tryz.ntmps80
    go_wp2_with (first | ((with_reducible refine gate_callee (f := 117) rfl ?_); refine goesL_ (some 4) rfl rfl Tryz.func117 (by kernel_rfl) rfl #[.string a0] rfl Qm ?_; (with_reducible refine (ascii_Alpha.calls k a0 true _ A2.out).mono ?_); rintro e w' ⟨rfl, ⟨nd, rfl⟩⟩; refine ⟨_, rfl, ?_⟩) | (go_at_call 118; (with_reducible refine (ascii_Digit.calls k a0 true _ A5.out).mono ?_); rintro e w' ⟨rfl, ⟨nd, rfl⟩⟩))
    go_ret
    exact ⟨Qs, Q0⟩
   ·replace c6 := Bool.eq_false_iff.mpr c6
    subst c6
    rw [if_neg (show ¬ (false = true) by decide)] at H
    obtain rfl := Option.some.inj H
    go_enter Tryz.func80, Tryz.ntmps80
    go_wp2_with (first | ((with_reducible refine gate_callee (f := 117) rfl ?_); refine goesL_ (some 4) rfl rfl Tryz.func117 (by kernel_rfl) rfl #[.string a0] rfl Qm ?_; (with_reducible refine (ascii_Alpha.calls k a0 true _ A2.out).mono ?_); rintro e w' ⟨rfl, ⟨nd, rfl⟩⟩; refine ⟨_, rfl, ?_⟩) | (go_at_call 118; (with_reducible refine (ascii_Digit.calls k a0 false _ A5.out).mono ?_); rintro e w' ⟨rfl, ⟨nd, rfl⟩⟩))
    go_ret
    exact ⟨Qs, Q0⟩
 ·replace c3 := Bool.eq_false_iff.mpr c3
  subst c3
  rw [if_neg (show ¬ (false = true) by decide)] at H
  replace H := Option.bind_eq_some_iff.mp H
  obtain ⟨aJ, bf, H⟩ := H
  try dsimp only at H
  have A7 := Aside0.mk bf
  clear bf
  by_cases c8 : aJ = true
  ·subst c8
   rw [if_pos rfl] at H
   obtain rfl := Option.some.inj H
   go_enter Tryz.func80, Tryz.ntmps80
   go_wp2_with (first | ((with_reducible refine gate_callee (f := 117) rfl ?_); refine goesL_ (some 4) rfl rfl Tryz.func117 (by kernel_rfl) rfl #[.string a0] rfl Qm ?_; (with_reducible refine (ascii_Alpha.calls k a0 false _ A2.out).mono ?_); rintro e w' ⟨rfl, ⟨nd, rfl⟩⟩; refine ⟨_, rfl, ?_⟩) | (go_at_call 118; (with_reducible refine (ascii_Digit.calls k a0 true _ A7.out).mono ?_); rintro e w' ⟨rfl, ⟨nd, rfl⟩⟩))
   go_ret
   exact ⟨Qs, Q0⟩
  ·replace c8 := Bool.eq_false_iff.mpr c8
   subst c8
   rw [if_neg (show ¬ (false = true) by decide)] at H
   obtain rfl := Option.some.inj H
   go_enter Tryz.func80, Tryz.ntmps80
   go_wp2_with (first | ((with_reducible refine gate_callee (f := 117) rfl ?_); refine goesL_ (some 4) rfl rfl Tryz.func117 (by kernel_rfl) rfl #[.string a0] rfl Qm ?_; (with_reducible refine (ascii_Alpha.calls k a0 false _ A2.out).mono ?_); rintro e w' ⟨rfl, ⟨nd, rfl⟩⟩; refine ⟨_, rfl, ?_⟩) | (go_at_call 118; (with_reducible refine (ascii_Digit.calls k a0 false _ A7.out).mono ?_); rintro e w' ⟨rfl, ⟨nd, rfl⟩⟩))
   go_ret
   exact ⟨Qs, Q0⟩
def tag_Variant.f (k : Nat) (a0 : ByteArray) : Option (Bool) := (ascii_Alnum.f k a0).bind fun aL => (if aL = true then ((tag_long.f a0 5 8).bind fun aM => (if aM = true then (some true) else (if (a0.size : Int) = 4 then (if 0 ≤ 1 then (if 1 ≤ (a0.size : Int) then ((ascii_Digit.f k (a0.extract 0 1)).bind fun aw => (some aw)) else (none)) else (none)) else (some false)))) else (some false))
set_option maxHeartbeats 8000000 in
set_option maxRecDepth 100000 in
theorem tag_Variant.calls (k : Nat) (a0 : ByteArray) (r : Bool) (w : World) (h : tag_Variant.f k a0 = some r) :
  Calls Tryz.prog 119 #[.string a0] w fun e w' => e = .returned (.bool r) ∧ Drawn0 w w' := by
 have H := h; unfold tag_Variant.f at H
 clear h
 replace H := Option.bind_eq_some_iff.mp H
 obtain ⟨aL, ab, H⟩ := H
 try dsimp only at H
 have A2 := Aside0.mk ab
 clear ab
 by_cases c3 : aL = true
 ·subst c3
  rw [if_pos rfl] at H
  replace H := Option.bind_eq_some_iff.mp H
  obtain ⟨aM, aT, H⟩ := H
  try dsimp only at H
  have A4 := Aside0.mk aT
  clear aT
  by_cases c5 : aM = true
  ·subst c5
   rw [if_pos rfl] at H
   obtain rfl := Option.some.inj H
   go_enter Tryz.func119, Tryz.ntmps119
   go_wp2_with (first | ((with_reducible refine gate_callee (f := 114) rfl ?_); refine goesL_ (some 4) rfl rfl Tryz.func114 (by kernel_rfl) rfl #[.string a0] rfl Qm ?_; (with_reducible refine (ascii_Alnum.calls k a0 true _ A2.out).mono ?_); rintro e w' ⟨rfl, ⟨nd, rfl⟩⟩; refine ⟨_, rfl, ?_⟩) | (go_at_call 139; (with_reducible refine (tag_long.calls a0 5 8 true _ A4.out).mono ?_); rintro e w' ⟨rfl, ⟨nd, rfl⟩⟩))
   go_ret
   exact ⟨Qs, Q0⟩
  ·replace c5 := Bool.eq_false_iff.mpr c5
   subst c5
   rw [if_neg (show ¬ (false = true) by decide)] at H
   by_cases c6 : (a0.size : Int) = 4
   ·rw [if_pos c6] at H
    have ad : ((a0.size : Int) == 4) = true := beq_iff_eq.mpr c6
    have aN : ((a0.size : Int) != 4) = false := bne_eq_false_iff_eq.mpr c6
    clear c6
    by_cases c7 : 0 ≤ 1
    ·rw [if_pos c7] at H
     have aR := eq_true c7
     have aS : decide (0 ≤ 1) = true := decide_eq_true c7
     clear c7
     by_cases c8 : 1 ≤ (a0.size : Int)
     ·rw [if_pos c8] at H
      have aQ := eq_true c8
      have bi : decide (1 ≤ (a0.size : Int)) = true := decide_eq_true c8
      clear c8
      replace H := Option.bind_eq_some_iff.mp H
      obtain ⟨aw, bg, H⟩ := H
      replace H : (some aw) = some r := H
      have A9 := Aside0.mk bg
      clear bg
      obtain rfl := Option.some.inj H
      go_enter Tryz.func119, Tryz.ntmps119
      go_wp2_with (first | ((with_reducible refine gate_callee (f := 114) rfl ?_); refine goesL_ (some 4) rfl rfl Tryz.func114 (by kernel_rfl) rfl #[.string a0] rfl Qm ?_; (with_reducible refine (ascii_Alnum.calls k a0 true _ A2.out).mono ?_); rintro e w' ⟨rfl, ⟨nd, rfl⟩⟩; refine ⟨_, rfl, ?_⟩) | (go_at_call 139; (with_reducible refine (tag_long.calls a0 5 8 false _ A4.out).mono ?_); rintro e w' ⟨rfl, ⟨nd, rfl⟩⟩) | (go_at_call 118; (with_reducible refine (ascii_Digit.calls k (a0.extract 0 1) aw _ A9.out).mono ?_); rintro e w' ⟨rfl, ⟨nd, rfl⟩⟩))
      go_ret
      exact ⟨Qs, Q0⟩
     ·rw [if_neg c8] at H
      exact absurd H (by simp)
    ·rw [if_neg c7] at H
     exact absurd H (by simp)
   ·rw [if_neg c6] at H
    have ad : ((a0.size : Int) == 4) = false := beq_eq_false_iff_ne.mpr c6
    have aN : ((a0.size : Int) != 4) = true := bne_iff_ne.mpr c6
    obtain rfl := Option.some.inj H
    go_enter Tryz.func119, Tryz.ntmps119
    go_wp2_with (first | ((with_reducible refine gate_callee (f := 114) rfl ?_); refine goesL_ (some 4) rfl rfl Tryz.func114 (by kernel_rfl) rfl #[.string a0] rfl Qm ?_; (with_reducible refine (ascii_Alnum.calls k a0 true _ A2.out).mono ?_); rintro e w' ⟨rfl, ⟨nd, rfl⟩⟩; refine ⟨_, rfl, ?_⟩) | (go_at_call 139; (with_reducible refine (tag_long.calls a0 5 8 false _ A4.out).mono ?_); rintro e w' ⟨rfl, ⟨nd, rfl⟩⟩))
    go_ret
    exact ⟨Qs, Q0⟩
 ·replace c3 := Bool.eq_false_iff.mpr c3
  subst c3
  rw [if_neg (show ¬ (false = true) by decide)] at H
  obtain rfl := Option.some.inj H
  go_enter Tryz.func119, Tryz.ntmps119
  go_wp2_with (first | ((with_reducible refine gate_callee (f := 114) rfl ?_); refine goesL_ (some 4) rfl rfl Tryz.func114 (by kernel_rfl) rfl #[.string a0] rfl Qm ?_; (with_reducible refine (ascii_Alnum.calls k a0 false _ A2.out).mono ?_); rintro e w' ⟨rfl, ⟨nd, rfl⟩⟩; refine ⟨_, rfl, ?_⟩))
  go_ret
  exact ⟨Qs, Q0⟩
def slices_Index_string_string.l0 : Nat → List ByteArray → ByteArray → Int → Int → Option (Int)
 | 0, _, _, _, _ => none
 | k + 1, x0, x1, x7, x8 => if x8 < x7 then (if 0 ≤ x8 then (if x8 < (x0.length : Int) then (if x1.toList = (rdOf ByteArray.empty x0 x8).toList then (some x8) else (slices_Index_string_string.l0 k x0 x1 x7 (wrap64 (x8 + 1)))) else (none)) else (none)) else (some (-1))
def slices_Index_string_string.f (k : Nat) (l0 : List ByteArray) (a1 : ByteArray) : Option (Int) := slices_Index_string_string.l0 k l0 a1 (l0.length : Int) 0
set_option maxHeartbeats 8000000 in
set_option maxRecDepth 100000 in
theorem slices_Index_string_string.calls (k : Nat) (A0 : Option Addr) (c0 : Nat) (l0 : List ByteArray) (a1 : ByteArray) (r : Int) (w : World) (hr0 : Kd.C Kd.string w A0 l0.length l0) (hc0 : l0.length ≤ c0) (h : slices_Index_string_string.f k l0 a1 = some r) :
  Calls Tryz.prog 151 #[.slice A0 l0.length c0, .string a1] w fun e w' => e = .returned (.int .i64 r) ∧ Drawn0 w w' := by
 have aP := Aside0.mk hr0
 have a7 := Aside0.mk hc0
 clear hr0 hc0
 have H : (slices_Index_string_string.l0 k l0 a1 (l0.length : Int) 0) = some r := h
 clear h
 have H' := Aside0.mk H
 clear H
 go_enter Tryz.func151, Tryz.ntmps151
 go_wp2
 go_loopg [8] k (fun kq v8 w' => ∃ (aa : Int), v8 = .int .i64 aa ∧ Aside0 (slices_Index_string_string.l0 kq l0 a1 (l0.length : Int) aa = some r) ∧ Aside0 (kq ≤ k) ∧ Drawn0 w w')
 case atStart => exact ⟨(0), Qs, H', ⟨Nat.le_refl _⟩, Q0⟩
 case round =>
  clear H'
  obtain ⟨aa, rfl, HA, HK1, ⟨m1, rfl⟩⟩ := hrel
  cases gk with
  | zero => exact absurd HA.out (by simp [slices_Index_string_string.l0])
  | succ k1 =>
   have H := HA.out
   clear HA
   simp only [slices_Index_string_string.l0] at H
   by_cases c3 : aa < (l0.length : Int)
   ·rw [if_pos c3] at H
    have af : decide (aa < (l0.length : Int)) = true := decide_eq_true c3
    clear c3
    by_cases c4 : 0 ≤ aa
    ·rw [if_pos c4] at H
     have am : decide (0 ≤ aa) = true := decide_eq_true c4
     clear c4
     by_cases c5 : aa < (l0.length : Int)
     ·rw [if_pos c5] at H
      have a8 : decide (aa < (l0.length : Int)) = true := decide_eq_true c5
      clear c5
      by_cases c6 : a1.toList = (rdOf ByteArray.empty l0 aa).toList
      ·rw [if_pos c6] at H
       have ad : (a1.toList == (rdOf ByteArray.empty l0 aa).toList) = true := beq_iff_eq.mpr c6
       have aN : (a1.toList != (rdOf ByteArray.empty l0 aa).toList) = false := bne_eq_false_iff_eq.mpr c6
       clear c6
       obtain rfl := Option.some.inj H
       have p132 : 0 ≤ (aa : Int) := of_decide_eq_true Qa
       have q132 : aa < (l0.length : Int) := of_decide_eq_true Qa
       obtain ⟨ad132, e132, hx132_0⟩ := Kd.at_string aP.out aa p132 q132
       cases e132
       replace p132 := eq_true p132
       replace q132 := eq_true q132
       go_wp2
       go_ret
       exact ⟨Qs, Q0⟩
      ·rw [if_neg c6] at H
       have ad : (a1.toList == (rdOf ByteArray.empty l0 aa).toList) = false := beq_eq_false_iff_ne.mpr c6
       have aN : (a1.toList != (rdOf ByteArray.empty l0 aa).toList) = true := bne_iff_ne.mpr c6
       have H' := Aside0.mk H
       clear H
       have p132 : 0 ≤ (aa : Int) := of_decide_eq_true Qa
       have q132 : aa < (l0.length : Int) := of_decide_eq_true Qa
       obtain ⟨ad132, e132, hx132_0⟩ := Kd.at_string aP.out aa p132 q132
       cases e132
       replace p132 := eq_true p132
       replace q132 := eq_true q132
       go_wp2
       go_roundg k1
       case measure => have := HK1.out; omega
       case rel => exact ⟨(wrap64 (aa + 1)), Qs, H', ⟨by have := HK1.out; omega⟩, Q0⟩
     ·rw [if_neg c5] at H
      exact absurd H (by simp)
    ·rw [if_neg c4] at H
     exact absurd H (by simp)
   ·rw [if_neg c3] at H
    have af : decide (aa < (l0.length : Int)) = false := decide_eq_false c3
    clear c3
    obtain rfl := Option.some.inj H
    go_wp2
    go_ret
    exact ⟨Qs, Q0⟩
def slices_Contains_string_string.f (k : Nat) (l0 : List ByteArray) (a1 : ByteArray) : Option (Bool) := (slices_Index_string_string.f k l0 a1).bind fun ax => (some (decide (ax ≥ 0)))
set_option maxHeartbeats 8000000 in
set_option maxRecDepth 100000 in
theorem slices_Contains_string_string.calls (k : Nat) (A0 : Option Addr) (c0 : Nat) (l0 : List ByteArray) (a1 : ByteArray) (r : Bool) (w : World) (hr0 : Kd.C Kd.string w A0 l0.length l0) (hc0 : l0.length ≤ c0) (h : slices_Contains_string_string.f k l0 a1 = some r) :
  Calls Tryz.prog 121 #[.slice A0 l0.length c0, .string a1] w fun e w' => e = .returned (.bool r) ∧ Drawn0 w w' := by
 have aP := Aside0.mk hr0
 have a7 := Aside0.mk hc0
 clear hr0 hc0
 have H := h; unfold slices_Contains_string_string.f at H
 clear h
 replace H := Option.bind_eq_some_iff.mp H
 obtain ⟨ax, bh, H⟩ := H
 replace H : (some (decide (ax ≥ 0))) = some r := H
 have A3 := Aside0.mk bh
 clear bh
 obtain rfl := Option.some.inj H
 go_enter Tryz.func121, Tryz.ntmps121
 go_wp2_with (first | ((with_reducible refine gate_callee (f := 151) rfl ?_); refine goesL_ (some 7) rfl rfl Tryz.func151 (by kernel_rfl) rfl #[.slice A0 l0.length c0, .string a1] rfl Qm ?_; (with_reducible refine (slices_Index_string_string.calls k _ _ l0 a1 ax _ ?side1 ?side2 A3.out).mono ?_); (case side1 => repeat (first | exact aP.out | (with_reducible refine Kd.C_alloc ?_ _) | (with_reducible refine Kd.C_drewN ?_ _) | (with_reducible refine Kd.C_drew ?_))); (case side2 => exact a7.out); rintro e w' ⟨rfl, ⟨nd, rfl⟩⟩; refine ⟨_, rfl, ?_⟩))
 go_ret
 exact ⟨Qs, Q0⟩
def tag_Singleton.f (k : Nat) (a0 : ByteArray) : Option (Bool) := (ascii_Alnum.f k a0).bind fun aO => (if aO = true then (if (a0.size : Int) = 1 then ((ascii_Same.f k a0 (⟨#[120]⟩ : ByteArray)).bind fun ay => (some (!ay))) else (some false)) else (some false))
set_option maxHeartbeats 8000000 in
set_option maxRecDepth 100000 in
theorem tag_Singleton.calls (k : Nat) (a0 : ByteArray) (r : Bool) (w : World) (h : tag_Singleton.f k a0 = some r) :
  Calls Tryz.prog 122 #[.string a0] w fun e w' => e = .returned (.bool r) ∧ Below w.heap.size w w' := by
 have HB := Aside0.mk (Below.refl w.heap.size w)
 have H := h; unfold tag_Singleton.f at H
 clear h
 replace H := Option.bind_eq_some_iff.mp H
 obtain ⟨aO, ab, H⟩ := H
 try dsimp only at H
 have A2 := Aside0.mk ab
 clear ab
 by_cases c3 : aO = true
 ·subst c3
  rw [if_pos rfl] at H
  by_cases c4 : (a0.size : Int) = 1
  ·rw [if_pos c4] at H
   have am : ((a0.size : Int) == 1) = true := beq_iff_eq.mpr c4
   have aK : ((a0.size : Int) != 1) = false := bne_eq_false_iff_eq.mpr c4
   clear c4
   replace H := Option.bind_eq_some_iff.mp H
   obtain ⟨ay, aU, H⟩ := H
   replace H : (some (!ay)) = some r := H
   have A5 := Aside0.mk aU
   clear aU
   obtain rfl := Option.some.inj H
   go_enter Tryz.func122, Tryz.ntmps122
   go_wp2_with (first | ((with_reducible refine gate_callee (f := 114) rfl ?_); refine goesL_ (some 4) rfl rfl Tryz.func114 (by kernel_rfl) rfl #[.string a0] rfl Qm ?_; (with_reducible refine (ascii_Alnum.calls k a0 true _ A2.out).mono ?_); rintro e w' ⟨rfl, ⟨nd, rfl⟩⟩; refine ⟨_, rfl, ?_⟩) | (go_at_call 70; (with_reducible refine (ascii_Same.calls k a0 (⟨#[120]⟩ : ByteArray) ay _ A5.out).mono ?_); rintro e w6 ⟨rfl, hb⟩; have ag := Aside0.mk (wT_ (Qw HB.out) hb); clear HB; have HB := ag; clear ag; (try clear hb); (try clear hk)))
   go_ret
   exact ⟨Qe, Qw HB.out⟩
  ·rw [if_neg c4] at H
   have am : ((a0.size : Int) == 1) = false := beq_eq_false_iff_ne.mpr c4
   have aK : ((a0.size : Int) != 1) = true := bne_iff_ne.mpr c4
   obtain rfl := Option.some.inj H
   go_enter Tryz.func122, Tryz.ntmps122
   go_wp2_with (first | ((with_reducible refine gate_callee (f := 114) rfl ?_); refine goesL_ (some 4) rfl rfl Tryz.func114 (by kernel_rfl) rfl #[.string a0] rfl Qm ?_; (with_reducible refine (ascii_Alnum.calls k a0 true _ A2.out).mono ?_); rintro e w' ⟨rfl, ⟨nd, rfl⟩⟩; refine ⟨_, rfl, ?_⟩))
   go_ret
   exact ⟨Qe, Qw HB.out⟩
 ·replace c3 := Bool.eq_false_iff.mpr c3
  subst c3
  rw [if_neg (show ¬ (false = true) by decide)] at H
  obtain rfl := Option.some.inj H
  go_enter Tryz.func122, Tryz.ntmps122
  go_wp2_with (first | ((with_reducible refine gate_callee (f := 114) rfl ?_); refine goesL_ (some 4) rfl rfl Tryz.func114 (by kernel_rfl) rfl #[.string a0] rfl Qm ?_; (with_reducible refine (ascii_Alnum.calls k a0 false _ A2.out).mono ?_); rintro e w' ⟨rfl, ⟨nd, rfl⟩⟩; refine ⟨_, rfl, ?_⟩))
  go_ret
  exact ⟨Qe, Qw HB.out⟩
def r6_Pick.f (l0 : List ByteArray) (a1 : Int) : Option (ByteArray) := if (l0.length : Int) = 0 then (none) else (if 0 ≤ (Int.tmod (wrap64 ((Int.tmod a1 (l0.length : Int)) + (l0.length : Int))) (l0.length : Int)) then (if (Int.tmod (wrap64 ((Int.tmod a1 (l0.length : Int)) + (l0.length : Int))) (l0.length : Int)) < (l0.length : Int) then (some (rdOf ByteArray.empty l0 (Int.tmod (wrap64 ((Int.tmod a1 (l0.length : Int)) + (l0.length : Int))) (l0.length : Int)))) else (none)) else (none))
set_option maxHeartbeats 8000000 in
set_option maxRecDepth 100000 in
theorem r6_Pick.calls (A0 : Option Addr) (c0 : Nat) (l0 : List ByteArray) (a1 : Int) (r : ByteArray) (w : World) (hr0 : Kd.C Kd.string w A0 l0.length l0) (hc0 : l0.length ≤ c0) (h : r6_Pick.f l0 a1 = some r) :
  Calls Tryz.prog 32 #[.slice A0 l0.length c0, .int .i64 a1] w fun e w' => e = .returned (.string r) ∧ Drawn0 w w' := by
 have aP := Aside0.mk hr0
 have a7 := Aside0.mk hc0
 clear hr0 hc0
 have H := h; unfold r6_Pick.f at H
 clear h
 by_cases c3 : (l0.length : Int) = 0
 ·rw [if_pos c3] at H
  exact absurd H (by simp)
 ·rw [if_neg c3] at H
  have af : ((l0.length : Int) == 0) = false := beq_eq_false_iff_ne.mpr c3
  have bj : ((l0.length : Int) != 0) = true := bne_iff_ne.mpr c3
  have bk : ¬ (l0 = []) := fun h_ => c3 (by rw [h_]; rfl)
  obtain ⟨ji4, hji4⟩ : ∃ j_ : Int, (Int.tmod (wrap64 ((Int.tmod a1 (l0.length : Int)) + (l0.length : Int))) (l0.length : Int)) = j_ := ⟨_, rfl⟩
  replace H : (if 0 ≤ (ji4) then (if (ji4) < (l0.length : Int) then (some (rdOf ByteArray.empty l0 (ji4))) else (none)) else (none)) = some r := by first | (rw [hji4] at H; exact H) | (simp only [hji4] at H ⊢; exact H)
  by_cases c5 : 0 ≤ (ji4)
  ·rw [if_pos c5] at H
   have a8 : decide (0 ≤ (ji4)) = true := decide_eq_true c5
   clear c5
   by_cases c6 : (ji4) < (l0.length : Int)
   ·rw [if_pos c6] at H
    have ad : decide ((ji4) < (l0.length : Int)) = true := decide_eq_true c6
    clear c6
    obtain rfl := Option.some.inj H
    have p164 : 0 ≤ ((ji4) : Int) := of_decide_eq_true Qa
    have q164 : (ji4) < (l0.length : Int) := of_decide_eq_true Qa
    obtain ⟨ad164, e164, hx164_0⟩ := Kd.at_string aP.out (ji4) p164 q164
    cases e164
    replace p164 := eq_true p164
    replace q164 := eq_true q164
    go_enter Tryz.func32, Tryz.ntmps32
    go_wp2
    go_ret
    exact ⟨by first | rfl | (simp; done) | (simp only [← hji4] <;> (first | rfl | simp)) | (simp [*]; done), Q0⟩
   ·rw [if_neg c6] at H
    exact absurd H (by simp)
  ·rw [if_neg c5] at H
   exact absurd H (by simp)
def r6_langs.f  : Option (List ByteArray) := some (([(⟨#[101, 110]⟩ : ByteArray), (⟨#[122, 104]⟩ : ByteArray), (⟨#[115, 114]⟩ : ByteArray), (⟨#[117, 110, 100]⟩ : ByteArray), (⟨#[105, 119]⟩ : ByteArray), (⟨#[110, 111]⟩ : ByteArray), (⟨#[115, 103, 110]⟩ : ByteArray), (⟨#[109, 111]⟩ : ByteArray), (⟨#[104, 97, 110, 116]⟩ : ByteArray), (⟨#[97, 98, 99, 100, 101, 102, 103, 104]⟩ : ByteArray), (⟨#[100, 101]⟩ : ByteArray), (⟨#[114, 111, 111, 116]⟩ : ByteArray)] : List ByteArray))
set_option maxHeartbeats 8000000 in
set_option maxRecDepth 100000 in
theorem r6_langs.calls  (r : List ByteArray) (w : World) (h : r6_langs.f  = some r) :
  Calls Tryz.prog 33 #[] w fun e w' => ∃ v0_ : Value, e = .returned (v0_) ∧ Kd.R Kd.string 9 w' w.heap.size (fun _ => True) v0_ r ∧ Below w.heap.size w w' := by
 have HB := Aside0.mk (Below.refl w.heap.size w)
 have H := h; unfold r6_langs.f at H
 clear h
 obtain ⟨a9, ah⟩ : ∃ y_ : List ByteArray, y_ = (([(⟨#[101, 110]⟩ : ByteArray), (⟨#[122, 104]⟩ : ByteArray), (⟨#[115, 114]⟩ : ByteArray), (⟨#[117, 110, 100]⟩ : ByteArray), (⟨#[105, 119]⟩ : ByteArray), (⟨#[110, 111]⟩ : ByteArray), (⟨#[115, 103, 110]⟩ : ByteArray), (⟨#[109, 111]⟩ : ByteArray), (⟨#[104, 97, 110, 116]⟩ : ByteArray), (⟨#[97, 98, 99, 100, 101, 102, 103, 104]⟩ : ByteArray), (⟨#[100, 101]⟩ : ByteArray), (⟨#[114, 111, 111, 116]⟩ : ByteArray)] : List ByteArray)) := ⟨_, rfl⟩
 replace H : (some a9) = some r := by first | (rw [ah]; with_reducible exact H) | (have H2_ := (Option.bind_some _ _).symm.trans H; rw [ah]; with_reducible exact H2_) | (have H2_ := (Option.bind_some _ _).symm.trans H; with_reducible exact H2_) | with_reducible exact H | (rw [ah]; exact H) | exact H
 have az := Aside0.mk ah
 clear ah
 obtain rfl := Option.some.inj H
 go_enter Tryz.func33, Tryz.ntmps33
 go_wp2_with (first | ((with_reducible refine gate_dst (N := 1) rfl ?_); refine Kd.R_lit Kd.string _ 9 ?hg (N := 1) ?hd (xs := ([(⟨#[101, 110]⟩ : ByteArray), (⟨#[122, 104]⟩ : ByteArray), (⟨#[115, 114]⟩ : ByteArray), (⟨#[117, 110, 100]⟩ : ByteArray), (⟨#[105, 119]⟩ : ByteArray), (⟨#[110, 111]⟩ : ByteArray), (⟨#[115, 103, 110]⟩ : ByteArray), (⟨#[109, 111]⟩ : ByteArray), (⟨#[104, 97, 110, 116]⟩ : ByteArray), (⟨#[97, 98, 99, 100, 101, 102, 103, 104]⟩ : ByteArray), (⟨#[100, 101]⟩ : ByteArray), (⟨#[114, 111, 111, 116]⟩ : ByteArray)] : List ByteArray)) (inner := [.string (⟨#[101, 110]⟩ : ByteArray), .string (⟨#[122, 104]⟩ : ByteArray), .string (⟨#[115, 114]⟩ : ByteArray), .string (⟨#[117, 110, 100]⟩ : ByteArray), .string (⟨#[105, 119]⟩ : ByteArray), .string (⟨#[110, 111]⟩ : ByteArray), .string (⟨#[115, 103, 110]⟩ : ByteArray), .string (⟨#[109, 111]⟩ : ByteArray), .string (⟨#[104, 97, 110, 116]⟩ : ByteArray), .string (⟨#[97, 98, 99, 100, 101, 102, 103, 104]⟩ : ByteArray), .string (⟨#[100, 101]⟩ : ByteArray), .string (⟨#[114, 111, 111, 116]⟩ : ByteArray)]) (ok := fun _ => True) (okp := fun _ => True) ?hr ?hp (fun _ hk => hk) trivial (Below.refl _ _) (Nat.le_refl _) (by simp) ?_; (case hd => rfl); (case hg => rfl); (case hr => first | (go_simp; done) | (go_simp; rfl)); (case hp => exact (Reps.one (show Kd.M Kd.string _ _ _ (⟨#[101, 110]⟩ : ByteArray) [.string (⟨#[101, 110]⟩ : ByteArray)] from rfl) (Reps.one (show Kd.M Kd.string _ _ _ (⟨#[122, 104]⟩ : ByteArray) [.string (⟨#[122, 104]⟩ : ByteArray)] from rfl) (Reps.one (show Kd.M Kd.string _ _ _ (⟨#[115, 114]⟩ : ByteArray) [.string (⟨#[115, 114]⟩ : ByteArray)] from rfl) (Reps.one (show Kd.M Kd.string _ _ _ (⟨#[117, 110, 100]⟩ : ByteArray) [.string (⟨#[117, 110, 100]⟩ : ByteArray)] from rfl) (Reps.one (show Kd.M Kd.string _ _ _ (⟨#[105, 119]⟩ : ByteArray) [.string (⟨#[105, 119]⟩ : ByteArray)] from rfl) (Reps.one (show Kd.M Kd.string _ _ _ (⟨#[110, 111]⟩ : ByteArray) [.string (⟨#[110, 111]⟩ : ByteArray)] from rfl) (Reps.one (show Kd.M Kd.string _ _ _ (⟨#[115, 103, 110]⟩ : ByteArray) [.string (⟨#[115, 103, 110]⟩ : ByteArray)] from rfl) (Reps.one (show Kd.M Kd.string _ _ _ (⟨#[109, 111]⟩ : ByteArray) [.string (⟨#[109, 111]⟩ : ByteArray)] from rfl) (Reps.one (show Kd.M Kd.string _ _ _ (⟨#[104, 97, 110, 116]⟩ : ByteArray) [.string (⟨#[104, 97, 110, 116]⟩ : ByteArray)] from rfl) (Reps.one (show Kd.M Kd.string _ _ _ (⟨#[97, 98, 99, 100, 101, 102, 103, 104]⟩ : ByteArray) [.string (⟨#[97, 98, 99, 100, 101, 102, 103, 104]⟩ : ByteArray)] from rfl) (Reps.one (show Kd.M Kd.string _ _ _ (⟨#[100, 101]⟩ : ByteArray) [.string (⟨#[100, 101]⟩ : ByteArray)] from rfl) (Reps.one (show Kd.M Kd.string _ _ _ (⟨#[114, 111, 111, 116]⟩ : ByteArray) [.string (⟨#[114, 111, 111, 116]⟩ : ByteArray)] from rfl) (Reps.none _ _)))))))))))))); intro v166 w1 ho2 hb hg_ hnew_; clear hg_ hnew_; (first | rw [← az.out] at ho2 | (simp only [Int.reduceToNat] at ho2; rw [← az.out] at ho2)); have ag := Aside0.mk (Kd.R_lower ho2 (wZ_ (Qw HB.out))); have ap := Aside0.mk (wT_ (Qw HB.out) hb); clear HB; have aV := ag; have HB := ap; clear ag ap; clear hb ho2))
 go_ret
 exact ⟨_, Qe, Qr aV.out, Qw HB.out⟩
def r6_scripts.f  : Option (List ByteArray) := some (([(⟨#[]⟩ : ByteArray), (⟨#[]⟩ : ByteArray), (⟨#[108, 97, 116, 110]⟩ : ByteArray), (⟨#[99, 121, 114, 108]⟩ : ByteArray), (⟨#[104, 97, 110, 115]⟩ : ByteArray), (⟨#[113, 97, 97, 105]⟩ : ByteArray), (⟨#[104, 97, 110, 116]⟩ : ByteArray)] : List ByteArray))
set_option maxHeartbeats 8000000 in
set_option maxRecDepth 100000 in
theorem r6_scripts.calls  (r : List ByteArray) (w : World) (h : r6_scripts.f  = some r) :
  Calls Tryz.prog 34 #[] w fun e w' => ∃ v0_ : Value, e = .returned (v0_) ∧ Kd.R Kd.string 9 w' w.heap.size (fun _ => True) v0_ r ∧ Below w.heap.size w w' := by
 have HB := Aside0.mk (Below.refl w.heap.size w)
 have H := h; unfold r6_scripts.f at H
 clear h
 obtain ⟨ba, ai⟩ : ∃ y_ : List ByteArray, y_ = (([(⟨#[]⟩ : ByteArray), (⟨#[]⟩ : ByteArray), (⟨#[108, 97, 116, 110]⟩ : ByteArray), (⟨#[99, 121, 114, 108]⟩ : ByteArray), (⟨#[104, 97, 110, 115]⟩ : ByteArray), (⟨#[113, 97, 97, 105]⟩ : ByteArray), (⟨#[104, 97, 110, 116]⟩ : ByteArray)] : List ByteArray)) := ⟨_, rfl⟩
 replace H : (some ba) = some r := by first | (rw [ai]; with_reducible exact H) | (have H2_ := (Option.bind_some _ _).symm.trans H; rw [ai]; with_reducible exact H2_) | (have H2_ := (Option.bind_some _ _).symm.trans H; with_reducible exact H2_) | with_reducible exact H | (rw [ai]; exact H) | exact H
 have aA := Aside0.mk ai
 clear ai
 obtain rfl := Option.some.inj H
 go_enter Tryz.func34, Tryz.ntmps34
 go_wp2_with (first | ((with_reducible refine gate_dst (N := 1) rfl ?_); refine Kd.R_lit Kd.string _ 9 ?hg (N := 1) ?hd (xs := ([(⟨#[]⟩ : ByteArray), (⟨#[]⟩ : ByteArray), (⟨#[108, 97, 116, 110]⟩ : ByteArray), (⟨#[99, 121, 114, 108]⟩ : ByteArray), (⟨#[104, 97, 110, 115]⟩ : ByteArray), (⟨#[113, 97, 97, 105]⟩ : ByteArray), (⟨#[104, 97, 110, 116]⟩ : ByteArray)] : List ByteArray)) (inner := [.string (⟨#[]⟩ : ByteArray), .string (⟨#[]⟩ : ByteArray), .string (⟨#[108, 97, 116, 110]⟩ : ByteArray), .string (⟨#[99, 121, 114, 108]⟩ : ByteArray), .string (⟨#[104, 97, 110, 115]⟩ : ByteArray), .string (⟨#[113, 97, 97, 105]⟩ : ByteArray), .string (⟨#[104, 97, 110, 116]⟩ : ByteArray)]) (ok := fun _ => True) (okp := fun _ => True) ?hr ?hp (fun _ hk => hk) trivial (Below.refl _ _) (Nat.le_refl _) (by simp) ?_; (case hd => rfl); (case hg => rfl); (case hr => first | (go_simp; done) | (go_simp; rfl)); (case hp => exact (Reps.one (show Kd.M Kd.string _ _ _ (⟨#[]⟩ : ByteArray) [.string (⟨#[]⟩ : ByteArray)] from rfl) (Reps.one (show Kd.M Kd.string _ _ _ (⟨#[]⟩ : ByteArray) [.string (⟨#[]⟩ : ByteArray)] from rfl) (Reps.one (show Kd.M Kd.string _ _ _ (⟨#[108, 97, 116, 110]⟩ : ByteArray) [.string (⟨#[108, 97, 116, 110]⟩ : ByteArray)] from rfl) (Reps.one (show Kd.M Kd.string _ _ _ (⟨#[99, 121, 114, 108]⟩ : ByteArray) [.string (⟨#[99, 121, 114, 108]⟩ : ByteArray)] from rfl) (Reps.one (show Kd.M Kd.string _ _ _ (⟨#[104, 97, 110, 115]⟩ : ByteArray) [.string (⟨#[104, 97, 110, 115]⟩ : ByteArray)] from rfl) (Reps.one (show Kd.M Kd.string _ _ _ (⟨#[113, 97, 97, 105]⟩ : ByteArray) [.string (⟨#[113, 97, 97, 105]⟩ : ByteArray)] from rfl) (Reps.one (show Kd.M Kd.string _ _ _ (⟨#[104, 97, 110, 116]⟩ : ByteArray) [.string (⟨#[104, 97, 110, 116]⟩ : ByteArray)] from rfl) (Reps.none _ _))))))))); intro v169 w1 ho2 hb hg_ hnew_; clear hg_ hnew_; (first | rw [← aA.out] at ho2 | (simp only [Int.reduceToNat] at ho2; rw [← aA.out] at ho2)); have ag := Aside0.mk (Kd.R_lower ho2 (wZ_ (Qw HB.out))); have ap := Aside0.mk (wT_ (Qw HB.out) hb); clear HB; have aW := ag; have HB := ap; clear ag ap; clear hb ho2))
 go_ret
 exact ⟨_, Qe, Qr aW.out, Qw HB.out⟩
def r6_regions.f  : Option (List ByteArray) := some (([(⟨#[]⟩ : ByteArray), (⟨#[]⟩ : ByteArray), (⟨#[117, 115]⟩ : ByteArray), (⟨#[103, 98]⟩ : ByteArray), (⟨#[52, 49, 57]⟩ : ByteArray), (⟨#[100, 100]⟩ : ByteArray), (⟨#[99, 110]⟩ : ByteArray), (⟨#[98, 114]⟩ : ByteArray), (⟨#[115, 117]⟩ : ByteArray)] : List ByteArray))
set_option maxHeartbeats 8000000 in
set_option maxRecDepth 100000 in
theorem r6_regions.calls  (r : List ByteArray) (w : World) (h : r6_regions.f  = some r) :
  Calls Tryz.prog 35 #[] w fun e w' => ∃ v0_ : Value, e = .returned (v0_) ∧ Kd.R Kd.string 9 w' w.heap.size (fun _ => True) v0_ r ∧ Below w.heap.size w w' := by
 have HB := Aside0.mk (Below.refl w.heap.size w)
 have H := h; unfold r6_regions.f at H
 clear h
 obtain ⟨bb, aj⟩ : ∃ y_ : List ByteArray, y_ = (([(⟨#[]⟩ : ByteArray), (⟨#[]⟩ : ByteArray), (⟨#[117, 115]⟩ : ByteArray), (⟨#[103, 98]⟩ : ByteArray), (⟨#[52, 49, 57]⟩ : ByteArray), (⟨#[100, 100]⟩ : ByteArray), (⟨#[99, 110]⟩ : ByteArray), (⟨#[98, 114]⟩ : ByteArray), (⟨#[115, 117]⟩ : ByteArray)] : List ByteArray)) := ⟨_, rfl⟩
 replace H : (some bb) = some r := by first | (rw [aj]; with_reducible exact H) | (have H2_ := (Option.bind_some _ _).symm.trans H; rw [aj]; with_reducible exact H2_) | (have H2_ := (Option.bind_some _ _).symm.trans H; with_reducible exact H2_) | with_reducible exact H | (rw [aj]; exact H) | exact H
 have aB := Aside0.mk aj
 clear aj
 obtain rfl := Option.some.inj H
 go_enter Tryz.func35, Tryz.ntmps35
 go_wp2_with (first | ((with_reducible refine gate_dst (N := 1) rfl ?_); refine Kd.R_lit Kd.string _ 9 ?hg (N := 1) ?hd (xs := ([(⟨#[]⟩ : ByteArray), (⟨#[]⟩ : ByteArray), (⟨#[117, 115]⟩ : ByteArray), (⟨#[103, 98]⟩ : ByteArray), (⟨#[52, 49, 57]⟩ : ByteArray), (⟨#[100, 100]⟩ : ByteArray), (⟨#[99, 110]⟩ : ByteArray), (⟨#[98, 114]⟩ : ByteArray), (⟨#[115, 117]⟩ : ByteArray)] : List ByteArray)) (inner := [.string (⟨#[]⟩ : ByteArray), .string (⟨#[]⟩ : ByteArray), .string (⟨#[117, 115]⟩ : ByteArray), .string (⟨#[103, 98]⟩ : ByteArray), .string (⟨#[52, 49, 57]⟩ : ByteArray), .string (⟨#[100, 100]⟩ : ByteArray), .string (⟨#[99, 110]⟩ : ByteArray), .string (⟨#[98, 114]⟩ : ByteArray), .string (⟨#[115, 117]⟩ : ByteArray)]) (ok := fun _ => True) (okp := fun _ => True) ?hr ?hp (fun _ hk => hk) trivial (Below.refl _ _) (Nat.le_refl _) (by simp) ?_; (case hd => rfl); (case hg => rfl); (case hr => first | (go_simp; done) | (go_simp; rfl)); (case hp => exact (Reps.one (show Kd.M Kd.string _ _ _ (⟨#[]⟩ : ByteArray) [.string (⟨#[]⟩ : ByteArray)] from rfl) (Reps.one (show Kd.M Kd.string _ _ _ (⟨#[]⟩ : ByteArray) [.string (⟨#[]⟩ : ByteArray)] from rfl) (Reps.one (show Kd.M Kd.string _ _ _ (⟨#[117, 115]⟩ : ByteArray) [.string (⟨#[117, 115]⟩ : ByteArray)] from rfl) (Reps.one (show Kd.M Kd.string _ _ _ (⟨#[103, 98]⟩ : ByteArray) [.string (⟨#[103, 98]⟩ : ByteArray)] from rfl) (Reps.one (show Kd.M Kd.string _ _ _ (⟨#[52, 49, 57]⟩ : ByteArray) [.string (⟨#[52, 49, 57]⟩ : ByteArray)] from rfl) (Reps.one (show Kd.M Kd.string _ _ _ (⟨#[100, 100]⟩ : ByteArray) [.string (⟨#[100, 100]⟩ : ByteArray)] from rfl) (Reps.one (show Kd.M Kd.string _ _ _ (⟨#[99, 110]⟩ : ByteArray) [.string (⟨#[99, 110]⟩ : ByteArray)] from rfl) (Reps.one (show Kd.M Kd.string _ _ _ (⟨#[98, 114]⟩ : ByteArray) [.string (⟨#[98, 114]⟩ : ByteArray)] from rfl) (Reps.one (show Kd.M Kd.string _ _ _ (⟨#[115, 117]⟩ : ByteArray) [.string (⟨#[115, 117]⟩ : ByteArray)] from rfl) (Reps.none _ _))))))))))); intro v172 w1 ho2 hb hg_ hnew_; clear hg_ hnew_; (first | rw [← aB.out] at ho2 | (simp only [Int.reduceToNat] at ho2; rw [← aB.out] at ho2)); have ag := Aside0.mk (Kd.R_lower ho2 (wZ_ (Qw HB.out))); have ap := Aside0.mk (wT_ (Qw HB.out) hb); clear HB; have aX := ag; have HB := ap; clear ag ap; clear hb ho2))
 go_ret
 exact ⟨_, Qe, Qr aX.out, Qw HB.out⟩
def r6_variants.f  : Option (List ByteArray) := some (([(⟨#[49, 57, 57, 52]⟩ : ByteArray), (⟨#[104, 101, 112, 108, 111, 99]⟩ : ByteArray), (⟨#[102, 111, 110, 105, 112, 97]⟩ : ByteArray), (⟨#[97, 114, 101, 118, 101, 108, 97]⟩ : ByteArray), (⟨#[49, 97, 50, 98]⟩ : ByteArray), (⟨#[115, 99, 111, 117, 115, 101]⟩ : ByteArray)] : List ByteArray))
set_option maxHeartbeats 8000000 in
set_option maxRecDepth 100000 in
theorem r6_variants.calls  (r : List ByteArray) (w : World) (h : r6_variants.f  = some r) :
  Calls Tryz.prog 36 #[] w fun e w' => ∃ v0_ : Value, e = .returned (v0_) ∧ Kd.R Kd.string 9 w' w.heap.size (fun _ => True) v0_ r ∧ Below w.heap.size w w' := by
 have HB := Aside0.mk (Below.refl w.heap.size w)
 have H := h; unfold r6_variants.f at H
 clear h
 obtain ⟨bc, ak⟩ : ∃ y_ : List ByteArray, y_ = (([(⟨#[49, 57, 57, 52]⟩ : ByteArray), (⟨#[104, 101, 112, 108, 111, 99]⟩ : ByteArray), (⟨#[102, 111, 110, 105, 112, 97]⟩ : ByteArray), (⟨#[97, 114, 101, 118, 101, 108, 97]⟩ : ByteArray), (⟨#[49, 97, 50, 98]⟩ : ByteArray), (⟨#[115, 99, 111, 117, 115, 101]⟩ : ByteArray)] : List ByteArray)) := ⟨_, rfl⟩
 replace H : (some bc) = some r := by first | (rw [ak]; with_reducible exact H) | (have H2_ := (Option.bind_some _ _).symm.trans H; rw [ak]; with_reducible exact H2_) | (have H2_ := (Option.bind_some _ _).symm.trans H; with_reducible exact H2_) | with_reducible exact H | (rw [ak]; exact H) | exact H
 have aC := Aside0.mk ak
 clear ak
 obtain rfl := Option.some.inj H
 go_enter Tryz.func36, Tryz.ntmps36
 go_wp2_with (first | ((with_reducible refine gate_dst (N := 1) rfl ?_); refine Kd.R_lit Kd.string _ 9 ?hg (N := 1) ?hd (xs := ([(⟨#[49, 57, 57, 52]⟩ : ByteArray), (⟨#[104, 101, 112, 108, 111, 99]⟩ : ByteArray), (⟨#[102, 111, 110, 105, 112, 97]⟩ : ByteArray), (⟨#[97, 114, 101, 118, 101, 108, 97]⟩ : ByteArray), (⟨#[49, 97, 50, 98]⟩ : ByteArray), (⟨#[115, 99, 111, 117, 115, 101]⟩ : ByteArray)] : List ByteArray)) (inner := [.string (⟨#[49, 57, 57, 52]⟩ : ByteArray), .string (⟨#[104, 101, 112, 108, 111, 99]⟩ : ByteArray), .string (⟨#[102, 111, 110, 105, 112, 97]⟩ : ByteArray), .string (⟨#[97, 114, 101, 118, 101, 108, 97]⟩ : ByteArray), .string (⟨#[49, 97, 50, 98]⟩ : ByteArray), .string (⟨#[115, 99, 111, 117, 115, 101]⟩ : ByteArray)]) (ok := fun _ => True) (okp := fun _ => True) ?hr ?hp (fun _ hk => hk) trivial (Below.refl _ _) (Nat.le_refl _) (by simp) ?_; (case hd => rfl); (case hg => rfl); (case hr => first | (go_simp; done) | (go_simp; rfl)); (case hp => exact (Reps.one (show Kd.M Kd.string _ _ _ (⟨#[49, 57, 57, 52]⟩ : ByteArray) [.string (⟨#[49, 57, 57, 52]⟩ : ByteArray)] from rfl) (Reps.one (show Kd.M Kd.string _ _ _ (⟨#[104, 101, 112, 108, 111, 99]⟩ : ByteArray) [.string (⟨#[104, 101, 112, 108, 111, 99]⟩ : ByteArray)] from rfl) (Reps.one (show Kd.M Kd.string _ _ _ (⟨#[102, 111, 110, 105, 112, 97]⟩ : ByteArray) [.string (⟨#[102, 111, 110, 105, 112, 97]⟩ : ByteArray)] from rfl) (Reps.one (show Kd.M Kd.string _ _ _ (⟨#[97, 114, 101, 118, 101, 108, 97]⟩ : ByteArray) [.string (⟨#[97, 114, 101, 118, 101, 108, 97]⟩ : ByteArray)] from rfl) (Reps.one (show Kd.M Kd.string _ _ _ (⟨#[49, 97, 50, 98]⟩ : ByteArray) [.string (⟨#[49, 97, 50, 98]⟩ : ByteArray)] from rfl) (Reps.one (show Kd.M Kd.string _ _ _ (⟨#[115, 99, 111, 117, 115, 101]⟩ : ByteArray) [.string (⟨#[115, 99, 111, 117, 115, 101]⟩ : ByteArray)] from rfl) (Reps.none _ _)))))))); intro v175 w1 ho2 hb hg_ hnew_; clear hg_ hnew_; (first | rw [← aC.out] at ho2 | (simp only [Int.reduceToNat] at ho2; rw [← aC.out] at ho2)); have ag := Aside0.mk (Kd.R_lower ho2 (wZ_ (Qw HB.out))); have ap := Aside0.mk (wT_ (Qw HB.out) hb); clear HB; have aY := ag; have HB := ap; clear ag ap; clear hb ho2))
 go_ret
 exact ⟨_, Qe, Qr aY.out, Qw HB.out⟩
def r6_words.f  : Option (List ByteArray) := some (([(⟨#[99, 97]⟩ : ByteArray), (⟨#[98, 117, 100, 100, 104, 105, 115, 116]⟩ : ByteArray), (⟨#[99, 111]⟩ : ByteArray), (⟨#[116, 114, 117, 101]⟩ : ByteArray), (⟨#[107, 110]⟩ : ByteArray), (⟨#[112, 104, 111, 110, 101, 98, 107]⟩ : ByteArray), (⟨#[109, 48]⟩ : ByteArray), (⟨#[101, 110]⟩ : ByteArray), (⟨#[97, 98, 49]⟩ : ByteArray), (⟨#[105, 115, 108, 97, 109, 105, 99, 99]⟩ : ByteArray), (⟨#[104, 48]⟩ : ByteArray)] : List ByteArray))
set_option maxHeartbeats 8000000 in
set_option maxRecDepth 100000 in
theorem r6_words.calls  (r : List ByteArray) (w : World) (h : r6_words.f  = some r) :
  Calls Tryz.prog 37 #[] w fun e w' => ∃ v0_ : Value, e = .returned (v0_) ∧ Kd.R Kd.string 9 w' w.heap.size (fun _ => True) v0_ r ∧ Below w.heap.size w w' := by
 have HB := Aside0.mk (Below.refl w.heap.size w)
 have H := h; unfold r6_words.f at H
 clear h
 obtain ⟨bd, al⟩ : ∃ y_ : List ByteArray, y_ = (([(⟨#[99, 97]⟩ : ByteArray), (⟨#[98, 117, 100, 100, 104, 105, 115, 116]⟩ : ByteArray), (⟨#[99, 111]⟩ : ByteArray), (⟨#[116, 114, 117, 101]⟩ : ByteArray), (⟨#[107, 110]⟩ : ByteArray), (⟨#[112, 104, 111, 110, 101, 98, 107]⟩ : ByteArray), (⟨#[109, 48]⟩ : ByteArray), (⟨#[101, 110]⟩ : ByteArray), (⟨#[97, 98, 49]⟩ : ByteArray), (⟨#[105, 115, 108, 97, 109, 105, 99, 99]⟩ : ByteArray), (⟨#[104, 48]⟩ : ByteArray)] : List ByteArray)) := ⟨_, rfl⟩
 replace H : (some bd) = some r := by first | (rw [al]; with_reducible exact H) | (have H2_ := (Option.bind_some _ _).symm.trans H; rw [al]; with_reducible exact H2_) | (have H2_ := (Option.bind_some _ _).symm.trans H; with_reducible exact H2_) | with_reducible exact H | (rw [al]; exact H) | exact H
 have aD := Aside0.mk al
 clear al
 obtain rfl := Option.some.inj H
 go_enter Tryz.func37, Tryz.ntmps37
 go_wp2_with (first | ((with_reducible refine gate_dst (N := 1) rfl ?_); refine Kd.R_lit Kd.string _ 9 ?hg (N := 1) ?hd (xs := ([(⟨#[99, 97]⟩ : ByteArray), (⟨#[98, 117, 100, 100, 104, 105, 115, 116]⟩ : ByteArray), (⟨#[99, 111]⟩ : ByteArray), (⟨#[116, 114, 117, 101]⟩ : ByteArray), (⟨#[107, 110]⟩ : ByteArray), (⟨#[112, 104, 111, 110, 101, 98, 107]⟩ : ByteArray), (⟨#[109, 48]⟩ : ByteArray), (⟨#[101, 110]⟩ : ByteArray), (⟨#[97, 98, 49]⟩ : ByteArray), (⟨#[105, 115, 108, 97, 109, 105, 99, 99]⟩ : ByteArray), (⟨#[104, 48]⟩ : ByteArray)] : List ByteArray)) (inner := [.string (⟨#[99, 97]⟩ : ByteArray), .string (⟨#[98, 117, 100, 100, 104, 105, 115, 116]⟩ : ByteArray), .string (⟨#[99, 111]⟩ : ByteArray), .string (⟨#[116, 114, 117, 101]⟩ : ByteArray), .string (⟨#[107, 110]⟩ : ByteArray), .string (⟨#[112, 104, 111, 110, 101, 98, 107]⟩ : ByteArray), .string (⟨#[109, 48]⟩ : ByteArray), .string (⟨#[101, 110]⟩ : ByteArray), .string (⟨#[97, 98, 49]⟩ : ByteArray), .string (⟨#[105, 115, 108, 97, 109, 105, 99, 99]⟩ : ByteArray), .string (⟨#[104, 48]⟩ : ByteArray)]) (ok := fun _ => True) (okp := fun _ => True) ?hr ?hp (fun _ hk => hk) trivial (Below.refl _ _) (Nat.le_refl _) (by simp) ?_; (case hd => rfl); (case hg => rfl); (case hr => first | (go_simp; done) | (go_simp; rfl)); (case hp => exact (Reps.one (show Kd.M Kd.string _ _ _ (⟨#[99, 97]⟩ : ByteArray) [.string (⟨#[99, 97]⟩ : ByteArray)] from rfl) (Reps.one (show Kd.M Kd.string _ _ _ (⟨#[98, 117, 100, 100, 104, 105, 115, 116]⟩ : ByteArray) [.string (⟨#[98, 117, 100, 100, 104, 105, 115, 116]⟩ : ByteArray)] from rfl) (Reps.one (show Kd.M Kd.string _ _ _ (⟨#[99, 111]⟩ : ByteArray) [.string (⟨#[99, 111]⟩ : ByteArray)] from rfl) (Reps.one (show Kd.M Kd.string _ _ _ (⟨#[116, 114, 117, 101]⟩ : ByteArray) [.string (⟨#[116, 114, 117, 101]⟩ : ByteArray)] from rfl) (Reps.one (show Kd.M Kd.string _ _ _ (⟨#[107, 110]⟩ : ByteArray) [.string (⟨#[107, 110]⟩ : ByteArray)] from rfl) (Reps.one (show Kd.M Kd.string _ _ _ (⟨#[112, 104, 111, 110, 101, 98, 107]⟩ : ByteArray) [.string (⟨#[112, 104, 111, 110, 101, 98, 107]⟩ : ByteArray)] from rfl) (Reps.one (show Kd.M Kd.string _ _ _ (⟨#[109, 48]⟩ : ByteArray) [.string (⟨#[109, 48]⟩ : ByteArray)] from rfl) (Reps.one (show Kd.M Kd.string _ _ _ (⟨#[101, 110]⟩ : ByteArray) [.string (⟨#[101, 110]⟩ : ByteArray)] from rfl) (Reps.one (show Kd.M Kd.string _ _ _ (⟨#[97, 98, 49]⟩ : ByteArray) [.string (⟨#[97, 98, 49]⟩ : ByteArray)] from rfl) (Reps.one (show Kd.M Kd.string _ _ _ (⟨#[105, 115, 108, 97, 109, 105, 99, 99]⟩ : ByteArray) [.string (⟨#[105, 115, 108, 97, 109, 105, 99, 99]⟩ : ByteArray)] from rfl) (Reps.one (show Kd.M Kd.string _ _ _ (⟨#[104, 48]⟩ : ByteArray) [.string (⟨#[104, 48]⟩ : ByteArray)] from rfl) (Reps.none _ _))))))))))))); intro v178 w1 ho2 hb hg_ hnew_; clear hg_ hnew_; (first | rw [← aD.out] at ho2 | (simp only [Int.reduceToNat] at ho2; rw [← aD.out] at ho2)); have ag := Aside0.mk (Kd.R_lower ho2 (wZ_ (Qw HB.out))); have ap := Aside0.mk (wT_ (Qw HB.out) hb); clear HB; have aZ := ag; have HB := ap; clear ag ap; clear hb ho2))
 go_ret
 exact ⟨_, Qe, Qr aZ.out, Qw HB.out⟩
end Go.Proofs.YtejnfbfikadpdaaGreatDoor.P
