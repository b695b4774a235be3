-- Written for this claim by the session's own run of the print, functions proved by hand put in.
import Derived.Test.YtljadeeoaoiilaaGreatDoorSq
import Derived.Test.YtljadeeoaoiilaaGreatDoorPx0
namespace Go.Proofs.YtljadeeoaoiilaaGreatDoor.P
open Go.RowKit Go.Proofs.YtljadeeoaoiilaaGreatDoorW.PrintWords Go.Proofs.YtljadeeoaoiilaaGreatDoorW.PrintLast Go.Proofs.YtljadeeoaoiilaaGreatDoorW.PrintMore
open Go.Proofs.YtljadeeoaoiilaaGreatDoorW.PrintWords renaming blk_frozen → bF_, blk_cell → bC_, below_alloc → wA_, pw_below_drewN → wN_, below_drew1 → wD_, below_set → wS_, below_size → wZ_, below_step → wT_
attribute [local go_sem] max2_int min2_int max_two min_two max_three min_three max_four min_four   -- for this text's walks alone
set_option linter.unusedVariables false
set_option linter.unusedSimpArgs false
def ascii_order_byte.f (a0 : Int) (a1 : Int) : Option (Int) := if a0 < a1 then (some (-1)) else (if a0 > a1 then (some 1) else (some 0))
set_option maxHeartbeats 8000000 in
set_option maxRecDepth 100000 in
theorem ascii_order_byte.calls (a0 : Int) (a1 : Int) (r : Int) (w : World) (h : ascii_order_byte.f a0 a1 = some r) :
  Calls Tryz.prog 86 #[.int .u8 a0, .int .u8 a1] w fun e w' => e = .returned (.int .i64 r) ∧ Drawn0 w w' := by
 have H := h; unfold ascii_order_byte.f at H
 clear h
 by_cases c3 : a0 < a1
 ·rw [if_pos c3] at H
  have ay : decide (a0 < a1) = true := decide_eq_true c3
  clear c3
  obtain rfl := Option.some.inj H
  go_enter Tryz.func86, Tryz.ntmps86
  go_wp2
  go_ret
  exact ⟨Qs, Q0⟩
 ·rw [if_neg c3] at H
  have ay : decide (a0 < a1) = false := decide_eq_false c3
  clear c3
  by_cases c4 : a0 > a1
  ·rw [if_pos c4] at H
   have az : decide (a1 < a0) = true := decide_eq_true c4
   clear c4
   obtain rfl := Option.some.inj H
   go_enter Tryz.func86, Tryz.ntmps86
   go_wp2
   go_ret
   exact ⟨Qs, Q0⟩
  ·rw [if_neg c4] at H
   have az : decide (a1 < a0) = false := decide_eq_false c4
   clear c4
   obtain rfl := Option.some.inj H
   go_enter Tryz.func86, Tryz.ntmps86
   go_wp2
   go_ret
   exact ⟨Qs, Q0⟩
def ascii_lower.f (a0 : Int) : Option (Int) := if a0 ≥ 65 then (if a0 ≤ 90 then (some ((a0 + 32) % 256)) else (some a0)) else (some a0)
set_option maxHeartbeats 8000000 in
set_option maxRecDepth 100000 in
theorem ascii_lower.calls (a0 : Int) (r : Int) (w : World) (h : ascii_lower.f a0 = some r) :
  Calls Tryz.prog 87 #[.int .u8 a0] w fun e w' => e = .returned (.int .u8 r) ∧ Drawn0 w w' := by
 have H := h; unfold ascii_lower.f at H
 clear h
 by_cases c2 : a0 ≥ 65
 ·rw [if_pos c2] at H
  have aI : decide (65 ≤ a0) = true := decide_eq_true c2
  clear c2
  by_cases c3 : a0 ≤ 90
  ·rw [if_pos c3] at H
   have ay : decide (a0 ≤ 90) = true := decide_eq_true c3
   clear c3
   obtain rfl := Option.some.inj H
   go_enter Tryz.func87, Tryz.ntmps87
   go_wp2
   go_ret
   exact ⟨Qs, Q0⟩
  ·rw [if_neg c3] at H
   have ay : decide (a0 ≤ 90) = false := decide_eq_false c3
   clear c3
   obtain rfl := Option.some.inj H
   go_enter Tryz.func87, Tryz.ntmps87
   go_wp2
   go_ret
   exact ⟨Qs, Q0⟩
 ·rw [if_neg c2] at H
  have aI : decide (65 ≤ a0) = false := decide_eq_false c2
  clear c2
  obtain rfl := Option.some.inj H
  go_enter Tryz.func87, Tryz.ntmps87
  go_wp2
  go_ret
  exact ⟨Qs, Q0⟩
def ascii_order_int.f (a0 : Int) (a1 : Int) : Option (Int) := if a0 < a1 then (some (-1)) else (if a0 > a1 then (some 1) else (some 0))
set_option maxHeartbeats 8000000 in
set_option maxRecDepth 100000 in
theorem ascii_order_int.calls (a0 : Int) (a1 : Int) (r : Int) (w : World) (h : ascii_order_int.f a0 a1 = some r) :
  Calls Tryz.prog 88 #[.int .i64 a0, .int .i64 a1] w fun e w' => e = .returned (.int .i64 r) ∧ Drawn0 w w' := by
 have H := h; unfold ascii_order_int.f at H
 clear h
 by_cases c3 : a0 < a1
 ·rw [if_pos c3] at H
  have ay : decide (a0 < a1) = true := decide_eq_true c3
  clear c3
  obtain rfl := Option.some.inj H
  go_enter Tryz.func88, Tryz.ntmps88
  go_wp2
  go_ret
  exact ⟨Qs, Q0⟩
 ·rw [if_neg c3] at H
  have ay : decide (a0 < a1) = false := decide_eq_false c3
  clear c3
  by_cases c4 : a0 > a1
  ·rw [if_pos c4] at H
   have az : decide (a1 < a0) = true := decide_eq_true c4
   clear c4
   obtain rfl := Option.some.inj H
   go_enter Tryz.func88, Tryz.ntmps88
   go_wp2
   go_ret
   exact ⟨Qs, Q0⟩
  ·rw [if_neg c4] at H
   have az : decide (a1 < a0) = false := decide_eq_false c4
   clear c4
   obtain rfl := Option.some.inj H
   go_enter Tryz.func88, Tryz.ntmps88
   go_wp2
   go_ret
   exact ⟨Qs, Q0⟩
def ascii_Compare.l0 : Nat → ByteArray → ByteArray → Int → Int → Option (Int)
 | 0, _, _, _, _ => none
 | k + 1, x0, x1, x11, x12 => if x12 < x11 then (if 0 ≤ x12 then (if x12 < (x0.size : Int) then ((ascii_lower.f (bt x0 x12)).bind fun aB => (if x12 < (x1.size : Int) then ((ascii_lower.f (bt x1 x12)).bind fun aC => ((ascii_order_byte.f aB aC).bind fun am => (if am = 0 then (ascii_Compare.l0 k x0 x1 x11 (wrap64 (x12 + 1))) else (some am)))) else (none))) else (none)) else (none)) else ((ascii_order_int.f (x0.size : Int) (x1.size : Int)).bind fun aE => (some aE))
def ascii_Compare.f (k : Nat) (a0 : ByteArray) (a1 : ByteArray) : Option (Int) := ascii_Compare.l0 k a0 a1 (mn (a0.size : Int) (a1.size : Int)) 0
set_option maxHeartbeats 8000000 in
set_option maxRecDepth 100000 in
theorem ascii_Compare.calls (k : Nat) (a0 : ByteArray) (a1 : ByteArray) (r : Int) (w : World) (h : ascii_Compare.f k a0 a1 = some r) :
  Calls Tryz.prog 56 #[.string a0, .string a1] w fun e w' => e = .returned (.int .i64 r) ∧ Below w.heap.size w w' := by
 have HB := Aside0.mk (Below.refl w.heap.size w)
 have H : (ascii_Compare.l0 k a0 a1 (mn (a0.size : Int) (a1.size : Int)) 0) = some r := h
 clear h
 obtain ⟨ji3, hji3⟩ : ∃ j_ : Int, (mn (a0.size : Int) (a1.size : Int)) = j_ := ⟨_, rfl⟩
 replace H : (ascii_Compare.l0 k a0 a1 ji3 0) = some r := by first | (rw [hji3] at H; exact H) | (simp only [hji3] at H ⊢; exact H)
 (try (have hji3l : 0 ≤ ji3 := by (rw [← hji3]; unfold mn; (repeat' split) <;> omega)))
 (try (have hji3m : 0 ≤ ji3 := by omega))
 have hji3_ : (if (a1.size : Int) < (a0.size : Int) then (a1.size : Int) else (a0.size : Int)) = ji3 := hji3
 have hji3n_ : (if a1.size < a0.size then (a1.size : Int) else (a0.size : Int)) = ji3 := by rw [← hji3_]; simp only [Int.ofNat_lt]
 have H' := Aside0.mk H
 clear H
 go_enter Tryz.func56, Tryz.ntmps56
 go_wp2
 go_loopg [12] k (fun kq v12 w' => ∃ (ac : Int), v12 = .int .i64 ac ∧ Aside0 (ascii_Compare.l0 kq a0 a1 ji3 ac = some r) ∧ Aside0 (kq ≤ k) ∧ Aside0 (Below w.heap.size w w'))
 case atStart => exact ⟨(0), Qs, H', ⟨Nat.le_refl _⟩, ⟨Qw HB.out⟩⟩
 case round =>
  clear H'
  obtain ⟨ac, rfl, HA, HK1, HB⟩ := hrel
  cases gk with
  | zero => exact absurd HA.out (by simp [ascii_Compare.l0])
  | succ k1 =>
   have H := HA.out
   clear HA
   simp only [ascii_Compare.l0] at H
   by_cases c4 : ac < ji3
   ·rw [if_pos c4] at H
    have az : decide (ac < ji3) = true := decide_eq_true c4
    clear c4
    by_cases c5 : 0 ≤ ac
    ·rw [if_pos c5] at H
     have ch : decide (0 ≤ ac) = true := decide_eq_true c5
     clear c5
     by_cases c6 : ac < (a0.size : Int)
     ·rw [if_pos c6] at H
      have ci : decide (ac < (a0.size : Int)) = true := decide_eq_true c6
      clear c6
      replace H := Option.bind_eq_some_iff.mp H
      obtain ⟨aB, b4, H⟩ := H
      try dsimp only at H
      have A8 := Aside0.mk b4
      clear b4
      by_cases c9 : ac < (a1.size : Int)
      ·rw [if_pos c9] at H
       have cj : decide (ac < (a1.size : Int)) = true := decide_eq_true c9
       clear c9
       replace H := Option.bind_eq_some_iff.mp H
       obtain ⟨aC, aM, H⟩ := H
       try dsimp only at H
       have b5 := Aside0.mk aM
       clear aM
       replace H := Option.bind_eq_some_iff.mp H
       obtain ⟨am, aN, H⟩ := H
       try dsimp only at H
       have b6 := Aside0.mk aN
       clear aN
       by_cases c13 : am = 0
       ·rw [if_pos c13] at H
        have aO : (am == 0) = true := beq_iff_eq.mpr c13
        have aP : (am != 0) = false := bne_eq_false_iff_eq.mpr c13
        clear c13
        have H' := Aside0.mk H
        clear H
        have p7 : 0 ≤ (ac : Int) := of_decide_eq_true Qa
        have q7 : ac < (a0.size : Int) := of_decide_eq_true Qa
        have hx7 := bt_at a0 ac
        replace p7 := eq_true p7
        replace q7 := eq_true q7
        go_wp2_with (fail)
        repeat (go_quiet (first | (go_at_call 87; (with_reducible refine (ascii_lower.calls (bt a0 ac) aB _ A8.out).mono ?_); rintro e w' ⟨rfl, ⟨nd, rfl⟩⟩; (try exact Qd); have p10 : 0 ≤ (ac : Int) := of_decide_eq_true Qa; have q10 : ac < (a1.size : Int) := of_decide_eq_true Qa; have hx10 := bt_at a1 ac; replace p10 := eq_true p10; replace q10 := eq_true q10) | (go_at_call 87; (with_reducible refine (ascii_lower.calls (bt a1 ac) aC _ b5.out).mono ?_); rintro e w' ⟨rfl, ⟨nd, rfl⟩⟩; (try exact Qd)) | (go_at_call 86; (with_reducible refine (ascii_order_byte.calls aB aC am _ b6.out).mono ?_); rintro e w' ⟨rfl, ⟨nd, rfl⟩⟩; (try exact Qd))); try go_wp2_with (fail))
        go_roundg k1
        case measure => have := HK1.out; omega
        case rel => exact ⟨(wrap64 (ac + 1)), Qs, H', ⟨by have := HK1.out; omega⟩, ⟨Qw HB.out⟩⟩
       ·rw [if_neg c13] at H
        have aO : (am == 0) = false := beq_eq_false_iff_ne.mpr c13
        have aP : (am != 0) = true := bne_iff_ne.mpr c13
        obtain rfl := Option.some.inj H
        have p7 : 0 ≤ (ac : Int) := of_decide_eq_true Qa
        have q7 : ac < (a0.size : Int) := of_decide_eq_true Qa
        have hx7 := bt_at a0 ac
        replace p7 := eq_true p7
        replace q7 := eq_true q7
        go_wp2_with (fail)
        repeat (go_quiet (first | (go_at_call 87; (with_reducible refine (ascii_lower.calls (bt a0 ac) aB _ A8.out).mono ?_); rintro e w' ⟨rfl, ⟨nd, rfl⟩⟩; (try exact Qd); have p10 : 0 ≤ (ac : Int) := of_decide_eq_true Qa; have q10 : ac < (a1.size : Int) := of_decide_eq_true Qa; have hx10 := bt_at a1 ac; replace p10 := eq_true p10; replace q10 := eq_true q10) | (go_at_call 87; (with_reducible refine (ascii_lower.calls (bt a1 ac) aC _ b5.out).mono ?_); rintro e w' ⟨rfl, ⟨nd, rfl⟩⟩; (try exact Qd)) | (go_at_call 86; (with_reducible refine (ascii_order_byte.calls aB aC am _ b6.out).mono ?_); rintro e w' ⟨rfl, ⟨nd, rfl⟩⟩; (try exact Qd))); try go_wp2_with (fail))
        go_ret
        exact ⟨by first | rfl | (simp [errW_none, errW_some] <;> rfl) | (simp only [← hji3]; first | rfl | (simp [errW_none, errW_some] <;> rfl)) | (simp [*, errW_none, errW_some] <;> rfl), Qw HB.out⟩
      ·rw [if_neg c9] at H
       exact absurd H (by simp)
     ·rw [if_neg c6] at H
      exact absurd H (by simp)
    ·rw [if_neg c5] at H
     exact absurd H (by simp)
   ·rw [if_neg c4] at H
    have az : decide (ac < ji3) = false := decide_eq_false c4
    clear c4
    replace H := Option.bind_eq_some_iff.mp H
    obtain ⟨aE, aQ, H⟩ := H
    replace H : (some aE) = some r := H
    have b7 := Aside0.mk aQ
    clear aQ
    obtain rfl := Option.some.inj H
    go_wp2_with (first | (go_at_call 88; (with_reducible refine (ascii_order_int.calls (a0.size : Int) (a1.size : Int) aE _ b7.out).mono ?_); rintro e w' ⟨rfl, ⟨nd, rfl⟩⟩; (try exact Qd)))
    repeat (go_quiet (first | (go_at_call 88; (with_reducible refine (ascii_order_int.calls (a0.size : Int) (a1.size : Int) aE _ b7.out).mono ?_); rintro e w' ⟨rfl, ⟨nd, rfl⟩⟩; (try exact Qd))); try go_wp2_with (fail))
    go_ret
    exact ⟨by first | rfl | (simp [errW_none, errW_some] <;> rfl) | (simp only [← hji3]; first | rfl | (simp [errW_none, errW_some] <;> rfl)) | (simp [*, errW_none, errW_some] <;> rfl), Qw HB.out⟩
def ascii_Same.f (k : Nat) (a0 : ByteArray) (a1 : ByteArray) : Option (Bool) := (ascii_Compare.f k a0 a1).bind fun aD => (some (aD == 0))
set_option maxHeartbeats 8000000 in
set_option maxRecDepth 100000 in
theorem ascii_Same.calls (k : Nat) (a0 : ByteArray) (a1 : ByteArray) (r : Bool) (w : World) (h : ascii_Same.f k a0 a1 = some r) :
  Calls Tryz.prog 57 #[.string a0, .string a1] w fun e w' => e = .returned (.bool r) ∧ Below w.heap.size w w' := by
 have HB := Aside0.mk (Below.refl w.heap.size w)
 have H : ((ascii_Compare.f k a0 a1).bind fun aD => (some (aD == 0))) = some r := h
 clear h
 replace H := Option.bind_eq_some_iff.mp H
 obtain ⟨aD, b8, H⟩ := H
 replace H : (some (aD == 0)) = some r := H
 have A3 := Aside0.mk b8
 clear b8
 obtain rfl := Option.some.inj H
 go_enter Tryz.func57, Tryz.ntmps57
 go_wp2_with (first | ((with_reducible refine gate_callee (f := 56) rfl ?_); refine goesL_ (some 7) rfl rfl Tryz.func56 (by kernel_rfl) rfl #[.string a0, .string a1] rfl Qm ?_; (with_reducible refine (ascii_Compare.calls k a0 a1 aD _ A3.out).mono ?_); rintro e w4 ⟨rfl, hb⟩; refine ⟨_, rfl, ?_⟩; have aA := Aside0.mk (wT_ (Qw HB.out) hb); clear HB; have HB := aA; clear aA; (try clear hb); (try clear hk)))
 go_ret
 exact ⟨Qe, Qw HB.out⟩
def tag_rules_bare.f (ad : ByteArray) (ag : List ByteArray) (ae : ByteArray) (af : ByteArray) (ah : List ByteArray) (ai : List (S40)) (aj : List ByteArray) (ak : ByteArray) : Option (Bool) := if ad.toList = ([] : List UInt8) then (if ae.toList = ([] : List UInt8) then (if af.toList = ([] : List UInt8) then (some ((wrap64 ((wrap64 ((ag.length : Int) + (ah.length : Int))) + (ai.length : Int))) == 0)) else (some false)) else (some false)) else (some false)
set_option maxHeartbeats 8000000 in
set_option maxRecDepth 100000 in
theorem tag_rules_bare.calls (ad : ByteArray) (ao : Option Addr) (ap : Nat) (ag : List ByteArray) (ae : ByteArray) (af : ByteArray) (aq : Option Addr) (ar : Nat) (ah : List ByteArray) (au : Option Addr) (av : Nat) (ai : List (S40)) (aw : Option Addr) (ax : Nat) (aj : List ByteArray) (ak : ByteArray) (r : Bool) (w : World) (hr0_1 : Kd.C Kd.string w ao ag.length ag) (hc0_1 : ag.length ≤ ap) (hr0_4 : Kd.C Kd.string w aq ah.length ah) (hc0_4 : ah.length ≤ ar) (hr0_5 : Kd.C k40 w au ai.length ai) (hc0_5 : ai.length ≤ av) (hr0_6 : Kd.C Kd.string w aw aj.length aj) (hc0_6 : aj.length ≤ ax) (h : tag_rules_bare.f ad ag ae af ah ai aj ak = some r) :
  Calls Tryz.prog 27 #[.agg #[.string ad, .slice ao ag.length ap, .string ae, .string af, .slice aq ah.length ar, .slice au ai.length av, .slice aw aj.length ax, .string ak]] w fun e w' => e = .returned (.bool r) ∧ Below w.heap.size w w' := by
 have hu45 := Tryz.underlying45
 have b9 := Aside0.mk hr0_1
 have ca := Aside0.mk hc0_1
 clear hr0_1 hc0_1
 have cb := Aside0.mk hr0_4
 have cc := Aside0.mk hc0_4
 clear hr0_4 hc0_4
 have cd := Aside0.mk hr0_5
 have ce := Aside0.mk hc0_5
 clear hr0_5 hc0_5
 have cf := Aside0.mk hr0_6
 have cg := Aside0.mk hc0_6
 clear hr0_6 hc0_6
 have HB := Aside0.mk (Below.refl w.heap.size w)
 have H := h; unfold tag_rules_bare.f at H
 clear h
 by_cases c2 : ad.toList = ([] : List UInt8)
 ·rw [if_pos c2] at H
  have aI : (ad.toList == ([] : List UInt8)) = true := beq_iff_eq.mpr c2
  have aJ : ad.toList.isEmpty = true := List.isEmpty_iff.2 c2
  have bq : (!ad.toList.isEmpty) = false := by rw [aJ]; rfl
  have br : (ad.toList != ([] : List UInt8)) = false := bne_eq_false_iff_eq.mpr c2
  clear c2
  by_cases c3 : ae.toList = ([] : List UInt8)
  ·rw [if_pos c3] at H
   have ay : (ae.toList == ([] : List UInt8)) = true := beq_iff_eq.mpr c3
   have aK : ae.toList.isEmpty = true := List.isEmpty_iff.2 c3
   have bs : (!ae.toList.isEmpty) = false := by rw [aK]; rfl
   have bu : (ae.toList != ([] : List UInt8)) = false := bne_eq_false_iff_eq.mpr c3
   clear c3
   by_cases c4 : af.toList = ([] : List UInt8)
   ·rw [if_pos c4] at H
    have az : (af.toList == ([] : List UInt8)) = true := beq_iff_eq.mpr c4
    have aL : af.toList.isEmpty = true := List.isEmpty_iff.2 c4
    have bv : (!af.toList.isEmpty) = false := by rw [aL]; rfl
    have bw : (af.toList != ([] : List UInt8)) = false := bne_eq_false_iff_eq.mpr c4
    clear c4
    obtain rfl := Option.some.inj H
    go_enter Tryz.func27, Tryz.ntmps27
    go_wp2_with (first | ((with_reducible refine gate_dst (N := 1) rfl ?_); (try (refine gate_guard (by rfl) ?_; dsimp only)); refine box_event ?hg (N := 1) ?hd (cs := #[.string ad, .slice ao ag.length ap, .string ae, .string af, .slice aq ah.length ar, .slice au ai.length av, .slice aw aj.length ax, .string ak]) (t := 45) ?hr ?_; (case hd => rfl); (case hg => rfl); (case hr => first | (go_simp; done) | (go_simp; rfl)); intro ab hg w5 hbox hb; have aA := Aside0.mk (wT_ (Qw HB.out) hb); have aF := Aside0.mk (hbox); have aG := Aside0.mk ((by rw [hg]; exact (wZ_ (Qw HB.out)) : w.heap.size ≤ ab)); have aH := Aside0.mk ((by rw [hg]; exact (wZ_ (Qw HB.out)) : w.heap.size ≤ ab)); clear HB; have HB := aA; have aa := aF; have GW263 := aG; have al := aH; clear aA aF aG aH; clear hb hbox hg; have bx : w5.cell? ⟨ab, 0, none⟩ = some (.string ad) := (bC_ aa.out 0).trans rfl; have bz : w5.cell? ⟨ab, 1, none⟩ = some (.slice ao ag.length ap) := (bC_ aa.out 1).trans rfl; have bA : w5.cell? ⟨ab, 2, none⟩ = some (.string ae) := (bC_ aa.out 2).trans rfl; have bB : w5.cell? ⟨ab, 3, none⟩ = some (.string af) := (bC_ aa.out 3).trans rfl; have bC : w5.cell? ⟨ab, 4, none⟩ = some (.slice aq ah.length ar) := (bC_ aa.out 4).trans rfl; have bD : w5.cell? ⟨ab, 5, none⟩ = some (.slice au ai.length av) := (bC_ aa.out 5).trans rfl; have bE : w5.cell? ⟨ab, 6, none⟩ = some (.slice aw aj.length ax) := (bC_ aa.out 6).trans rfl; have bF : w5.cell? ⟨ab, 7, none⟩ = some (.string ak) := (bC_ aa.out 7).trans rfl; have bG := bF_ aa.out 0; have bH := bF_ aa.out 1; have bI := bF_ aa.out 2; have bJ := bF_ aa.out 3; have bK := bF_ aa.out 4; have bL := bF_ aa.out 5; have bM := bF_ aa.out 6; have bN := bF_ aa.out 7))
    go_ret
    exact ⟨Qe, Qv HB.out al.out⟩
   ·rw [if_neg c4] at H
    have az : (af.toList == ([] : List UInt8)) = false := beq_eq_false_iff_ne.mpr c4
    have aL : af.toList.isEmpty = false := List.isEmpty_eq_false_iff.2 c4
    have bv : (!af.toList.isEmpty) = true := by rw [aL]; rfl
    have bw : (af.toList != ([] : List UInt8)) = true := bne_iff_ne.mpr c4
    obtain rfl := Option.some.inj H
    go_enter Tryz.func27, Tryz.ntmps27
    go_wp2_with (first | ((with_reducible refine gate_dst (N := 1) rfl ?_); (try (refine gate_guard (by rfl) ?_; dsimp only)); refine box_event ?hg (N := 1) ?hd (cs := #[.string ad, .slice ao ag.length ap, .string ae, .string af, .slice aq ah.length ar, .slice au ai.length av, .slice aw aj.length ax, .string ak]) (t := 45) ?hr ?_; (case hd => rfl); (case hg => rfl); (case hr => first | (go_simp; done) | (go_simp; rfl)); intro ab hg w7 hbox hb; have aA := Aside0.mk (wT_ (Qw HB.out) hb); have aF := Aside0.mk (hbox); have aG := Aside0.mk ((by rw [hg]; exact (wZ_ (Qw HB.out)) : w.heap.size ≤ ab)); have aH := Aside0.mk ((by rw [hg]; exact (wZ_ (Qw HB.out)) : w.heap.size ≤ ab)); clear HB; have HB := aA; have aa := aF; have GW263 := aG; have al := aH; clear aA aF aG aH; clear hb hbox hg; have bO : w7.cell? ⟨ab, 0, none⟩ = some (.string ad) := (bC_ aa.out 0).trans rfl; have bP : w7.cell? ⟨ab, 1, none⟩ = some (.slice ao ag.length ap) := (bC_ aa.out 1).trans rfl; have bQ : w7.cell? ⟨ab, 2, none⟩ = some (.string ae) := (bC_ aa.out 2).trans rfl; have bR : w7.cell? ⟨ab, 3, none⟩ = some (.string af) := (bC_ aa.out 3).trans rfl; have bS : w7.cell? ⟨ab, 4, none⟩ = some (.slice aq ah.length ar) := (bC_ aa.out 4).trans rfl; have bT : w7.cell? ⟨ab, 5, none⟩ = some (.slice au ai.length av) := (bC_ aa.out 5).trans rfl; have bU : w7.cell? ⟨ab, 6, none⟩ = some (.slice aw aj.length ax) := (bC_ aa.out 6).trans rfl; have bV : w7.cell? ⟨ab, 7, none⟩ = some (.string ak) := (bC_ aa.out 7).trans rfl; have bW := bF_ aa.out 0; have bX := bF_ aa.out 1; have bY := bF_ aa.out 2; have bZ := bF_ aa.out 3; have b0 := bF_ aa.out 4; have b1 := bF_ aa.out 5; have b2 := bF_ aa.out 6; have b3 := bF_ aa.out 7))
    go_ret
    exact ⟨Qe, Qv HB.out al.out⟩
  ·rw [if_neg c3] at H
   have ay : (ae.toList == ([] : List UInt8)) = false := beq_eq_false_iff_ne.mpr c3
   have aK : ae.toList.isEmpty = false := List.isEmpty_eq_false_iff.2 c3
   have bs : (!ae.toList.isEmpty) = true := by rw [aK]; rfl
   have bu : (ae.toList != ([] : List UInt8)) = true := bne_iff_ne.mpr c3
   obtain rfl := Option.some.inj H
   go_enter Tryz.func27, Tryz.ntmps27
   go_wp2_with (first | ((with_reducible refine gate_dst (N := 1) rfl ?_); (try (refine gate_guard (by rfl) ?_; dsimp only)); refine box_event ?hg (N := 1) ?hd (cs := #[.string ad, .slice ao ag.length ap, .string ae, .string af, .slice aq ah.length ar, .slice au ai.length av, .slice aw aj.length ax, .string ak]) (t := 45) ?hr ?_; (case hd => rfl); (case hg => rfl); (case hr => first | (go_simp; done) | (go_simp; rfl)); intro ab hg w9 hbox hb; have aA := Aside0.mk (wT_ (Qw HB.out) hb); have aF := Aside0.mk (hbox); have aG := Aside0.mk ((by rw [hg]; exact (wZ_ (Qw HB.out)) : w.heap.size ≤ ab)); have aH := Aside0.mk ((by rw [hg]; exact (wZ_ (Qw HB.out)) : w.heap.size ≤ ab)); clear HB; have HB := aA; have aa := aF; have GW263 := aG; have al := aH; clear aA aF aG aH; clear hb hbox hg; have aR : w9.cell? ⟨ab, 0, none⟩ = some (.string ad) := (bC_ aa.out 0).trans rfl; have aS : w9.cell? ⟨ab, 1, none⟩ = some (.slice ao ag.length ap) := (bC_ aa.out 1).trans rfl; have aT : w9.cell? ⟨ab, 2, none⟩ = some (.string ae) := (bC_ aa.out 2).trans rfl; have aU : w9.cell? ⟨ab, 3, none⟩ = some (.string af) := (bC_ aa.out 3).trans rfl; have aV : w9.cell? ⟨ab, 4, none⟩ = some (.slice aq ah.length ar) := (bC_ aa.out 4).trans rfl; have aW : w9.cell? ⟨ab, 5, none⟩ = some (.slice au ai.length av) := (bC_ aa.out 5).trans rfl; have aX : w9.cell? ⟨ab, 6, none⟩ = some (.slice aw aj.length ax) := (bC_ aa.out 6).trans rfl; have aY : w9.cell? ⟨ab, 7, none⟩ = some (.string ak) := (bC_ aa.out 7).trans rfl; have aZ := bF_ aa.out 0; have a2 := bF_ aa.out 1; have a3 := bF_ aa.out 2; have a4 := bF_ aa.out 3; have a5 := bF_ aa.out 4; have a6 := bF_ aa.out 5; have a7 := bF_ aa.out 6; have a8 := bF_ aa.out 7))
   go_ret
   exact ⟨Qe, Qv HB.out al.out⟩
 ·rw [if_neg c2] at H
  have aI : (ad.toList == ([] : List UInt8)) = false := beq_eq_false_iff_ne.mpr c2
  have aJ : ad.toList.isEmpty = false := List.isEmpty_eq_false_iff.2 c2
  have bq : (!ad.toList.isEmpty) = true := by rw [aJ]; rfl
  have br : (ad.toList != ([] : List UInt8)) = true := bne_iff_ne.mpr c2
  obtain rfl := Option.some.inj H
  go_enter Tryz.func27, Tryz.ntmps27
  go_wp2_with (first | ((with_reducible refine gate_dst (N := 1) rfl ?_); (try (refine gate_guard (by rfl) ?_; dsimp only)); refine box_event ?hg (N := 1) ?hd (cs := #[.string ad, .slice ao ag.length ap, .string ae, .string af, .slice aq ah.length ar, .slice au ai.length av, .slice aw aj.length ax, .string ak]) (t := 45) ?hr ?_; (case hd => rfl); (case hg => rfl); (case hr => first | (go_simp; done) | (go_simp; rfl)); intro ab hg w11 hbox hb; have aA := Aside0.mk (wT_ (Qw HB.out) hb); have aF := Aside0.mk (hbox); have aG := Aside0.mk ((by rw [hg]; exact (wZ_ (Qw HB.out)) : w.heap.size ≤ ab)); have aH := Aside0.mk ((by rw [hg]; exact (wZ_ (Qw HB.out)) : w.heap.size ≤ ab)); clear HB; have HB := aA; have aa := aF; have GW263 := aG; have al := aH; clear aA aF aG aH; clear hb hbox hg; have a9 : w11.cell? ⟨ab, 0, none⟩ = some (.string ad) := (bC_ aa.out 0).trans rfl; have ba : w11.cell? ⟨ab, 1, none⟩ = some (.slice ao ag.length ap) := (bC_ aa.out 1).trans rfl; have bb : w11.cell? ⟨ab, 2, none⟩ = some (.string ae) := (bC_ aa.out 2).trans rfl; have bc : w11.cell? ⟨ab, 3, none⟩ = some (.string af) := (bC_ aa.out 3).trans rfl; have bd : w11.cell? ⟨ab, 4, none⟩ = some (.slice aq ah.length ar) := (bC_ aa.out 4).trans rfl; have be : w11.cell? ⟨ab, 5, none⟩ = some (.slice au ai.length av) := (bC_ aa.out 5).trans rfl; have bf : w11.cell? ⟨ab, 6, none⟩ = some (.slice aw aj.length ax) := (bC_ aa.out 6).trans rfl; have bg : w11.cell? ⟨ab, 7, none⟩ = some (.string ak) := (bC_ aa.out 7).trans rfl; have bh := bF_ aa.out 0; have bi := bF_ aa.out 1; have bj := bF_ aa.out 2; have bk := bF_ aa.out 3; have bm := bF_ aa.out 4; have bn := bF_ aa.out 5; have bo := bF_ aa.out 6; have bp := bF_ aa.out 7))
  go_ret
  exact ⟨Qe, Qv HB.out al.out⟩
end Go.Proofs.YtljadeeoaoiilaaGreatDoor.P
