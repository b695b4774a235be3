-- Written for this claim by the session's own run of the print, functions proved by hand put in.
import Derived.Test.YtmkjifljciajbaaDoorPx0
import Derived.Test.YtmkjifljciajbaaDoorPx1
namespace Go.Proofs.YtmkjifljciajbaaDoor.P
open Go.RowKit Go.Proofs.YtmkjifljciajbaaDoorW.PrintWords Go.Proofs.YtmkjifljciajbaaDoorW.PrintLast Go.Proofs.YtmkjifljciajbaaDoorW.PrintMore
attribute [local go_sem] max2_int min2_int max_two min_two max_three min_three max_four min_four   -- for this text's walks alone
set_option linter.unusedVariables false
set_option linter.unusedSimpArgs false

/-! ### isoglosslaw04_SplitTrims: function 3 -/
mutual
def isoglosslaw04_SplitTrims.l0 : Nat → ByteArray → Bool → Int → Option (Bool)
 | 0, _, _, _ => none
 | k + 1, x0, x3, x4 => if x0.toList = ([] : List UInt8) then (isoglosslaw04_SplitTrims.j1 k x0 x3 x4 false) else (isoglosslaw04_SplitTrims.j1 k x0 x3 x4 (decide (x4 > 0)))
def isoglosslaw04_SplitTrims.j1 : Nat → ByteArray → Bool → Int → Bool → Option (Bool)
 | 0, _, _, _, _ => none
 | k + 1, x0, x3, x4, x18 => if x18 = true then ((split_Trim.f k x0).bind fun t111 => (if (t111.size : Int) ≥ (x0.size : Int) then (isoglosslaw04_SplitTrims.j2 k x3 x4 t111 true) else (if 0 ≤ (t111.size : Int) then (if (t111.size : Int) ≤ (x0.size : Int) then (if (x0.extract 0 t111.size).toList = t111.toList then (if t111.toList = ([] : List UInt8) then (isoglosslaw04_SplitTrims.j2 k x3 x4 t111 false) else (if (t111.size : Int) < (x0.size : Int) then (isoglosslaw04_SplitTrims.j2 k x3 x4 t111 ((bt x0 (t111.size : Int)) != 45)) else (none))) else (isoglosslaw04_SplitTrims.j2 k x3 x4 t111 true)) else (none)) else (none)))) else (if x3 = true then (some (x0.toList == ([] : List UInt8))) else (some false))
def isoglosslaw04_SplitTrims.j2 : Nat → Bool → Int → ByteArray → Bool → Option (Bool)
 | 0, _, _, _, _ => none
 | k + 1, x3, x4, x5, x44 => if x44 = true then (some false) else ((split_Split.f x5).bind fun t112 => (if (t112.length : Int) = 0 then (some false) else (if (t112.length : Int) > 1 then (if 0 ≤ (wrap64 ((t112.length : Int) - 1)) then (if (wrap64 ((t112.length : Int) - 1)) < (t112.length : Int) then (if ((rdOf ByteArray.empty t112 (wrap64 ((t112.length : Int) - 1))).size : Int) = 1 then (some false) else (isoglosslaw04_SplitTrims.l0 k x5 x3 (wrap64 (x4 - 1)))) else (none)) else (none)) else (isoglosslaw04_SplitTrims.l0 k x5 x3 (wrap64 (x4 - 1))))))
end
def isoglosslaw04_SplitTrims.f (k : Nat) (a0 : ByteArray) : Option (Bool) := (isoglosslaw04_awake.f k).bind fun t106 => ((isoglosslaw04_short.f a0).bind fun t107 => ((split_Split.f t107).bind fun t108 => (isoglosslaw04_SplitTrims.l0 k t107 t106 (t108.length : Int))))
theorem isoglosslaw04_SplitTrims.mono_l : ∀ k, (∀ y0 y1 y2, LeO (isoglosslaw04_SplitTrims.l0 k y0 y1 y2) (isoglosslaw04_SplitTrims.l0 (k + 1) y0 y1 y2)) ∧ (∀ y0 y1 y2 y3, LeO (isoglosslaw04_SplitTrims.j1 k y0 y1 y2 y3) (isoglosslaw04_SplitTrims.j1 (k + 1) y0 y1 y2 y3)) ∧ (∀ y0 y1 y2 y3, LeO (isoglosslaw04_SplitTrims.j2 k y0 y1 y2 y3) (isoglosslaw04_SplitTrims.j2 (k + 1) y0 y1 y2 y3))
 | 0 => ⟨fun _ _ _ r h => by simp [isoglosslaw04_SplitTrims.l0] at h, fun _ _ _ _ r h => by simp [isoglosslaw04_SplitTrims.j1] at h, fun _ _ _ _ r h => by simp [isoglosslaw04_SplitTrims.j2] at h⟩
 | k + 1 => by
  obtain ⟨ih0, ih1, ih2⟩ := isoglosslaw04_SplitTrims.mono_l k
  refine ⟨?_, ?_, ?_⟩
  ·intro y0 y1 y2
   unfold isoglosslaw04_SplitTrims.l0
   repeat' first
   | (with_reducible exact ih0 _ _ _)
   | (with_reducible exact ih1 _ _ _ _)
   | (with_reducible exact ih2 _ _ _ _)
   | (with_reducible exact isoglosslaw04_awake.mono _)
   | (with_reducible exact split_Trim.mono _ _)
   | (with_reducible exact LeO.refl _)
   | (with_reducible exact LeO.none _)
   | (with_reducible refine LeO.ite ?_ ?_)
   | (with_reducible refine LeO.bind ?_ (fun _ => ?_))
   | exact ih0 _ _ _
   | exact ih1 _ _ _ _
   | exact ih2 _ _ _ _
   | exact isoglosslaw04_awake.mono _
   | exact split_Trim.mono _ _
   | exact LeO.none _
   | refine LeO.ite ?_ ?_
   | refine LeO.bind ?_ (fun _ => ?_)
  ·intro y0 y1 y2 y3
   unfold isoglosslaw04_SplitTrims.j1
   repeat' first
   | (with_reducible exact ih0 _ _ _)
   | (with_reducible exact ih1 _ _ _ _)
   | (with_reducible exact ih2 _ _ _ _)
   | (with_reducible exact isoglosslaw04_awake.mono _)
   | (with_reducible exact split_Trim.mono _ _)
   | (with_reducible exact LeO.refl _)
   | (with_reducible exact LeO.none _)
   | (with_reducible refine LeO.ite ?_ ?_)
   | (with_reducible refine LeO.bind ?_ (fun _ => ?_))
   | exact ih0 _ _ _
   | exact ih1 _ _ _ _
   | exact ih2 _ _ _ _
   | exact isoglosslaw04_awake.mono _
   | exact split_Trim.mono _ _
   | exact LeO.none _
   | refine LeO.ite ?_ ?_
   | refine LeO.bind ?_ (fun _ => ?_)
  ·intro y0 y1 y2 y3
   unfold isoglosslaw04_SplitTrims.j2
   repeat' first
   | (with_reducible exact ih0 _ _ _)
   | (with_reducible exact ih1 _ _ _ _)
   | (with_reducible exact ih2 _ _ _ _)
   | (with_reducible exact isoglosslaw04_awake.mono _)
   | (with_reducible exact split_Trim.mono _ _)
   | (with_reducible exact LeO.refl _)
   | (with_reducible exact LeO.none _)
   | (with_reducible refine LeO.ite ?_ ?_)
   | (with_reducible refine LeO.bind ?_ (fun _ => ?_))
   | exact ih0 _ _ _
   | exact ih1 _ _ _ _
   | exact ih2 _ _ _ _
   | exact isoglosslaw04_awake.mono _
   | exact split_Trim.mono _ _
   | exact LeO.none _
   | refine LeO.ite ?_ ?_
   | refine LeO.bind ?_ (fun _ => ?_)
theorem isoglosslaw04_SplitTrims.mono : ∀ a0 k, LeO (isoglosslaw04_SplitTrims.f k a0) (isoglosslaw04_SplitTrims.f (k + 1) a0) := by
 intro a0 k
 obtain ⟨ih0, ih1, ih2⟩ := isoglosslaw04_SplitTrims.mono_l k
 unfold isoglosslaw04_SplitTrims.f
 repeat' first
   | (with_reducible exact ih0 _ _ _)
   | (with_reducible exact ih1 _ _ _ _)
   | (with_reducible exact ih2 _ _ _ _)
   | (with_reducible exact isoglosslaw04_awake.mono _)
   | (with_reducible exact split_Trim.mono _ _)
   | (with_reducible exact LeO.refl _)
   | (with_reducible exact LeO.none _)
   | (with_reducible refine LeO.ite ?_ ?_)
   | (with_reducible refine LeO.bind ?_ (fun _ => ?_))
   | exact ih0 _ _ _
   | exact ih1 _ _ _ _
   | exact ih2 _ _ _ _
   | exact isoglosslaw04_awake.mono _
   | exact split_Trim.mono _ _
   | exact LeO.none _
   | refine LeO.ite ?_ ?_
   | refine LeO.bind ?_ (fun _ => ?_)
set_option maxHeartbeats 8000000 in
set_option maxRecDepth 100000 in
theorem isoglosslaw04_SplitTrims.calls (k : Nat) (a0 : ByteArray) (r : Bool) (w : World) (hg : w.cell? ⟨0, 0, none⟩ = some errGV) (h : isoglosslaw04_SplitTrims.f k a0 = some r) :
  Calls Tryd.prog 3 #[.string a0] w fun e w' => e = .returned (.bool r) ∧ Below w.heap.size w w' := by
 have HB := Aside0.mk (Below.refl w.heap.size w)
 have H : ((isoglosslaw04_awake.f k).bind fun t106 => ((isoglosslaw04_short.f a0).bind fun t107 => ((split_Split.f t107).bind fun t108 => (isoglosslaw04_SplitTrims.l0 k t107 t106 (t108.length : Int))))) = some r := h
 clear h
 replace H := Option.bind_eq_some_iff.mp H
 obtain ⟨t106, A20, H⟩ := H
 replace H : ((isoglosslaw04_short.f a0).bind fun t107 => ((split_Split.f t107).bind fun t108 => (isoglosslaw04_SplitTrims.l0 k t107 t106 (t108.length : Int)))) = some r := H
 have A2 := Aside0.mk A20
 clear A20
 replace H := Option.bind_eq_some_iff.mp H
 obtain ⟨t107, A30, H⟩ := H
 replace H : ((split_Split.f t107).bind fun t108 => (isoglosslaw04_SplitTrims.l0 k t107 t106 (t108.length : Int))) = some r := H
 have A3 := Aside0.mk A30
 clear A30
 replace H := Option.bind_eq_some_iff.mp H
 obtain ⟨t108, A40, H⟩ := H
 replace H : (isoglosslaw04_SplitTrims.l0 k t107 t106 (t108.length : Int)) = some r := H
 have A4 := Aside0.mk A40
 clear A40
 have H' := Aside0.mk H
 clear H
 go_enter Tryd.func3, Tryd.ntmps3
 go_wp2_with (first | ((with_reducible refine gate_callee (f := 9) rfl ?_); refine goesL_ (some 7) rfl rfl Tryd.func9 (by kernel_rfl) rfl #[] rfl (by (try simp only [List.map_toArray, List.map_cons, List.map_nil]); first | done | rfl | (simp only [List.length_drop, List.length_take]; rfl)) ?_; (with_reducible refine (isoglosslaw04_awake.calls k t106 _ (by first | exact hg | exact pw_cell_below (by repeat (first | (with_reducible first | exact HB.out | apply below_alloc | apply pw_below_drewN | apply below_drew1) | exact HB.out)) hg) A2.out).mono ?_); rintro e w5 ⟨rfl, hb⟩; refine ⟨_, rfl, ?_⟩; have n0_ := Aside0.mk (below_step (by repeat (first | (with_reducible first | exact HB.out | apply below_alloc | apply pw_below_drewN | apply below_drew1) | exact HB.out)) hb); clear HB; have HB := n0_; clear n0_; (try clear hb); (try clear hb2); (try clear hk); (try clear hi)) | ((with_reducible refine gate_callee (f := 10) rfl ?_); refine goesL_ (some 9) rfl rfl Tryd.func10 (by kernel_rfl) rfl #[.string a0] rfl (by (try simp only [List.map_toArray, List.map_cons, List.map_nil]); first | done | rfl | (simp only [List.length_drop, List.length_take]; rfl)) ?_; (with_reducible refine (isoglosslaw04_short.calls a0 t107 _ A3.out).mono ?_); rintro e w' ⟨rfl, ⟨nd, rfl⟩⟩; refine ⟨_, rfl, ?_⟩) | ((with_reducible refine gate_callee (f := 11) rfl ?_); refine goesL_ (some 11) rfl rfl Tryd.func11 (by kernel_rfl) rfl #[.string t107] rfl (by (try simp only [List.map_toArray, List.map_cons, List.map_nil]); first | done | rfl | (simp only [List.length_drop, List.length_take]; rfl)) ?_; (with_reducible refine (split_Split.calls t107 t108 _ A4.out).mono ?_); rintro e w6 ⟨v109, rfl, ho0, hb⟩; refine ⟨_, rfl, ?_⟩; have n0_ := Aside0.mk (Kd.R_lower ho0 (below_size (by repeat (first | (with_reducible first | exact HB.out | apply below_alloc | apply pw_below_drewN | apply below_drew1) | exact HB.out)))); have n1_ := Aside0.mk (below_step (by repeat (first | (with_reducible first | exact HB.out | apply below_alloc | apply pw_below_drewN | apply below_drew1) | exact HB.out)) hb); clear HB; have HO110 := n0_; have HB := n1_; clear n0_ n1_; (try clear hb); (try clear hb2); (try clear hk); (try clear hi); (try clear ho0); obtain ⟨Ao7, co7, eo7⟩ := Kd.R_slice HO110.out; subst eo7))
 go_loopg [0, 4] k (fun kq v0 v4 w' => ∃ (x0_1 : ByteArray) (x4_1 : Int), v0 = .string x0_1 ∧ v4 = .int .i64 x4_1 ∧ Aside0 (isoglosslaw04_SplitTrims.l0 kq x0_1 t106 x4_1 = some r) ∧ Aside0 (kq ≤ k) ∧ Aside0 (Below w.heap.size w w'))
 case atStart => exact ⟨(t107), ((t108.length : Int)), (by first | rfl | (simp; done) | (simp [*]; done)), (by first | rfl | (simp; done) | (simp [*]; done)), H', ⟨Nat.le_refl _⟩, ⟨by repeat (first | (with_reducible first | exact HB.out | apply below_alloc | apply pw_below_drewN | apply below_drew1) | exact HB.out)⟩⟩
 case round =>
  clear H'
  try clear c1
  try clear p2
  try clear c3
  obtain ⟨x0_1, x4_1, rfl, rfl, HA, HK1, HB⟩ := hrel
  cases gk with
  | zero => exact absurd HA.out (by simp [isoglosslaw04_SplitTrims.l0])
  | succ k1 =>
   have H := HA.out
   clear HA
   simp only [isoglosslaw04_SplitTrims.l0] at H
   have HC8 := Aside0.mk H
   clear H
   go_upto_region 4 with (fail)
   go_cut [18] (fun v18 wc => ∃ (kq : Nat) (x18_7 : Bool), v18 = .bool x18_7 ∧ Aside0 (isoglosslaw04_SplitTrims.j1 kq x0_1 t106 x4_1 x18_7 = some r) ∧ Aside0 (kq ≤ k1) ∧ Aside0 (Below w.heap.size w wc))
   case first =>
    have H := HC8.out
    clear HC8
    by_cases c9 : x0_1.toList = ([] : List UInt8)
    ·rw [if_pos c9] at H
     have c9b0 : (x0_1.toList == ([] : List UInt8)) = true := beq_iff_eq.mpr c9
     have c9e0 : x0_1.toList.isEmpty = true := List.isEmpty_iff.2 c9
     have c9e1 : (!x0_1.toList.isEmpty) = false := by rw [c9e0]; rfl
     have c9b1 : (x0_1.toList != ([] : List UInt8)) = false := bne_eq_false_iff_eq.mpr c9
     clear c9
     (first | rw [c9e1] | rw [c9e0] | rw [c9b0] | rw [c9b1] | (simp only [i64_w, i32_w]; rw [c9b0]) | skip)
     have H' := Aside0.mk H
     clear H
     go_wp2
     go_meet
     case rel => exact ⟨_, (false), (by first | rfl | (simp; done) | (simp [*]; done)), H', ⟨by have := HK1.out; first | omega | exact Nat.le_refl _⟩, ⟨by repeat (first | (with_reducible first | exact HB.out | apply below_alloc | apply pw_below_drewN | apply below_drew1) | exact HB.out)⟩⟩
    ·rw [if_neg c9] at H
     have c9b0 : (x0_1.toList == ([] : List UInt8)) = false := beq_eq_false_iff_ne.mpr c9
     have c9e0 : x0_1.toList.isEmpty = false := List.isEmpty_eq_false_iff.2 c9
     have c9e1 : (!x0_1.toList.isEmpty) = true := by rw [c9e0]; rfl
     have c9b1 : (x0_1.toList != ([] : List UInt8)) = true := bne_iff_ne.mpr c9
     (first | rw [c9e1] | rw [c9e0] | rw [c9b0] | rw [c9b1] | (simp only [i64_w, i32_w]; rw [c9b0]) | skip)
     have H' := Aside0.mk H
     clear H
     go_wp2
     go_meet
     case rel => exact ⟨_, (decide (x4_1 > 0)), (by first | rfl | (simp; done) | (simp [*]; done)), H', ⟨by have := HK1.out; first | omega | exact Nat.le_refl _⟩, ⟨by repeat (first | (with_reducible first | exact HB.out | apply below_alloc | apply pw_below_drewN | apply below_drew1) | exact HB.out)⟩⟩
   case rest =>
    clear HC8
    try clear c1
    try clear p2
    try clear c3
    try clear c9
    try clear c9b0
    try clear c9b1
    try clear p2
    obtain ⟨kq, x18_7, rfl, HA, HJ7, HB⟩ := hcut
    cases kq with
    | zero => exact absurd HA.out (by simp [isoglosslaw04_SplitTrims.j1])
    | succ kj7 =>
     have H := HA.out
     clear HA
     simp only [isoglosslaw04_SplitTrims.j1] at H
     by_cases c10 : x18_7 = true
     ·subst c10
      have H1 : ((split_Trim.f kj7 x0_1).bind fun t111 => (if (t111.size : Int) ≥ (x0_1.size : Int) then (isoglosslaw04_SplitTrims.j2 kj7 t106 x4_1 t111 true) else (if 0 ≤ (t111.size : Int) then (if (t111.size : Int) ≤ (x0_1.size : Int) then (if (x0_1.extract 0 t111.size).toList = t111.toList then (if t111.toList = ([] : List UInt8) then (isoglosslaw04_SplitTrims.j2 kj7 t106 x4_1 t111 false) else (if (t111.size : Int) < (x0_1.size : Int) then (isoglosslaw04_SplitTrims.j2 kj7 t106 x4_1 t111 ((bt x0_1 (t111.size : Int)) != 45)) else (none))) else (isoglosslaw04_SplitTrims.j2 kj7 t106 x4_1 t111 true)) else (none)) else (none)))) = some r := by rw [if_pos rfl] at H; exact H
      clear H
      have H := H1
      clear H1
      replace H := Option.bind_eq_some_iff.mp H
      obtain ⟨t111, A110, H⟩ := H
      replace H : (if (t111.size : Int) ≥ (x0_1.size : Int) then (isoglosslaw04_SplitTrims.j2 kj7 t106 x4_1 t111 true) else (if 0 ≤ (t111.size : Int) then (if (t111.size : Int) ≤ (x0_1.size : Int) then (if (x0_1.extract 0 t111.size).toList = t111.toList then (if t111.toList = ([] : List UInt8) then (isoglosslaw04_SplitTrims.j2 kj7 t106 x4_1 t111 false) else (if (t111.size : Int) < (x0_1.size : Int) then (isoglosslaw04_SplitTrims.j2 kj7 t106 x4_1 t111 ((bt x0_1 (t111.size : Int)) != 45)) else (none))) else (isoglosslaw04_SplitTrims.j2 kj7 t106 x4_1 t111 true)) else (none)) else (none))) = some r := H
      have A11 := Aside0.mk A110
      clear A110
      have HC12 := Aside0.mk H
      clear H
      go_upto_region 6 with (first | ((with_reducible refine gate_callee (f := 12) rfl ?_); refine goesL_ (some 20) rfl rfl Tryd.func12 (by kernel_rfl) rfl #[.string x0_1] rfl (by (try simp only [List.map_toArray, List.map_cons, List.map_nil]); first | done | rfl | (simp only [List.length_drop, List.length_take]; rfl)) ?_; (with_reducible refine (split_Trim.calls kj7 x0_1 t111 _ A11.out).mono ?_); rintro e w' ⟨rfl, ⟨nd, rfl⟩⟩; refine ⟨_, rfl, ?_⟩))
      (try simp only [Act.put, List.setIfInBounds_toArray, List.set_cons_zero, List.set_cons_succ])
      go_cut [44] (fun v44 wc => ∃ (kq : Nat) (x44_11 : Bool), v44 = .bool x44_11 ∧ Aside0 (isoglosslaw04_SplitTrims.j2 kq t106 x4_1 t111 x44_11 = some r) ∧ Aside0 (kq ≤ kj7) ∧ Aside0 (Below w.heap.size w wc))
      case first =>
       have H := HC12.out
       clear HC12
       by_cases c13 : (t111.size : Int) ≥ (x0_1.size : Int)
       ·rw [if_pos c13] at H
        have c13b0 : decide ((x0_1.size : Int) ≤ (t111.size : Int)) = true := decide_eq_true c13
        have c13b1 : decide (x0_1.size ≤ t111.size) = true := decide_eq_true (Int.ofNat_le.mp c13)
        clear c13
        (first | rw [c13b0] | rw [c13b1] | (simp only [i64_w, i32_w]; rw [c13b0]) | skip)
        have H' := Aside0.mk H
        clear H
        go_wp2
        go_meet
        case rel => exact ⟨_, (true), (by first | rfl | (simp; done) | (simp [*]; done)), H', ⟨by have := HK1.out; have := HJ7.out; first | omega | exact Nat.le_refl _⟩, ⟨by repeat (first | (with_reducible first | exact HB.out | apply below_alloc | apply pw_below_drewN | apply below_drew1) | exact HB.out)⟩⟩
       ·rw [if_neg c13] at H
        have c13b0 : decide ((x0_1.size : Int) ≤ (t111.size : Int)) = false := decide_eq_false c13
        have c13b1 : decide (x0_1.size ≤ t111.size) = false := decide_eq_false (fun h => c13 (Int.ofNat_le.mpr h))
        clear c13
        (first | rw [c13b0] | rw [c13b1] | (simp only [i64_w, i32_w]; rw [c13b0]) | skip)
        by_cases c14 : 0 ≤ (t111.size : Int)
        ·rw [if_pos c14] at H
         have c14b0 := eq_true c14
         have c14b1 : decide (0 ≤ (t111.size : Int)) = true := decide_eq_true c14
         clear c14
         by_cases c15 : (t111.size : Int) ≤ (x0_1.size : Int)
         ·rw [if_pos c15] at H
          have c15b0 := eq_true c15
          have c15b1 : decide ((t111.size : Int) ≤ (x0_1.size : Int)) = true := decide_eq_true c15
          clear c15
          by_cases c16 : (x0_1.extract 0 t111.size).toList = t111.toList
          ·rw [if_pos c16] at H
           have c16b0 : ((x0_1.extract 0 t111.size).toList == t111.toList) = true := beq_iff_eq.mpr c16
           have c16b1 : ((x0_1.extract 0 t111.size).toList != t111.toList) = false := bne_eq_false_iff_eq.mpr c16
           clear c16
           by_cases c17 : t111.toList = ([] : List UInt8)
           ·rw [if_pos c17] at H
            have c17b0 : (t111.toList == ([] : List UInt8)) = true := beq_iff_eq.mpr c17
            have c17e0 : t111.toList.isEmpty = true := List.isEmpty_iff.2 c17
            have c17e1 : (!t111.toList.isEmpty) = false := by rw [c17e0]; rfl
            have c17b1 : (t111.toList != ([] : List UInt8)) = false := bne_eq_false_iff_eq.mpr c17
            clear c17
            have H' := Aside0.mk H
            clear H
            go_wp2
            go_meet
            case rel => exact ⟨_, (false), (by first | rfl | (simp; done) | (simp [*]; done)), H', ⟨by have := HK1.out; have := HJ7.out; first | omega | exact Nat.le_refl _⟩, ⟨by repeat (first | (with_reducible first | exact HB.out | apply below_alloc | apply pw_below_drewN | apply below_drew1) | exact HB.out)⟩⟩
           ·rw [if_neg c17] at H
            have c17b0 : (t111.toList == ([] : List UInt8)) = false := beq_eq_false_iff_ne.mpr c17
            have c17e0 : t111.toList.isEmpty = false := List.isEmpty_eq_false_iff.2 c17
            have c17e1 : (!t111.toList.isEmpty) = true := by rw [c17e0]; rfl
            have c17b1 : (t111.toList != ([] : List UInt8)) = true := bne_iff_ne.mpr c17
            by_cases c18 : (t111.size : Int) < (x0_1.size : Int)
            ·rw [if_pos c18] at H
             have c18b0 : decide ((t111.size : Int) < (x0_1.size : Int)) = true := decide_eq_true c18
             have c18b1 : decide (t111.size < x0_1.size) = true := decide_eq_true (Int.ofNat_lt.mp c18)
             clear c18
             have H' := Aside0.mk H
             clear H
             have p19 : 0 ≤ ((t111.size : Int) : Int) := of_decide_eq_true (by first | (with_reducible assumption) | assumption)
             have q19 : (t111.size : Int) < (x0_1.size : Int) := of_decide_eq_true (by first | (with_reducible assumption) | assumption)
             have hx19 := bt_at x0_1 (t111.size : Int); (try simp only [Int.toNat_natCast] at hx19); (try replace hx19 := hx19 (Int.ofNat_lt.mp q19))
             replace p19 := eq_true p19
             replace q19 := eq_true q19
             go_wp2
             go_meet
             case rel => exact ⟨_, (((bt x0_1 (t111.size : Int)) != 45)), (by first | rfl | (simp; done) | (simp [*]; done)), H', ⟨by have := HK1.out; have := HJ7.out; first | omega | exact Nat.le_refl _⟩, ⟨by repeat (first | (with_reducible first | exact HB.out | apply below_alloc | apply pw_below_drewN | apply below_drew1) | exact HB.out)⟩⟩
            ·rw [if_neg c18] at H
             exact absurd H (by simp)
          ·rw [if_neg c16] at H
           have c16b0 : ((x0_1.extract 0 t111.size).toList == t111.toList) = false := beq_eq_false_iff_ne.mpr c16
           have c16b1 : ((x0_1.extract 0 t111.size).toList != t111.toList) = true := bne_iff_ne.mpr c16
           have H' := Aside0.mk H
           clear H
           go_wp2
           go_meet
           case rel => exact ⟨_, (true), (by first | rfl | (simp; done) | (simp [*]; done)), H', ⟨by have := HK1.out; have := HJ7.out; first | omega | exact Nat.le_refl _⟩, ⟨by repeat (first | (with_reducible first | exact HB.out | apply below_alloc | apply pw_below_drewN | apply below_drew1) | exact HB.out)⟩⟩
         ·rw [if_neg c15] at H
          exact absurd H (by simp)
        ·rw [if_neg c14] at H
         exact absurd H (by simp)
      case rest =>
       clear HC12
       try clear c1
       try clear p1
       try clear q1
       try clear hx1
       try clear p2
       try clear c3
       try clear c9
       try clear c9b0
       try clear c9b1
       try clear c10
       try clear c11
       try clear c12
       try clear c13
       try clear c13b0
       try clear c13b1
       try clear c14
       try clear c14b0
       try clear c14b1
       try clear c15
       try clear c15b0
       try clear c15b1
       try clear c16
       try clear c16b0
       try clear c16b1
       try clear c17
       try clear c17b0
       try clear c17b1
       try clear c18
       try clear c18b0
       try clear c18b1
       try clear p19
       try clear q19
       try clear hx19
       try clear p19
       try clear p2
       try clear q19
       obtain ⟨kq, x44_11, rfl, HA, HJ11, HB⟩ := hcut
       cases kq with
       | zero => exact absurd HA.out (by simp [isoglosslaw04_SplitTrims.j2])
       | succ kj11 =>
        have H := HA.out
        clear HA
        simp only [isoglosslaw04_SplitTrims.j2] at H
        by_cases c20 : x44_11 = true
        ·subst c20
         have H1 : (some false) = some r := by rw [if_pos rfl] at H; exact H
         clear H
         have H := H1
         clear H1
         obtain rfl := Option.some.inj H
         go_wp2
         go_ret
         exact ⟨by first | rfl | (simp [errW_none, errW_some] <;> rfl) | (simp [*, errW_none, errW_some] <;> rfl), by repeat (first | (with_reducible first | exact HB.out | apply below_alloc | apply pw_below_drewN | apply below_drew1) | exact HB.out)⟩
        ·replace c20 := Bool.eq_false_iff.mpr c20
         subst c20
         have H1 : ((split_Split.f t111).bind fun t112 => (if (t112.length : Int) = 0 then (some false) else (if (t112.length : Int) > 1 then (if 0 ≤ (wrap64 ((t112.length : Int) - 1)) then (if (wrap64 ((t112.length : Int) - 1)) < (t112.length : Int) then (if ((rdOf ByteArray.empty t112 (wrap64 ((t112.length : Int) - 1))).size : Int) = 1 then (some false) else (isoglosslaw04_SplitTrims.l0 kj11 t111 t106 (wrap64 (x4_1 - 1)))) else (none)) else (none)) else (isoglosslaw04_SplitTrims.l0 kj11 t111 t106 (wrap64 (x4_1 - 1)))))) = some r := by rw [if_neg (show ¬ (false = true) by decide)] at H; exact H
         clear H
         have H := H1
         clear H1
         replace H := Option.bind_eq_some_iff.mp H
         obtain ⟨t112, A210, H⟩ := H
         replace H : (if (t112.length : Int) = 0 then (some false) else (if (t112.length : Int) > 1 then (if 0 ≤ (wrap64 ((t112.length : Int) - 1)) then (if (wrap64 ((t112.length : Int) - 1)) < (t112.length : Int) then (if ((rdOf ByteArray.empty t112 (wrap64 ((t112.length : Int) - 1))).size : Int) = 1 then (some false) else (isoglosslaw04_SplitTrims.l0 kj11 t111 t106 (wrap64 (x4_1 - 1)))) else (none)) else (none)) else (isoglosslaw04_SplitTrims.l0 kj11 t111 t106 (wrap64 (x4_1 - 1))))) = some r := H
         have A21 := Aside0.mk A210
         clear A210
         by_cases c22 : (t112.length : Int) = 0
         ·rw [if_pos c22] at H
          have c22b0 : ((t112.length : Int) == 0) = true := beq_iff_eq.mpr c22
          have c22b1 : ((t112.length : Int) != 0) = false := bne_eq_false_iff_eq.mpr c22
          clear c22
          obtain rfl := Option.some.inj H
          go_wp2_with (first | ((with_reducible refine gate_callee (f := 11) rfl ?_); refine goesL_ (some 46) rfl rfl Tryd.func11 (by kernel_rfl) rfl #[.string t111] rfl (by (try simp only [List.map_toArray, List.map_cons, List.map_nil]); first | done | rfl | (simp only [List.length_drop, List.length_take]; rfl)) ?_; (with_reducible refine (split_Split.calls t111 t112 _ A21.out).mono ?_); rintro e w23 ⟨v113, rfl, ho0, hb⟩; refine ⟨_, rfl, ?_⟩; have n0_ := Aside0.mk (Kd.R_lower ho0 (below_size (by repeat (first | (with_reducible first | exact HB.out | apply below_alloc | apply pw_below_drewN | apply below_drew1) | exact HB.out)))); have n1_ := Aside0.mk (below_step (by repeat (first | (with_reducible first | exact HB.out | apply below_alloc | apply pw_below_drewN | apply below_drew1) | exact HB.out)) hb); clear HB; have HO114 := n0_; have HB := n1_; clear n0_ n1_; (try clear hb); (try clear hb2); (try clear hk); (try clear hi); (try clear ho0); obtain ⟨Ao24, co24, eo24⟩ := Kd.R_slice HO114.out; subst eo24))
          go_ret
          exact ⟨by first | rfl | (simp [errW_none, errW_some] <;> rfl) | (simp [*, errW_none, errW_some] <;> rfl), by repeat (first | (with_reducible first | exact HB.out | apply below_alloc | apply pw_below_drewN | apply below_drew1) | exact HB.out)⟩
         ·rw [if_neg c22] at H
          have c22b0 : ((t112.length : Int) == 0) = false := beq_eq_false_iff_ne.mpr c22
          have c22b1 : ((t112.length : Int) != 0) = true := bne_iff_ne.mpr c22
          have c22b2 : ¬ (t112 = []) := fun h_ => c22 (by rw [h_]; rfl)
          by_cases c25 : (t112.length : Int) > 1
          ·rw [if_pos c25] at H
           have c25b0 : decide (1 < (t112.length : Int)) = true := decide_eq_true c25
           have c25b1 : decide (1 < t112.length) = true := decide_eq_true (by omega)
           clear c25
           obtain ⟨ji26, hji26⟩ : ∃ j_ : Int, (wrap64 ((t112.length : Int) - 1)) = j_ := ⟨_, rfl⟩
           replace H : (if 0 ≤ (ji26) then (if (ji26) < (t112.length : Int) then (if ((rdOf ByteArray.empty t112 (ji26)).size : Int) = 1 then (some false) else (isoglosslaw04_SplitTrims.l0 kj11 t111 t106 (wrap64 (x4_1 - 1)))) else (none)) else (none)) = some r := by first | (rw [hji26] at H; exact H) | (simp only [hji26] at H ⊢; exact H)
           (try rw [hji26] at A21)
           have hji26w : (IntKind.i64.wrap ((t112.length : Int) - 1)) = ji26 := (i64_w _).trans hji26
           by_cases c27 : 0 ≤ (ji26)
           ·rw [if_pos c27] at H
            have c27b0 : decide (0 ≤ (ji26)) = true := decide_eq_true c27
            clear c27
            by_cases c28 : (ji26) < (t112.length : Int)
            ·rw [if_pos c28] at H
             have c28b0 : decide ((ji26) < (t112.length : Int)) = true := decide_eq_true c28
             clear c28
             by_cases c29 : ((rdOf ByteArray.empty t112 (ji26)).size : Int) = 1
             ·rw [if_pos c29] at H
              have c29b0 : (((rdOf ByteArray.empty t112 (ji26)).size : Int) == 1) = true := beq_iff_eq.mpr c29
              have c29b1 : (((rdOf ByteArray.empty t112 (ji26)).size : Int) != 1) = false := bne_eq_false_iff_eq.mpr c29
              clear c29
              obtain rfl := Option.some.inj H
              go_wp2_with (first | ((with_reducible refine gate_callee (f := 11) rfl ?_); refine goesL_ (some 46) rfl rfl Tryd.func11 (by kernel_rfl) rfl #[.string t111] rfl (by (try simp only [List.map_toArray, List.map_cons, List.map_nil]); first | done | rfl | (simp only [List.length_drop, List.length_take]; rfl)) ?_; (with_reducible refine (split_Split.calls t111 t112 _ A21.out).mono ?_); rintro e w30 ⟨v113, rfl, ho0, hb⟩; refine ⟨_, rfl, ?_⟩; have n0_ := Aside0.mk (Kd.R_lower ho0 (below_size (by repeat (first | (with_reducible first | exact HB.out | apply below_alloc | apply pw_below_drewN | apply below_drew1) | exact HB.out)))); have n1_ := Aside0.mk (below_step (by repeat (first | (with_reducible first | exact HB.out | apply below_alloc | apply pw_below_drewN | apply below_drew1) | exact HB.out)) hb); clear HB; have HO114 := n0_; have HB := n1_; clear n0_ n1_; (try clear hb); (try clear hb2); (try clear hk); (try clear hi); (try clear ho0); obtain ⟨Ao31, co31, eo31⟩ := Kd.R_slice HO114.out; subst eo31; have p115 : 0 ≤ ((ji26) : Int) := of_decide_eq_true (by first | (with_reducible assumption) | assumption); have q115 : (ji26) < (t112.length : Int) := of_decide_eq_true (by first | (with_reducible assumption) | assumption); obtain ⟨ad115, e115, hx115_0⟩ := Kd.at_string (Kd.R_reads' HO114.out).2.2 (ji26) p115 q115; cases e115; replace p115 := eq_true p115; replace q115 := eq_true q115))
              go_ret
              exact ⟨by first | rfl | (simp [errW_none, errW_some] <;> rfl) | (simp only [← hji26]; first | rfl | (simp [errW_none, errW_some] <;> rfl)) | (simp [*, errW_none, errW_some] <;> rfl), by repeat (first | (with_reducible first | exact HB.out | apply below_alloc | apply pw_below_drewN | apply below_drew1) | exact HB.out)⟩
             ·rw [if_neg c29] at H
              have c29b0 : (((rdOf ByteArray.empty t112 (ji26)).size : Int) == 1) = false := beq_eq_false_iff_ne.mpr c29
              have c29b1 : (((rdOf ByteArray.empty t112 (ji26)).size : Int) != 1) = true := bne_iff_ne.mpr c29
              have H' := Aside0.mk H
              clear H
              go_wp2_with (first | ((with_reducible refine gate_callee (f := 11) rfl ?_); refine goesL_ (some 46) rfl rfl Tryd.func11 (by kernel_rfl) rfl #[.string t111] rfl (by (try simp only [List.map_toArray, List.map_cons, List.map_nil]); first | done | rfl | (simp only [List.length_drop, List.length_take]; rfl)) ?_; (with_reducible refine (split_Split.calls t111 t112 _ A21.out).mono ?_); rintro e w32 ⟨v113, rfl, ho0, hb⟩; refine ⟨_, rfl, ?_⟩; have n0_ := Aside0.mk (Kd.R_lower ho0 (below_size (by repeat (first | (with_reducible first | exact HB.out | apply below_alloc | apply pw_below_drewN | apply below_drew1) | exact HB.out)))); have n1_ := Aside0.mk (below_step (by repeat (first | (with_reducible first | exact HB.out | apply below_alloc | apply pw_below_drewN | apply below_drew1) | exact HB.out)) hb); clear HB; have HO114 := n0_; have HB := n1_; clear n0_ n1_; (try clear hb); (try clear hb2); (try clear hk); (try clear hi); (try clear ho0); obtain ⟨Ao33, co33, eo33⟩ := Kd.R_slice HO114.out; subst eo33; have p115 : 0 ≤ ((ji26) : Int) := of_decide_eq_true (by first | (with_reducible assumption) | assumption); have q115 : (ji26) < (t112.length : Int) := of_decide_eq_true (by first | (with_reducible assumption) | assumption); obtain ⟨ad115, e115, hx115_0⟩ := Kd.at_string (Kd.R_reads' HO114.out).2.2 (ji26) p115 q115; cases e115; replace p115 := eq_true p115; replace q115 := eq_true q115))
              go_roundg kj11
              case measure => have := HK1.out; have := HJ7.out; have := HJ11.out; omega
              case rel => exact ⟨(t111), (wrap64 (x4_1 - 1)), (by first | rfl | (simp; done) | (simp [*]; done)), (by first | rfl | (simp; done) | (simp [*]; done)), H', ⟨by have := HK1.out; have := HJ7.out; have := HJ11.out; omega⟩, ⟨by repeat (first | (with_reducible first | exact HB.out | apply below_alloc | apply pw_below_drewN | apply below_drew1) | exact HB.out)⟩⟩
            ·rw [if_neg c28] at H
             exact absurd H (by simp)
           ·rw [if_neg c27] at H
            exact absurd H (by simp)
          ·rw [if_neg c25] at H
           have c25b0 : decide (1 < (t112.length : Int)) = false := decide_eq_false c25
           have c25b1 : decide (1 < t112.length) = false := decide_eq_false (by omega)
           clear c25
           have H' := Aside0.mk H
           clear H
           go_wp2_with (first | ((with_reducible refine gate_callee (f := 11) rfl ?_); refine goesL_ (some 46) rfl rfl Tryd.func11 (by kernel_rfl) rfl #[.string t111] rfl (by (try simp only [List.map_toArray, List.map_cons, List.map_nil]); first | done | rfl | (simp only [List.length_drop, List.length_take]; rfl)) ?_; (with_reducible refine (split_Split.calls t111 t112 _ A21.out).mono ?_); rintro e w34 ⟨v113, rfl, ho0, hb⟩; refine ⟨_, rfl, ?_⟩; have n0_ := Aside0.mk (Kd.R_lower ho0 (below_size (by repeat (first | (with_reducible first | exact HB.out | apply below_alloc | apply pw_below_drewN | apply below_drew1) | exact HB.out)))); have n1_ := Aside0.mk (below_step (by repeat (first | (with_reducible first | exact HB.out | apply below_alloc | apply pw_below_drewN | apply below_drew1) | exact HB.out)) hb); clear HB; have HO114 := n0_; have HB := n1_; clear n0_ n1_; (try clear hb); (try clear hb2); (try clear hk); (try clear hi); (try clear ho0); obtain ⟨Ao35, co35, eo35⟩ := Kd.R_slice HO114.out; subst eo35))
           go_roundg kj11
           case measure => have := HK1.out; have := HJ7.out; have := HJ11.out; omega
           case rel => exact ⟨(t111), (wrap64 (x4_1 - 1)), (by first | rfl | (simp; done) | (simp [*]; done)), (by first | rfl | (simp; done) | (simp [*]; done)), H', ⟨by have := HK1.out; have := HJ7.out; have := HJ11.out; omega⟩, ⟨by repeat (first | (with_reducible first | exact HB.out | apply below_alloc | apply pw_below_drewN | apply below_drew1) | exact HB.out)⟩⟩
     ·replace c10 := Bool.eq_false_iff.mpr c10
      subst c10
      have H1 : (if t106 = true then (some (x0_1.toList == ([] : List UInt8))) else (some false)) = some r := by rw [if_neg (show ¬ (false = true) by decide)] at H; exact H
      clear H
      have H := H1
      clear H1
      by_cases c36 : t106 = true
      ·subst c36
       have H1 : (some (x0_1.toList == ([] : List UInt8))) = some r := by rw [if_pos rfl] at H; exact H
       clear H
       have H := H1
       clear H1
       obtain rfl := Option.some.inj H
       go_wp2
       go_ret
       exact ⟨by first | rfl | (simp [errW_none, errW_some] <;> rfl) | (simp [*, errW_none, errW_some] <;> rfl), by repeat (first | (with_reducible first | exact HB.out | apply below_alloc | apply pw_below_drewN | apply below_drew1) | exact HB.out)⟩
      ·replace c36 := Bool.eq_false_iff.mpr c36
       subst c36
       have H1 : (some false) = some r := by rw [if_neg (show ¬ (false = true) by decide)] at H; exact H
       clear H
       have H := H1
       clear H1
       obtain rfl := Option.some.inj H
       go_wp2
       go_ret
       exact ⟨by first | rfl | (simp [errW_none, errW_some] <;> rfl) | (simp [*, errW_none, errW_some] <;> rfl), by repeat (first | (with_reducible first | exact HB.out | apply below_alloc | apply pw_below_drewN | apply below_drew1) | exact HB.out)⟩

/-- THE ONE PURE STATEMENT of isoglosslaw04_SplitTrims: yours. -/
def isoglosslaw04_SplitTrims.Pure : Prop := ∀ (a0 : ByteArray), a0.size ≤ 140737488351232 → ∃ k, isoglosslaw04_SplitTrims.f k a0 = some true
theorem isoglosslaw04_SplitTrims.walk (P : isoglosslaw04_SplitTrims.Pure) (a0 : ByteArray) (w : World) (hg : w.cell? ⟨0, 0, none⟩ = some errGV) (w0 : a0.size ≤ 140737488351232) :
  Calls Tryd.prog 3 #[.string a0] w fun e w' => e = .returned (.bool true) ∧ Below w.heap.size w w' := by
 obtain ⟨k, h⟩ := P a0 w0
 refine (isoglosslaw04_SplitTrims.calls k a0 true w hg h).mono ?_
 rintro e w' ⟨rfl, hd⟩
 exact ⟨rfl, hd⟩

end Go.Proofs.YtmkjifljciajbaaDoor.P
