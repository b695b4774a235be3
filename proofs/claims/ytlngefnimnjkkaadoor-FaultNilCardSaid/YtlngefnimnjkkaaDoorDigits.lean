-- Written for this claim by the session's own run of the print, functions proved by hand put in.
import Derived.Test.YtlngefnimnjkkaaDoorPx0
namespace Go.Proofs.YtlngefnimnjkkaaDoor.P
open Go.RowKit Go.Proofs.YtlngefnimnjkkaaDoorW.PrintWords Go.Proofs.YtlngefnimnjkkaaDoorW.PrintLast Go.Proofs.YtlngefnimnjkkaaDoorW.PrintMore
attribute [local go_sem] max2_int min2_int max_two min_two max_three min_three max_four min_four   -- for this text's walks alone
set_option linter.unusedVariables false
set_option linter.unusedSimpArgs false

-- NOT PRINTED: function 15 (fault_Whats)

-- NOT PRINTED: function 3 (isoglosslaw01_FaultDeep)

-- NOT PRINTED: function 17 (isoglosslaw01_made)

-- NOT PRINTED: function 34 (errors_is)

-- NOT PRINTED: function 26 (errors_Is)

-- NOT PRINTED: function 18 (fault_Has)

-- NOT PRINTED: function 4 (isoglosslaw01_FaultHas)

-- NOT PRINTED: function 21 (fault_Fault_Unwrap)

/-! ### isoglossref01_Digits: function 23 -/
mutual
def isoglossref01_Digits.l0 : Nat → Int → ByteArray → Int → Option (ByteArray)
 | 0, _, _, _ => none
 | k + 1, x0, x3, x4 => if x4 = 0 then (isoglossref01_Digits.j1 k x0 x3 x4 (x3.toList == ([] : List UInt8))) else (isoglossref01_Digits.j1 k x0 x3 x4 true)
def isoglossref01_Digits.j1 : Nat → Int → ByteArray → Int → Bool → Option (ByteArray)
 | 0, _, _, _, _ => none
 | k + 1, x0, x3, x4, x12 => if x12 = true then (if (Int.tmod x4 10) < 0 then ((some (([(wrap64 (48 + (wrap64 (-(Int.tmod x4 10))))) % 256] : List Int) : List Int)).bind fun y137 => (if (strOfNums y137).size + x3.size ≤ 9223372036854775807 then (isoglossref01_Digits.l0 k x0 ((strOfNums y137) ++ x3) (wrap64 (Int.tdiv x4 10))) else (none))) else ((some (([(wrap64 (48 + (Int.tmod x4 10))) % 256] : List Int) : List Int)).bind fun y140 => (if (strOfNums y140).size + x3.size ≤ 9223372036854775807 then (isoglossref01_Digits.l0 k x0 ((strOfNums y140) ++ x3) (wrap64 (Int.tdiv x4 10))) else (none)))) else (if x0 < 0 then (if 1 + x3.size ≤ 9223372036854775807 then (some ((⟨#[45]⟩ : ByteArray) ++ x3)) else (none)) else (some x3))
end
def isoglossref01_Digits.f (k : Nat) (a0 : Int) : Option (ByteArray) := isoglossref01_Digits.l0 k a0 (⟨#[]⟩ : ByteArray) a0
theorem isoglossref01_Digits.mono_l : ∀ k, (∀ y0 y1 y2, LeO (isoglossref01_Digits.l0 k y0 y1 y2) (isoglossref01_Digits.l0 (k + 1) y0 y1 y2)) ∧ (∀ y0 y1 y2 y3, LeO (isoglossref01_Digits.j1 k y0 y1 y2 y3) (isoglossref01_Digits.j1 (k + 1) y0 y1 y2 y3))
 | 0 => ⟨fun _ _ _ r h => by simp [isoglossref01_Digits.l0] at h, fun _ _ _ _ r h => by simp [isoglossref01_Digits.j1] at h⟩
 | k + 1 => by
  obtain ⟨ih0, ih1⟩ := isoglossref01_Digits.mono_l k
  refine ⟨?_, ?_⟩
  ·intro y0 y1 y2
   unfold isoglossref01_Digits.l0
   repeat' first
   | (with_reducible exact ih0 _ _ _)
   | (with_reducible exact ih1 _ _ _ _)
   | (with_reducible exact LeO.refl _)
   | (with_reducible exact LeO.none _)
   | (with_reducible refine LeO.ite ?_ ?_)
   | (with_reducible refine LeO.bind ?_ (fun _ => ?_))
   | exact ih0 _ _ _
   | exact ih1 _ _ _ _
   | exact LeO.none _
   | refine LeO.ite ?_ ?_
   | refine LeO.bind ?_ (fun _ => ?_)
  ·intro y0 y1 y2 y3
   unfold isoglossref01_Digits.j1
   repeat' first
   | (with_reducible exact ih0 _ _ _)
   | (with_reducible exact ih1 _ _ _ _)
   | (with_reducible exact LeO.refl _)
   | (with_reducible exact LeO.none _)
   | (with_reducible refine LeO.ite ?_ ?_)
   | (with_reducible refine LeO.bind ?_ (fun _ => ?_))
   | exact ih0 _ _ _
   | exact ih1 _ _ _ _
   | exact LeO.none _
   | refine LeO.ite ?_ ?_
   | refine LeO.bind ?_ (fun _ => ?_)
theorem isoglossref01_Digits.mono : ∀ a0 k, LeO (isoglossref01_Digits.f k a0) (isoglossref01_Digits.f (k + 1) a0) := by
 intro a0 k
 obtain ⟨ih0, ih1⟩ := isoglossref01_Digits.mono_l k
 unfold isoglossref01_Digits.f
 repeat' first
   | (with_reducible exact ih0 _ _ _)
   | (with_reducible exact ih1 _ _ _ _)
   | (with_reducible exact LeO.refl _)
   | (with_reducible exact LeO.none _)
   | (with_reducible refine LeO.ite ?_ ?_)
   | (with_reducible refine LeO.bind ?_ (fun _ => ?_))
   | exact ih0 _ _ _
   | exact ih1 _ _ _ _
   | exact LeO.none _
   | refine LeO.ite ?_ ?_
   | refine LeO.bind ?_ (fun _ => ?_)
set_option maxHeartbeats 8000000 in
set_option maxRecDepth 100000 in
theorem isoglossref01_Digits.calls (k : Nat) (a0 : Int) (r : ByteArray) (w : World) (h : isoglossref01_Digits.f k a0 = some r) :
  Calls Tryd.prog 23 #[.int .i64 a0] w fun e w' => e = .returned (.string r) ∧ Below w.heap.size w w' := by
 have HB := Aside0.mk (Below.refl w.heap.size w)
 have H : (isoglossref01_Digits.l0 k a0 (⟨#[]⟩ : ByteArray) a0) = some r := h
 clear h
 have H' := Aside0.mk H
 clear H
 go_enter Tryd.func23, Tryd.ntmps23
 go_wp2
 go_loopg [3, 4] k (fun kq v3 v4 w' => ∃ (x3_1 : ByteArray) (x4_1 : Int), v3 = .string x3_1 ∧ v4 = .int .i64 x4_1 ∧ Aside0 (isoglossref01_Digits.l0 kq a0 x3_1 x4_1 = some r) ∧ Aside0 (kq ≤ k) ∧ Aside0 (Below w.heap.size w w'))
 case atStart => exact ⟨((⟨#[]⟩ : ByteArray)), (a0), (by first | rfl | (simp; done) | (simp [*]; done)), (by first | rfl | (simp; done) | (simp [*]; done)), H', ⟨Nat.le_refl _⟩, ⟨by repeat (first | (with_reducible first | exact HB.out | apply below_alloc | apply pw_below_drewN | apply below_drew1) | exact HB.out)⟩⟩
 case round =>
  clear H'
  obtain ⟨x3_1, x4_1, rfl, rfl, HA, HK1, HB⟩ := hrel
  cases gk with
  | zero => exact absurd HA.out (by simp [isoglossref01_Digits.l0])
  | succ k1 =>
   have H := HA.out
   clear HA
   simp only [isoglossref01_Digits.l0] at H
   have HC2 := Aside0.mk H
   clear H
   go_upto_region 3 with (fail)
   go_cut [12] (fun v12 wc => ∃ (kq : Nat) (x12_1 : Bool), v12 = .bool x12_1 ∧ Aside0 (isoglossref01_Digits.j1 kq a0 x3_1 x4_1 x12_1 = some r) ∧ Aside0 (kq ≤ k1) ∧ Aside0 (Below w.heap.size w wc))
   case first =>
    have H := HC2.out
    clear HC2
    by_cases c3 : x4_1 = 0
    ·rw [if_pos c3] at H
     have c3b0 : (x4_1 == 0) = true := beq_iff_eq.mpr c3
     have c3b1 : (x4_1 != 0) = false := bne_eq_false_iff_eq.mpr c3
     clear c3
     (first | rw [c3b0] | rw [c3b1] | (simp only [i64_w, i32_w]; rw [c3b0]) | skip)
     have H' := Aside0.mk H
     clear H
     go_wp2
     go_meet
     case rel => exact ⟨_, ((x3_1.toList == ([] : List UInt8))), (by first | rfl | (simp; done) | (simp [*]; done)), H', ⟨by have := HK1.out; first | omega | exact Nat.le_refl _⟩, ⟨by repeat (first | (with_reducible first | exact HB.out | apply below_alloc | apply pw_below_drewN | apply below_drew1) | exact HB.out)⟩⟩
    ·rw [if_neg c3] at H
     have c3b0 : (x4_1 == 0) = false := beq_eq_false_iff_ne.mpr c3
     have c3b1 : (x4_1 != 0) = true := bne_iff_ne.mpr c3
     (first | rw [c3b0] | rw [c3b1] | (simp only [i64_w, i32_w]; rw [c3b0]) | skip)
     have H' := Aside0.mk H
     clear H
     go_wp2
     go_meet
     case rel => exact ⟨_, (true), (by first | rfl | (simp; done) | (simp [*]; done)), H', ⟨by have := HK1.out; first | omega | exact Nat.le_refl _⟩, ⟨by repeat (first | (with_reducible first | exact HB.out | apply below_alloc | apply pw_below_drewN | apply below_drew1) | exact HB.out)⟩⟩
   case rest =>
    clear HC2
    try clear c2
    try clear p2
    try clear c3
    try clear c3b0
    try clear c3b1
    obtain ⟨kq, x12_1, rfl, HA, HJ1, HB⟩ := hcut
    cases kq with
    | zero => exact absurd HA.out (by simp [isoglossref01_Digits.j1])
    | succ kj1 =>
     have H := HA.out
     clear HA
     simp only [isoglossref01_Digits.j1] at H
     by_cases c4 : x12_1 = true
     ·subst c4
      have H1 : (if (Int.tmod x4_1 10) < 0 then ((some (([(wrap64 (48 + (wrap64 (-(Int.tmod x4_1 10))))) % 256] : List Int) : List Int)).bind fun y137 => (if (strOfNums y137).size + x3_1.size ≤ 9223372036854775807 then (isoglossref01_Digits.l0 kj1 a0 ((strOfNums y137) ++ x3_1) (wrap64 (Int.tdiv x4_1 10))) else (none))) else ((some (([(wrap64 (48 + (Int.tmod x4_1 10))) % 256] : List Int) : List Int)).bind fun y140 => (if (strOfNums y140).size + x3_1.size ≤ 9223372036854775807 then (isoglossref01_Digits.l0 kj1 a0 ((strOfNums y140) ++ x3_1) (wrap64 (Int.tdiv x4_1 10))) else (none)))) = some r := by rw [if_pos rfl] at H; exact H
      clear H
      have H := H1
      clear H1
      by_cases c5 : (Int.tmod x4_1 10) < 0
      ·rw [if_pos c5] at H
       have c5b0 : decide ((Int.tmod x4_1 10) < 0) = true := decide_eq_true c5
       clear c5
       obtain ⟨y137, hy137⟩ : ∃ y_ : List Int, y_ = (([(wrap64 (48 + (wrap64 (-(Int.tmod x4_1 10))))) % 256] : List Int)) := ⟨_, rfl⟩
       replace H : (if (strOfNums y137).size + x3_1.size ≤ 9223372036854775807 then (isoglossref01_Digits.l0 kj1 a0 ((strOfNums y137) ++ x3_1) (wrap64 (Int.tdiv x4_1 10))) else (none)) = some r := by first | (rw [hy137]; with_reducible exact H) | (have H2_ := (Option.bind_some _ _).symm.trans H; rw [hy137]; with_reducible exact H2_) | (have H2_ := (Option.bind_some _ _).symm.trans H; with_reducible exact H2_) | with_reducible exact H | (rw [hy137]; exact H) | exact H
       have Ny137 := Aside0.mk hy137
       clear hy137
       by_cases c6 : (strOfNums y137).size + x3_1.size ≤ 9223372036854775807
       ·rw [if_pos c6] at H
        have c6b0 := eq_true c6
        have c6b1 : decide ((strOfNums y137).size + x3_1.size ≤ 9223372036854775807) = true := decide_eq_true c6
        try have c6b2 : (9223372036854775807 < (strOfNums y137).size + x3_1.size) = False := eq_false (Nat.not_lt.2 c6)
        have H' := Aside0.mk H
        clear H
        go_wp2_with (first | ((with_reducible refine gate_dst (N := 22) rfl ?_); refine Kd.R_lit (Kd.int .u8) _ 5 ?hg (N := 22) ?hd (xs := ([(wrap64 (48 + (wrap64 (-(Int.tmod x4_1 10))))) % 256] : List Int)) (inner := [.int .u8 ((wrap64 (48 + (wrap64 (-(Int.tmod x4_1 10))))) % 256)]) (ok := fun _ => True) (okp := fun _ => True) ?hr ?hp (fun _ hk => hk) trivial (Below.refl _ _) (Nat.le_refl _) (by simp) ?_; (case hd => rfl); (case hg => rfl); (case hr => first | (go_simp; done) | (go_simp; rfl)); (case hp => exact (Reps.one (show Kd.M (Kd.int .u8) _ _ _ ((wrap64 (48 + (wrap64 (-(Int.tmod x4_1 10))))) % 256) [.int .u8 ((wrap64 (48 + (wrap64 (-(Int.tmod x4_1 10))))) % 256)] from rfl) (Reps.none _ _))); intro v138 w7 ho8 hb hg_ hnew_; clear hg_ hnew_; (first | rw [← Ny137.out] at ho8 | (simp only [Int.reduceToNat] at ho8; rw [← Ny137.out] at ho8)); have n0_ := Aside0.mk (Kd.R_lower ho8 (below_size (by repeat (first | (with_reducible first | exact HB.out | apply below_alloc | apply pw_below_drewN | apply below_drew1) | exact HB.out)))); have n1_ := Aside0.mk (below_step (by repeat (first | (with_reducible first | exact HB.out | apply below_alloc | apply pw_below_drewN | apply below_drew1) | exact HB.out)) hb); clear HB; have HO139 := n0_; have HB := n1_; clear n0_ n1_; clear hb ho8; have hcv9 := own_string (P := Tryd.prog) Tryd.underlying60 Tryd.underlying5 Tryd.underlying9 (Kd.own_of_R HO139.out)))
        go_roundg kj1
        case measure => have := HK1.out; have := HJ1.out; omega
        case rel => exact ⟨((strOfNums y137) ++ x3_1), (wrap64 (Int.tdiv x4_1 10)), (by first | rfl | (simp; done) | (simp [*]; done)), (by first | rfl | (simp; done) | (simp [*]; done)), H', ⟨by have := HK1.out; have := HJ1.out; omega⟩, ⟨by repeat (first | (with_reducible first | exact HB.out | apply below_alloc | apply pw_below_drewN | apply below_drew1) | exact HB.out)⟩⟩
       ·rw [if_neg c6] at H
        exact absurd H (by simp)
      ·rw [if_neg c5] at H
       have c5b0 : decide ((Int.tmod x4_1 10) < 0) = false := decide_eq_false c5
       clear c5
       obtain ⟨y140, hy140⟩ : ∃ y_ : List Int, y_ = (([(wrap64 (48 + (Int.tmod x4_1 10))) % 256] : List Int)) := ⟨_, rfl⟩
       replace H : (if (strOfNums y140).size + x3_1.size ≤ 9223372036854775807 then (isoglossref01_Digits.l0 kj1 a0 ((strOfNums y140) ++ x3_1) (wrap64 (Int.tdiv x4_1 10))) else (none)) = some r := by first | (rw [hy140]; with_reducible exact H) | (have H2_ := (Option.bind_some _ _).symm.trans H; rw [hy140]; with_reducible exact H2_) | (have H2_ := (Option.bind_some _ _).symm.trans H; with_reducible exact H2_) | with_reducible exact H | (rw [hy140]; exact H) | exact H
       have Ny140 := Aside0.mk hy140
       clear hy140
       by_cases c10 : (strOfNums y140).size + x3_1.size ≤ 9223372036854775807
       ·rw [if_pos c10] at H
        have c10b0 := eq_true c10
        have c10b1 : decide ((strOfNums y140).size + x3_1.size ≤ 9223372036854775807) = true := decide_eq_true c10
        try have c10b2 : (9223372036854775807 < (strOfNums y140).size + x3_1.size) = False := eq_false (Nat.not_lt.2 c10)
        have H' := Aside0.mk H
        clear H
        go_wp2_with (first | ((with_reducible refine gate_dst (N := 22) rfl ?_); refine Kd.R_lit (Kd.int .u8) _ 5 ?hg (N := 22) ?hd (xs := ([(wrap64 (48 + (Int.tmod x4_1 10))) % 256] : List Int)) (inner := [.int .u8 ((wrap64 (48 + (Int.tmod x4_1 10))) % 256)]) (ok := fun _ => True) (okp := fun _ => True) ?hr ?hp (fun _ hk => hk) trivial (Below.refl _ _) (Nat.le_refl _) (by simp) ?_; (case hd => rfl); (case hg => rfl); (case hr => first | (go_simp; done) | (go_simp; rfl)); (case hp => exact (Reps.one (show Kd.M (Kd.int .u8) _ _ _ ((wrap64 (48 + (Int.tmod x4_1 10))) % 256) [.int .u8 ((wrap64 (48 + (Int.tmod x4_1 10))) % 256)] from rfl) (Reps.none _ _))); intro v141 w11 ho12 hb hg_ hnew_; clear hg_ hnew_; (first | rw [← Ny140.out] at ho12 | (simp only [Int.reduceToNat] at ho12; rw [← Ny140.out] at ho12)); have n0_ := Aside0.mk (Kd.R_lower ho12 (below_size (by repeat (first | (with_reducible first | exact HB.out | apply below_alloc | apply pw_below_drewN | apply below_drew1) | exact HB.out)))); have n1_ := Aside0.mk (below_step (by repeat (first | (with_reducible first | exact HB.out | apply below_alloc | apply pw_below_drewN | apply below_drew1) | exact HB.out)) hb); clear HB; have HO142 := n0_; have HB := n1_; clear n0_ n1_; clear hb ho12; have hcv13 := own_string (P := Tryd.prog) Tryd.underlying60 Tryd.underlying5 Tryd.underlying9 (Kd.own_of_R HO142.out)))
        go_roundg kj1
        case measure => have := HK1.out; have := HJ1.out; omega
        case rel => exact ⟨((strOfNums y140) ++ x3_1), (wrap64 (Int.tdiv x4_1 10)), (by first | rfl | (simp; done) | (simp [*]; done)), (by first | rfl | (simp; done) | (simp [*]; done)), H', ⟨by have := HK1.out; have := HJ1.out; omega⟩, ⟨by repeat (first | (with_reducible first | exact HB.out | apply below_alloc | apply pw_below_drewN | apply below_drew1) | exact HB.out)⟩⟩
       ·rw [if_neg c10] at H
        exact absurd H (by simp)
     ·replace c4 := Bool.eq_false_iff.mpr c4
      subst c4
      have H1 : (if a0 < 0 then (if 1 + x3_1.size ≤ 9223372036854775807 then (some ((⟨#[45]⟩ : ByteArray) ++ x3_1)) else (none)) else (some x3_1)) = some r := by rw [if_neg (show ¬ (false = true) by decide)] at H; exact H
      clear H
      have H := H1
      clear H1
      by_cases c14 : a0 < 0
      ·rw [if_pos c14] at H
       have c14b0 : decide (a0 < 0) = true := decide_eq_true c14
       clear c14
       by_cases c15 : 1 + x3_1.size ≤ 9223372036854775807
       ·rw [if_pos c15] at H
        have c15b0 := eq_true c15
        have c15b1 : decide (1 + x3_1.size ≤ 9223372036854775807) = true := decide_eq_true c15
        try have c15b2 : (9223372036854775807 < 1 + x3_1.size) = False := eq_false (Nat.not_lt.2 c15)
        obtain rfl := Option.some.inj H
        go_wp2
        go_ret
        exact ⟨by first | rfl | (simp [errW_none, errW_some] <;> rfl) | (simp [*, errW_none, errW_some] <;> rfl), by repeat (first | (with_reducible first | exact HB.out | apply below_alloc | apply pw_below_drewN | apply below_drew1) | exact HB.out)⟩
       ·rw [if_neg c15] at H
        exact absurd H (by simp)
      ·rw [if_neg c14] at H
       have c14b0 : decide (a0 < 0) = false := decide_eq_false c14
       clear c14
       obtain rfl := Option.some.inj H
       go_wp2
       go_ret
       exact ⟨by first | rfl | (simp [errW_none, errW_some] <;> rfl) | (simp [*, errW_none, errW_some] <;> rfl), by repeat (first | (with_reducible first | exact HB.out | apply below_alloc | apply pw_below_drewN | apply below_drew1) | exact HB.out)⟩

-- NOT PRINTED: function 6 (isoglosslaw01_FaultNil)

end Go.Proofs.YtlngefnimnjkkaaDoor.P
