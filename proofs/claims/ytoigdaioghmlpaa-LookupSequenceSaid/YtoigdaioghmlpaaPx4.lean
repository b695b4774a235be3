-- Written for this claim by the session's own run of the print, functions proved by hand put in.
import Derived.Test.YtoigdaioghmlpaaPx0
namespace Go.Proofs.Ytoigdaioghmlpaa.P
open Go.RowKit Go.Proofs.YtoigdaioghmlpaaW.PrintWords Go.Proofs.YtoigdaioghmlpaaW.PrintLast Go.Proofs.YtoigdaioghmlpaaW.PrintMore
attribute [local go_sem] max2_int min2_int max_two min_two max_three min_three max_four min_four   -- for this text's walks alone
set_option linter.unusedVariables false
set_option linter.unusedSimpArgs false

/-! ### isoglosslaw21_short: function 10 -/
def isoglosslaw21_short.f (a0 : ByteArray) : Option (ByteArray) := if (a0.size : Int) > 40 then (if 0 ≤ 40 then (if 40 ≤ (a0.size : Int) then (some (a0.extract 0 40)) else (none)) else (none)) else (some a0)
set_option maxHeartbeats 8000000 in
set_option maxRecDepth 100000 in
theorem isoglosslaw21_short.calls (a0 : ByteArray) (r : ByteArray) (w : World) (h : isoglosslaw21_short.f a0 = some r) :
  Calls Try.prog 10 #[.string a0] w fun e w' => e = .returned (.string r) ∧ Drawn0 w w' := by
 have H : (if (a0.size : Int) > 40 then (if 0 ≤ 40 then (if 40 ≤ (a0.size : Int) then (some (a0.extract 0 40)) else (none)) else (none)) else (some a0)) = some r := h
 clear h
 by_cases c2 : (a0.size : Int) > 40
 ·rw [if_pos c2] at H
  have c2b0 : decide (40 < (a0.size : Int)) = true := decide_eq_true c2
  have c2b1 : decide (40 < a0.size) = true := decide_eq_true (by omega)
  clear c2
  by_cases c3 : 0 ≤ 40
  ·rw [if_pos c3] at H
   have c3b0 := eq_true c3
   have c3b1 : decide (0 ≤ 40) = true := decide_eq_true c3
   clear c3
   by_cases c4 : 40 ≤ (a0.size : Int)
   ·rw [if_pos c4] at H
    have c4b0 := eq_true c4
    have c4b1 : decide (40 ≤ (a0.size : Int)) = true := decide_eq_true c4
    clear c4
    obtain rfl := Option.some.inj H
    go_enter Try.func10, Try.ntmps10
    go_wp2
    go_ret
    exact ⟨by first | rfl | (simp; done) | (simp [*]; done), by repeat (first | exact Drawn0.refl _ | apply Drawn0.step)⟩
   ·rw [if_neg c4] at H
    exact absurd H (by simp)
  ·rw [if_neg c3] at H
   exact absurd H (by simp)
 ·rw [if_neg c2] at H
  have c2b0 : decide (40 < (a0.size : Int)) = false := decide_eq_false c2
  have c2b1 : decide (40 < a0.size) = false := decide_eq_false (by omega)
  clear c2
  obtain rfl := Option.some.inj H
  go_enter Try.func10, Try.ntmps10
  go_wp2
  go_ret
  exact ⟨by first | rfl | (simp; done) | (simp [*]; done), by repeat (first | exact Drawn0.refl _ | apply Drawn0.step)⟩

/-! ### isoglossref20_Few: function 14 -/
mutual
def isoglossref20_Few.l0 : Nat → List ByteArray → Int → List ByteArray → Int → Option (List ByteArray)
 | 0, _, _, _, _ => none
 | k + 1, x0, x1, x5, x6 => if x6 < (x0.length : Int) then (isoglossref20_Few.j1 k x0 x1 x5 x6 (decide (x6 < x1))) else (isoglossref20_Few.j1 k x0 x1 x5 x6 false)
def isoglossref20_Few.j1 : Nat → List ByteArray → Int → List ByteArray → Int → Bool → Option (List ByteArray)
 | 0, _, _, _, _, _ => none
 | k + 1, x0, x1, x5, x6, x16 => if x16 = true then (if 0 ≤ x6 then (if x6 < (x0.length : Int) then (if ((rdOf ByteArray.empty x0 x6).size : Int) > 40 then (if 0 ≤ 40 then (if 40 ≤ ((rdOf ByteArray.empty x0 x6).size : Int) then (if x5.length < 8796093022208 then (isoglossref20_Few.l0 k x0 x1 (x5 ++ [(rdOf ByteArray.empty x0 x6).extract 0 40]) (wrap64 (x6 + 1))) else (none)) else (none)) else (none)) else (if x5.length < 8796093022208 then (isoglossref20_Few.l0 k x0 x1 (x5 ++ [rdOf ByteArray.empty x0 x6]) (wrap64 (x6 + 1))) else (none))) else (none)) else (none)) else (some x5)
end
def isoglossref20_Few.f (k : Nat) (l0 : List ByteArray) (a1 : Int) : Option (List ByteArray) := isoglossref20_Few.l0 k l0 a1 ([] : List ByteArray) 0
theorem isoglossref20_Few.mono_l : ∀ k, (∀ y0 y1 y2 y3, LeO (isoglossref20_Few.l0 k y0 y1 y2 y3) (isoglossref20_Few.l0 (k + 1) y0 y1 y2 y3)) ∧ (∀ y0 y1 y2 y3 y4, LeO (isoglossref20_Few.j1 k y0 y1 y2 y3 y4) (isoglossref20_Few.j1 (k + 1) y0 y1 y2 y3 y4))
 | 0 => ⟨fun _ _ _ _ r h => by simp [isoglossref20_Few.l0] at h, fun _ _ _ _ _ r h => by simp [isoglossref20_Few.j1] at h⟩
 | k + 1 => by
  obtain ⟨ih0, ih1⟩ := isoglossref20_Few.mono_l k
  refine ⟨?_, ?_⟩
  ·intro y0 y1 y2 y3
   unfold isoglossref20_Few.l0
   repeat' first
   | (with_reducible exact ih0 _ _ _ _)
   | (with_reducible exact ih1 _ _ _ _ _)
   | (with_reducible exact LeO.refl _)
   | (with_reducible exact LeO.none _)
   | (with_reducible refine LeO.ite ?_ ?_)
   | (with_reducible refine LeO.bind ?_ (fun _ => ?_))
   | exact ih0 _ _ _ _
   | exact ih1 _ _ _ _ _
   | exact LeO.none _
   | refine LeO.ite ?_ ?_
   | refine LeO.bind ?_ (fun _ => ?_)
  ·intro y0 y1 y2 y3 y4
   unfold isoglossref20_Few.j1
   repeat' first
   | (with_reducible exact ih0 _ _ _ _)
   | (with_reducible exact ih1 _ _ _ _ _)
   | (with_reducible exact LeO.refl _)
   | (with_reducible exact LeO.none _)
   | (with_reducible refine LeO.ite ?_ ?_)
   | (with_reducible refine LeO.bind ?_ (fun _ => ?_))
   | exact ih0 _ _ _ _
   | exact ih1 _ _ _ _ _
   | exact LeO.none _
   | refine LeO.ite ?_ ?_
   | refine LeO.bind ?_ (fun _ => ?_)
theorem isoglossref20_Few.mono : ∀ a0 a1 k, LeO (isoglossref20_Few.f k a0 a1) (isoglossref20_Few.f (k + 1) a0 a1) := by
 intro a0 a1 k
 obtain ⟨ih0, ih1⟩ := isoglossref20_Few.mono_l k
 unfold isoglossref20_Few.f
 repeat' first
   | (with_reducible exact ih0 _ _ _ _)
   | (with_reducible exact ih1 _ _ _ _ _)
   | (with_reducible exact LeO.refl _)
   | (with_reducible exact LeO.none _)
   | (with_reducible refine LeO.ite ?_ ?_)
   | (with_reducible refine LeO.bind ?_ (fun _ => ?_))
   | exact ih0 _ _ _ _
   | exact ih1 _ _ _ _ _
   | exact LeO.none _
   | refine LeO.ite ?_ ?_
   | refine LeO.bind ?_ (fun _ => ?_)
set_option maxHeartbeats 8000000 in
set_option maxRecDepth 100000 in
theorem isoglossref20_Few.calls (k : Nat) (A0 : Option Addr) (c0 : Nat) (l0 : List ByteArray) (a1 : Int) (r : List ByteArray) (w : World) (hr0 : Kd.C Kd.string w A0 l0.length l0) (hc0 : l0.length ≤ c0) (h : isoglossref20_Few.f k l0 a1 = some r) :
  Calls Try.prog 14 #[.slice A0 l0.length c0, .int .i64 a1] w fun e w' => ∃ v0_ : Value, e = .returned (v0_) ∧ Kd.R Kd.string 9 w' w.heap.size (fun _ => True) v0_ r ∧ Below w.heap.size w w' := by
 have HR0 := Aside0.mk hr0
 have HC0 := Aside0.mk hc0
 clear hr0 hc0
 have HB := Aside0.mk (Below.refl w.heap.size w)
 have H : (isoglossref20_Few.l0 k l0 a1 ([] : List ByteArray) 0) = some r := h
 clear h
 have H' := Aside0.mk H
 clear H
 go_enter Try.func14, Try.ntmps14
 go_wp2
 go_loopg [5, 6] k (fun kq v5 v6 w' => ∃ (x5_1 : List ByteArray) (x6_1 : Int), v6 = .int .i64 x6_1 ∧ Aside0 (isoglossref20_Few.l0 kq l0 a1 x5_1 x6_1 = some r) ∧ Aside0 (kq ≤ k) ∧ Aside0 (Kd.R Kd.string 9 w' w.heap.size (fun _ => True) v5 x5_1) ∧ Aside0 (Below w.heap.size w w'))
 case atStart => exact ⟨(([] : List ByteArray)), (0), (by first | rfl | (simp; done) | (simp [*]; done)), H', ⟨Nat.le_refl _⟩, ⟨by first | exact Kd.R_nil _ _ _ _ _ | exact Kd.N_nil _ _ _ _ _ | exact Kd.V_nil _ _ _ _ _ | exact Kd.Q_nil _ _ _ _ _ | exact Kd.S_nil _ _ _ _ _⟩, ⟨by repeat (first | (with_reducible first | exact HB.out | apply below_alloc | apply pw_below_drewN | apply below_drew1) | exact HB.out)⟩⟩
 case round =>
  clear H'
  try clear c1
  try clear p2
  obtain ⟨x5_1, x6_1, rfl, HA, HK1, HO_5, HB⟩ := hrel
  cases gk with
  | zero => exact absurd HA.out (by simp [isoglossref20_Few.l0])
  | succ k1 =>
   have H := HA.out
   clear HA
   simp only [isoglossref20_Few.l0] at H
   have HC3 := Aside0.mk H
   clear H
   go_upto_region 3 with (fail)
   go_cut [16] (fun v16 wc => ∃ (kq : Nat) (x16_2 : Bool), v16 = .bool x16_2 ∧ Aside0 (isoglossref20_Few.j1 kq l0 a1 x5_1 x6_1 x16_2 = some r) ∧ Aside0 (kq ≤ k1) ∧ Aside0 (Kd.R Kd.string 9 wc w.heap.size (fun _ => True) u5 x5_1) ∧ Aside0 (Below w.heap.size w wc))
   case first =>
    have H := HC3.out
    clear HC3
    by_cases c4 : x6_1 < (l0.length : Int)
    ·rw [if_pos c4] at H
     have c4b0 : decide (x6_1 < (l0.length : Int)) = true := decide_eq_true c4
     clear c4
     (first | rw [c4b0] | (simp only [i64_w, i32_w]; rw [c4b0]) | skip)
     have H' := Aside0.mk H
     clear H
     go_wp2
     go_meet
     case rel => exact ⟨_, (decide (x6_1 < a1)), (by first | rfl | (simp; done) | (simp [*]; done)), H', ⟨by have := HK1.out; first | omega | exact Nat.le_refl _⟩, ⟨by (with_reducible repeat (first | apply Kd.R_alloc | apply Kd.R_drewN | apply Kd.R_drew)); exact HO_5.out⟩, ⟨by repeat (first | (with_reducible first | exact HB.out | apply below_alloc | apply pw_below_drewN | apply below_drew1) | exact HB.out)⟩⟩
    ·rw [if_neg c4] at H
     have c4b0 : decide (x6_1 < (l0.length : Int)) = false := decide_eq_false c4
     clear c4
     (first | rw [c4b0] | (simp only [i64_w, i32_w]; rw [c4b0]) | skip)
     have H' := Aside0.mk H
     clear H
     go_wp2
     go_meet
     case rel => exact ⟨_, (false), (by first | rfl | (simp; done) | (simp [*]; done)), H', ⟨by have := HK1.out; first | omega | exact Nat.le_refl _⟩, ⟨by (with_reducible repeat (first | apply Kd.R_alloc | apply Kd.R_drewN | apply Kd.R_drew)); exact HO_5.out⟩, ⟨by repeat (first | (with_reducible first | exact HB.out | apply below_alloc | apply pw_below_drewN | apply below_drew1) | exact HB.out)⟩⟩
   case rest =>
    clear HC3
    try clear c1
    try clear p2
    try clear c4
    try clear c4b0
    try clear p2
    obtain ⟨kq, x16_2, rfl, HA, HJ2, HO_5, HB⟩ := hcut
    cases kq with
    | zero => exact absurd HA.out (by simp [isoglossref20_Few.j1])
    | succ kj2 =>
     have H := HA.out
     clear HA
     simp only [isoglossref20_Few.j1] at H
     by_cases c5 : x16_2 = true
     ·subst c5
      have H1 : (if 0 ≤ x6_1 then (if x6_1 < (l0.length : Int) then (if ((rdOf ByteArray.empty l0 x6_1).size : Int) > 40 then (if 0 ≤ 40 then (if 40 ≤ ((rdOf ByteArray.empty l0 x6_1).size : Int) then (if x5_1.length < 8796093022208 then (isoglossref20_Few.l0 kj2 l0 a1 (x5_1 ++ [(rdOf ByteArray.empty l0 x6_1).extract 0 40]) (wrap64 (x6_1 + 1))) else (none)) else (none)) else (none)) else (if x5_1.length < 8796093022208 then (isoglossref20_Few.l0 kj2 l0 a1 (x5_1 ++ [rdOf ByteArray.empty l0 x6_1]) (wrap64 (x6_1 + 1))) else (none))) else (none)) else (none)) = some r := by rw [if_pos rfl] at H; exact H
      clear H
      have H := H1
      clear H1
      by_cases c6 : 0 ≤ x6_1
      ·rw [if_pos c6] at H
       have c6b0 : decide (0 ≤ x6_1) = true := decide_eq_true c6
       clear c6
       by_cases c7 : x6_1 < (l0.length : Int)
       ·rw [if_pos c7] at H
        have c7b0 : decide (x6_1 < (l0.length : Int)) = true := decide_eq_true c7
        clear c7
        by_cases c8 : ((rdOf ByteArray.empty l0 x6_1).size : Int) > 40
        ·rw [if_pos c8] at H
         have c8b0 : decide (40 < ((rdOf ByteArray.empty l0 x6_1).size : Int)) = true := decide_eq_true c8
         have c8b1 : decide (40 < (rdOf ByteArray.empty l0 x6_1).size) = true := decide_eq_true (by omega)
         clear c8
         by_cases c9 : 0 ≤ 40
         ·rw [if_pos c9] at H
          have c9b0 := eq_true c9
          have c9b1 : decide (0 ≤ 40) = true := decide_eq_true c9
          clear c9
          by_cases c10 : 40 ≤ ((rdOf ByteArray.empty l0 x6_1).size : Int)
          ·rw [if_pos c10] at H
           have c10b0 := eq_true c10
           have c10b1 : decide (40 ≤ ((rdOf ByteArray.empty l0 x6_1).size : Int)) = true := decide_eq_true c10
           clear c10
           by_cases c11 : x5_1.length < 8796093022208
           ·rw [if_pos c11] at H
            have LMc11 := Aside0.mk c11
            clear c11
            obtain ⟨y128, hy128⟩ : ∃ y_ : List ByteArray, y_ = (x5_1 ++ [(rdOf ByteArray.empty l0 x6_1).extract 0 40]) := ⟨_, rfl⟩
            replace H : (isoglossref20_Few.l0 kj2 l0 a1 y128 (wrap64 (x6_1 + 1))) = some r := by first | (rw [hy128]; with_reducible exact H) | (have H2_ := (Option.bind_some _ _).symm.trans H; rw [hy128]; with_reducible exact H2_) | (have H2_ := (Option.bind_some _ _).symm.trans H; with_reducible exact H2_) | with_reducible exact H | (rw [hy128]; exact H) | exact H
            have Ny128 := Aside0.mk hy128
            clear hy128
            have H' := Aside0.mk H
            clear H
            have p127 : 0 ≤ (x6_1 : Int) := of_decide_eq_true (by first | (with_reducible assumption) | assumption)
            have q127 : x6_1 < (l0.length : Int) := of_decide_eq_true (by first | (with_reducible assumption) | assumption)
            obtain ⟨ad127, e127, hx127_0⟩ := Kd.at_string HR0.out x6_1 p127 q127
            cases e127
            replace hx127_0 := (HB.out.cell (World.block_lt_of_cell? w _ hx127_0)).trans hx127_0
            replace p127 := eq_true p127
            replace q127 := eq_true q127
            go_wp2_with (first | ((with_reducible refine gate_builtin (b := .append) (xs := #[.tmp 28, .tmp 30]) rfl ?_); at_builtin; refine Kd.R_append Kd.string (w0 := w) w.heap.size rfl (.tmp 28) (.tmp 30) 24 9 (.string ⟨#[]⟩) 16 rfl Try.underlying24 info9 rfl (by decide) (by omega) u5 x5_1 ((rdOf ByteArray.empty l0 x6_1).extract 0 40) [.string ((rdOf ByteArray.empty l0 x6_1).extract 0 40)] (fun _ => True) (fun _ => False) rfl rfl ?aP (fun _ hk => hk.elim) ?aF ?aO ?aB ?aS ?aL ?_; (case aP => exact rfl); (case aB => exact (by repeat (first | (with_reducible first | exact HB.out | apply below_alloc | apply pw_below_drewN | apply below_drew1) | exact HB.out))); (case aF => exact (fun _ _ => trivial)); (case aO => exact (by (with_reducible repeat (first | apply Kd.R_alloc | apply Kd.R_drewN | apply Kd.R_drew)); exact HO_5.out)); (case aS => exact (below_size (by repeat (first | (with_reducible first | exact HB.out | apply below_alloc | apply pw_below_drewN | apply below_drew1) | exact HB.out)))); (case aL => have := LMc11.out; omega); intro v129 w12 ho hb hg hat; rw [← Ny128.out] at ho; have n0_ := Aside0.mk (hb); have n1_ := Aside0.mk (ho); clear HB; clear HO_5; have HB := n0_; have HO130 := n1_; clear n0_ n1_; clear ho hb hg hat))
            go_roundg kj2
            case measure => have := HK1.out; have := HJ2.out; omega
            case rel => exact ⟨(y128), (wrap64 (x6_1 + 1)), (by first | rfl | (simp; done) | (simp [*]; done)), H', ⟨by have := HK1.out; have := HJ2.out; omega⟩, ⟨by (with_reducible repeat (first | apply Kd.R_alloc | apply Kd.R_drewN | apply Kd.R_drew)); exact HO130.out⟩, ⟨by repeat (first | (with_reducible first | exact HB.out | apply below_alloc | apply pw_below_drewN | apply below_drew1) | exact HB.out)⟩⟩
           ·rw [if_neg c11] at H
            exact absurd H (by simp)
          ·rw [if_neg c10] at H
           exact absurd H (by simp)
         ·rw [if_neg c9] at H
          exact absurd H (by simp)
        ·rw [if_neg c8] at H
         have c8b0 : decide (40 < ((rdOf ByteArray.empty l0 x6_1).size : Int)) = false := decide_eq_false c8
         have c8b1 : decide (40 < (rdOf ByteArray.empty l0 x6_1).size) = false := decide_eq_false (by omega)
         clear c8
         by_cases c13 : x5_1.length < 8796093022208
         ·rw [if_pos c13] at H
          have LMc13 := Aside0.mk c13
          clear c13
          obtain ⟨y131, hy131⟩ : ∃ y_ : List ByteArray, y_ = (x5_1 ++ [rdOf ByteArray.empty l0 x6_1]) := ⟨_, rfl⟩
          replace H : (isoglossref20_Few.l0 kj2 l0 a1 y131 (wrap64 (x6_1 + 1))) = some r := by first | (rw [hy131]; with_reducible exact H) | (have H2_ := (Option.bind_some _ _).symm.trans H; rw [hy131]; with_reducible exact H2_) | (have H2_ := (Option.bind_some _ _).symm.trans H; with_reducible exact H2_) | with_reducible exact H | (rw [hy131]; exact H) | exact H
          have Ny131 := Aside0.mk hy131
          clear hy131
          have H' := Aside0.mk H
          clear H
          have p127 : 0 ≤ (x6_1 : Int) := of_decide_eq_true (by first | (with_reducible assumption) | assumption)
          have q127 : x6_1 < (l0.length : Int) := of_decide_eq_true (by first | (with_reducible assumption) | assumption)
          obtain ⟨ad127, e127, hx127_0⟩ := Kd.at_string HR0.out x6_1 p127 q127
          cases e127
          replace hx127_0 := (HB.out.cell (World.block_lt_of_cell? w _ hx127_0)).trans hx127_0
          replace p127 := eq_true p127
          replace q127 := eq_true q127
          go_wp2_with (first | ((with_reducible refine gate_builtin (b := .append) (xs := #[.tmp 28, .tmp 30]) rfl ?_); at_builtin; refine Kd.R_append Kd.string (w0 := w) w.heap.size rfl (.tmp 28) (.tmp 30) 24 9 (.string ⟨#[]⟩) 16 rfl Try.underlying24 info9 rfl (by decide) (by omega) u5 x5_1 (rdOf ByteArray.empty l0 x6_1) [.string (rdOf ByteArray.empty l0 x6_1)] (fun _ => True) (fun _ => False) rfl rfl ?aP (fun _ hk => hk.elim) ?aF ?aO ?aB ?aS ?aL ?_; (case aP => exact rfl); (case aB => exact (by repeat (first | (with_reducible first | exact HB.out | apply below_alloc | apply pw_below_drewN | apply below_drew1) | exact HB.out))); (case aF => exact (fun _ _ => trivial)); (case aO => exact (by (with_reducible repeat (first | apply Kd.R_alloc | apply Kd.R_drewN | apply Kd.R_drew)); exact HO_5.out)); (case aS => exact (below_size (by repeat (first | (with_reducible first | exact HB.out | apply below_alloc | apply pw_below_drewN | apply below_drew1) | exact HB.out)))); (case aL => have := LMc13.out; omega); intro v132 w14 ho hb hg hat; rw [← Ny131.out] at ho; have n0_ := Aside0.mk (hb); have n1_ := Aside0.mk (ho); clear HB; clear HO_5; have HB := n0_; have HO133 := n1_; clear n0_ n1_; clear ho hb hg hat))
          go_roundg kj2
          case measure => have := HK1.out; have := HJ2.out; omega
          case rel => exact ⟨(y131), (wrap64 (x6_1 + 1)), (by first | rfl | (simp; done) | (simp [*]; done)), H', ⟨by have := HK1.out; have := HJ2.out; omega⟩, ⟨by (with_reducible repeat (first | apply Kd.R_alloc | apply Kd.R_drewN | apply Kd.R_drew)); exact HO133.out⟩, ⟨by repeat (first | (with_reducible first | exact HB.out | apply below_alloc | apply pw_below_drewN | apply below_drew1) | exact HB.out)⟩⟩
         ·rw [if_neg c13] at H
          exact absurd H (by simp)
       ·rw [if_neg c7] at H
        exact absurd H (by simp)
      ·rw [if_neg c6] at H
       exact absurd H (by simp)
     ·replace c5 := Bool.eq_false_iff.mpr c5
      subst c5
      have H1 : (some x5_1) = some r := by rw [if_neg (show ¬ (false = true) by decide)] at H; exact H
      clear H
      have H := H1
      clear H1
      obtain rfl := Option.some.inj H
      go_wp2
      go_ret
      exact ⟨_, by first | rfl | (simp [errW_none, errW_some] <;> rfl) | (simp [*, errW_none, errW_some] <;> rfl), by (with_reducible repeat (first | apply Kd.R_alloc | apply Kd.R_drewN | apply Kd.R_drew)); exact HO_5.out, by repeat (first | (with_reducible first | exact HB.out | apply below_alloc | apply pw_below_drewN | apply below_drew1) | exact HB.out)⟩

/-! ### isoglossref04_Each: function 33 -/
def isoglossref04_Each.l0 : Nat → ByteArray → List (S54) → Int → Int → Option ((List (S54)))
 | 0, _, _, _, _ => none
 | k + 1, x0, x3, x4, x5 => if x5 ≤ (x0.size : Int) then (if x5 = (x0.size : Int) then (if 0 ≤ x4 then (if x4 ≤ x5 then (if x3.length < 5864062014805 then (isoglossref04_Each.l0 k x0 (x3 ++ [(⟨x4, x0.extract (x4 : Int).toNat (x5 : Int).toNat⟩ : S54)]) (wrap64 (x5 + 1)) (wrap64 (x5 + 1))) else (none)) else (none)) else (none)) else (if 0 ≤ x5 then (if x5 < (x0.size : Int) then (if (bt x0 x5) = 45 then (if 0 ≤ x4 then (if x4 ≤ x5 then (if x3.length < 5864062014805 then (isoglossref04_Each.l0 k x0 (x3 ++ [(⟨x4, x0.extract (x4 : Int).toNat (x5 : Int).toNat⟩ : S54)]) (wrap64 (x5 + 1)) (wrap64 (x5 + 1))) else (none)) else (none)) else (none)) else (isoglossref04_Each.l0 k x0 x3 x4 (wrap64 (x5 + 1)))) else (none)) else (none))) else (some x3)
def isoglossref04_Each.f (k : Nat) (a0 : ByteArray) : Option ((List (S54))) := isoglossref04_Each.l0 k a0 ([] : List (S54)) 0 0
theorem isoglossref04_Each.mono_l : ∀ k, (∀ y0 y1 y2 y3, LeO (isoglossref04_Each.l0 k y0 y1 y2 y3) (isoglossref04_Each.l0 (k + 1) y0 y1 y2 y3))
 | 0 => fun _ _ _ _ r h => by simp [isoglossref04_Each.l0] at h
 | k + 1 => by
  have ih0 := isoglossref04_Each.mono_l k
  ·intro y0 y1 y2 y3
   unfold isoglossref04_Each.l0
   repeat' first
   | (with_reducible exact ih0 _ _ _ _)
   | (with_reducible exact LeO.refl _)
   | (with_reducible exact LeO.none _)
   | (with_reducible refine LeO.ite ?_ ?_)
   | (with_reducible refine LeO.bind ?_ (fun _ => ?_))
   | exact ih0 _ _ _ _
   | exact LeO.none _
   | refine LeO.ite ?_ ?_
   | refine LeO.bind ?_ (fun _ => ?_)
theorem isoglossref04_Each.mono : ∀ a0 k, LeO (isoglossref04_Each.f k a0) (isoglossref04_Each.f (k + 1) a0) := by
 intro a0 k
 have ih0 := isoglossref04_Each.mono_l k
 unfold isoglossref04_Each.f
 repeat' first
   | (with_reducible exact ih0 _ _ _ _)
   | (with_reducible exact LeO.refl _)
   | (with_reducible exact LeO.none _)
   | (with_reducible refine LeO.ite ?_ ?_)
   | (with_reducible refine LeO.bind ?_ (fun _ => ?_))
   | exact ih0 _ _ _ _
   | exact LeO.none _
   | refine LeO.ite ?_ ?_
   | refine LeO.bind ?_ (fun _ => ?_)
set_option maxHeartbeats 8000000 in
set_option maxRecDepth 100000 in
theorem isoglossref04_Each.calls (k : Nat) (a0 : ByteArray) (r : List (S54)) (w : World) (h : isoglossref04_Each.f k a0 = some r) :
  Calls Try.prog 33 #[.string a0] w fun e w' => ∃ v0_ : Value, e = .returned (v0_) ∧ Kd.R k54 54 w' w.heap.size (fun _ => True) v0_ r ∧ Below w.heap.size w w' := by
 have hu54 := Try.underlying54
 have HB := Aside0.mk (Below.refl w.heap.size w)
 have H : (isoglossref04_Each.l0 k a0 ([] : List (S54)) 0 0) = some r := h
 clear h
 have H' := Aside0.mk H
 clear H
 go_enter Try.func33, Try.ntmps33
 go_wp2
 go_loopg [3, 4, 5] k (fun kq v3 v4 v5 w' => ∃ (x3_1 : List (S54)) (x4_1 : Int) (x5_1 : Int), v4 = .int .i64 x4_1 ∧ v5 = .int .i64 x5_1 ∧ Aside0 (isoglossref04_Each.l0 kq a0 x3_1 x4_1 x5_1 = some r) ∧ Aside0 (kq ≤ k) ∧ Aside0 (Kd.R k54 54 w' w.heap.size (fun _ => True) v3 x3_1) ∧ Aside0 (Below w.heap.size w w'))
 case atStart => exact ⟨(([] : List (S54))), (0), (0), (by first | rfl | (simp; done) | (simp [*]; done)), (by first | rfl | (simp; done) | (simp [*]; done)), H', ⟨Nat.le_refl _⟩, ⟨by first | exact Kd.R_nil _ _ _ _ _ | exact Kd.N_nil _ _ _ _ _ | exact Kd.V_nil _ _ _ _ _ | exact Kd.Q_nil _ _ _ _ _ | exact Kd.S_nil _ _ _ _ _⟩, ⟨by repeat (first | (with_reducible first | exact HB.out | apply below_alloc | apply pw_below_drewN | apply below_drew1) | exact HB.out)⟩⟩
 case round =>
  clear H'
  obtain ⟨x3_1, x4_1, x5_1, rfl, rfl, HA, HK1, HO_3, HB⟩ := hrel
  cases gk with
  | zero => exact absurd HA.out (by simp [isoglossref04_Each.l0])
  | succ k1 =>
   have H := HA.out
   clear HA
   simp only [isoglossref04_Each.l0] at H
   by_cases c2 : x5_1 ≤ (a0.size : Int)
   ·rw [if_pos c2] at H
    have c2b0 : decide (x5_1 ≤ (a0.size : Int)) = true := decide_eq_true c2
    clear c2
    by_cases c3 : x5_1 = (a0.size : Int)
    ·rw [if_pos c3] at H
     have c3b0 : (x5_1 == (a0.size : Int)) = true := beq_iff_eq.mpr c3
     have c3b1 : (x5_1 != (a0.size : Int)) = false := bne_eq_false_iff_eq.mpr c3
     clear c3
     by_cases c4 : 0 ≤ x4_1
     ·rw [if_pos c4] at H
      have c4b0 := eq_true c4
      have c4b1 : decide (0 ≤ x4_1) = true := decide_eq_true c4
      clear c4
      by_cases c5 : x4_1 ≤ x5_1
      ·rw [if_pos c5] at H
       have c5b0 := eq_true c5
       have c5b1 : decide (x4_1 ≤ x5_1) = true := decide_eq_true c5
       clear c5
       have c6b0 := eq_true (of_decide_eq_true (by first | (with_reducible assumption) | assumption) : x5_1 ≤ (a0.size : Int))
       by_cases c7 : x3_1.length < 5864062014805
       ·rw [if_pos c7] at H
        have LMc7 := Aside0.mk c7
        clear c7
        obtain ⟨y134, hy134⟩ : ∃ y_ : List (S54), y_ = (x3_1 ++ [(⟨x4_1, a0.extract (x4_1 : Int).toNat (x5_1 : Int).toNat⟩ : S54)]) := ⟨_, rfl⟩
        replace H : (isoglossref04_Each.l0 k1 a0 y134 (wrap64 (x5_1 + 1)) (wrap64 (x5_1 + 1))) = some r := by first | (rw [hy134]; with_reducible exact H) | (have H2_ := (Option.bind_some _ _).symm.trans H; rw [hy134]; with_reducible exact H2_) | (have H2_ := (Option.bind_some _ _).symm.trans H; with_reducible exact H2_) | with_reducible exact H | (rw [hy134]; exact H) | exact H
        have Ny134 := Aside0.mk hy134
        clear hy134
        have H' := Aside0.mk H
        clear H
        go_wp2_with (first | ((with_reducible refine gate_builtin (b := .append) (xs := #[.tmp 22, .tmp 29]) rfl ?_); at_builtin; refine Kd.R_append k54 (w0 := w) w.heap.size rfl (.tmp 22) (.tmp 29) 51 54 (.agg #[(.int .i64 0), (.string ⟨#[]⟩)]) 24 rfl Try.underlying51 info54 rfl (by decide) (by omega) u3 x3_1 (⟨x4_1, a0.extract (x4_1 : Int).toNat (x5_1 : Int).toNat⟩ : S54) [.int .i64 x4_1, .string (a0.extract (x4_1 : Int).toNat (x5_1 : Int).toNat)] (fun _ => True) (fun _ => False) rfl rfl ?aP (fun _ hk => hk.elim) ?aF ?aO ?aB ?aS ?aL ?_; (case aP => exact k54_mkM _ _ _ (⟨x4_1, a0.extract (x4_1 : Int).toNat (x5_1 : Int).toNat⟩ : S54)); (case aB => exact (by repeat (first | (with_reducible first | exact HB.out | apply below_alloc | apply pw_below_drewN | apply below_drew1) | exact HB.out))); (case aF => exact (fun _ _ => trivial)); (case aO => exact (by (with_reducible repeat (first | apply Kd.R_alloc | apply Kd.R_drewN | apply Kd.R_drew)); exact HO_3.out)); (case aS => exact (below_size (by repeat (first | (with_reducible first | exact HB.out | apply below_alloc | apply pw_below_drewN | apply below_drew1) | exact HB.out)))); (case aL => have := LMc7.out; omega); intro v135 w8 ho hb hg hat; rw [← Ny134.out] at ho; have n0_ := Aside0.mk (hb); have n1_ := Aside0.mk (ho); clear HB; clear HO_3; have HB := n0_; have HO136 := n1_; clear n0_ n1_; clear ho hb hg hat))
        go_roundg k1
        case measure => have := HK1.out; omega
        case rel => exact ⟨(y134), (wrap64 (x5_1 + 1)), (wrap64 (x5_1 + 1)), (by first | rfl | (simp; done) | (simp [*]; done)), (by first | rfl | (simp; done) | (simp [*]; done)), H', ⟨by have := HK1.out; omega⟩, ⟨by (with_reducible repeat (first | apply Kd.R_alloc | apply Kd.R_drewN | apply Kd.R_drew)); exact HO136.out⟩, ⟨by repeat (first | (with_reducible first | exact HB.out | apply below_alloc | apply pw_below_drewN | apply below_drew1) | exact HB.out)⟩⟩
       ·rw [if_neg c7] at H
        exact absurd H (by simp)
      ·rw [if_neg c5] at H
       exact absurd H (by simp)
     ·rw [if_neg c4] at H
      exact absurd H (by simp)
    ·rw [if_neg c3] at H
     have c3b0 : (x5_1 == (a0.size : Int)) = false := beq_eq_false_iff_ne.mpr c3
     have c3b1 : (x5_1 != (a0.size : Int)) = true := bne_iff_ne.mpr c3
     by_cases c9 : 0 ≤ x5_1
     ·rw [if_pos c9] at H
      have c9b0 : decide (0 ≤ x5_1) = true := decide_eq_true c9
      clear c9
      by_cases c10 : x5_1 < (a0.size : Int)
      ·rw [if_pos c10] at H
       have c10b0 : decide (x5_1 < (a0.size : Int)) = true := decide_eq_true c10
       clear c10
       by_cases c12 : (bt a0 x5_1) = 45
       ·rw [if_pos c12] at H
        have c12b0 : ((bt a0 x5_1) == 45) = true := beq_iff_eq.mpr c12
        have c12b1 : ((bt a0 x5_1) != 45) = false := bne_eq_false_iff_eq.mpr c12
        clear c12
        by_cases c13 : 0 ≤ x4_1
        ·rw [if_pos c13] at H
         have c13b0 := eq_true c13
         have c13b1 : decide (0 ≤ x4_1) = true := decide_eq_true c13
         clear c13
         by_cases c14 : x4_1 ≤ x5_1
         ·rw [if_pos c14] at H
          have c14b0 := eq_true c14
          have c14b1 : decide (x4_1 ≤ x5_1) = true := decide_eq_true c14
          clear c14
          have c15b0 := eq_true (of_decide_eq_true (by first | (with_reducible assumption) | assumption) : x5_1 ≤ (a0.size : Int))
          by_cases c16 : x3_1.length < 5864062014805
          ·rw [if_pos c16] at H
           have LMc16 := Aside0.mk c16
           clear c16
           obtain ⟨y137, hy137⟩ : ∃ y_ : List (S54), y_ = (x3_1 ++ [(⟨x4_1, a0.extract (x4_1 : Int).toNat (x5_1 : Int).toNat⟩ : S54)]) := ⟨_, rfl⟩
           replace H : (isoglossref04_Each.l0 k1 a0 y137 (wrap64 (x5_1 + 1)) (wrap64 (x5_1 + 1))) = some r := by first | (rw [hy137]; with_reducible exact H) | (have H2_ := (Option.bind_some _ _).symm.trans H; rw [hy137]; with_reducible exact H2_) | (have H2_ := (Option.bind_some _ _).symm.trans H; with_reducible exact H2_) | with_reducible exact H | (rw [hy137]; exact H) | exact H
           have Ny137 := Aside0.mk hy137
           clear hy137
           have H' := Aside0.mk H
           clear H
           have p11 : 0 ≤ (x5_1 : Int) := of_decide_eq_true (by first | (with_reducible assumption) | assumption)
           have q11 : x5_1 < (a0.size : Int) := of_decide_eq_true (by first | (with_reducible assumption) | assumption)
           have hx11 := bt_at a0 x5_1
           replace p11 := eq_true p11
           replace q11 := eq_true q11
           go_wp2_with (first | ((with_reducible refine gate_builtin (b := .append) (xs := #[.tmp 22, .tmp 29]) rfl ?_); at_builtin; refine Kd.R_append k54 (w0 := w) w.heap.size rfl (.tmp 22) (.tmp 29) 51 54 (.agg #[(.int .i64 0), (.string ⟨#[]⟩)]) 24 rfl Try.underlying51 info54 rfl (by decide) (by omega) u3 x3_1 (⟨x4_1, a0.extract (x4_1 : Int).toNat (x5_1 : Int).toNat⟩ : S54) [.int .i64 x4_1, .string (a0.extract (x4_1 : Int).toNat (x5_1 : Int).toNat)] (fun _ => True) (fun _ => False) rfl rfl ?aP (fun _ hk => hk.elim) ?aF ?aO ?aB ?aS ?aL ?_; (case aP => exact k54_mkM _ _ _ (⟨x4_1, a0.extract (x4_1 : Int).toNat (x5_1 : Int).toNat⟩ : S54)); (case aB => exact (by repeat (first | (with_reducible first | exact HB.out | apply below_alloc | apply pw_below_drewN | apply below_drew1) | exact HB.out))); (case aF => exact (fun _ _ => trivial)); (case aO => exact (by (with_reducible repeat (first | apply Kd.R_alloc | apply Kd.R_drewN | apply Kd.R_drew)); exact HO_3.out)); (case aS => exact (below_size (by repeat (first | (with_reducible first | exact HB.out | apply below_alloc | apply pw_below_drewN | apply below_drew1) | exact HB.out)))); (case aL => have := LMc16.out; omega); intro v138 w17 ho hb hg hat; rw [← Ny137.out] at ho; have n0_ := Aside0.mk (hb); have n1_ := Aside0.mk (ho); clear HB; clear HO_3; have HB := n0_; have HO139 := n1_; clear n0_ n1_; clear ho hb hg hat))
           go_roundg k1
           case measure => have := HK1.out; omega
           case rel => exact ⟨(y137), (wrap64 (x5_1 + 1)), (wrap64 (x5_1 + 1)), (by first | rfl | (simp; done) | (simp [*]; done)), (by first | rfl | (simp; done) | (simp [*]; done)), H', ⟨by have := HK1.out; omega⟩, ⟨by (with_reducible repeat (first | apply Kd.R_alloc | apply Kd.R_drewN | apply Kd.R_drew)); exact HO139.out⟩, ⟨by repeat (first | (with_reducible first | exact HB.out | apply below_alloc | apply pw_below_drewN | apply below_drew1) | exact HB.out)⟩⟩
          ·rw [if_neg c16] at H
           exact absurd H (by simp)
         ·rw [if_neg c14] at H
          exact absurd H (by simp)
        ·rw [if_neg c13] at H
         exact absurd H (by simp)
       ·rw [if_neg c12] at H
        have c12b0 : ((bt a0 x5_1) == 45) = false := beq_eq_false_iff_ne.mpr c12
        have c12b1 : ((bt a0 x5_1) != 45) = true := bne_iff_ne.mpr c12
        have H' := Aside0.mk H
        clear H
        have p11 : 0 ≤ (x5_1 : Int) := of_decide_eq_true (by first | (with_reducible assumption) | assumption)
        have q11 : x5_1 < (a0.size : Int) := of_decide_eq_true (by first | (with_reducible assumption) | assumption)
        have hx11 := bt_at a0 x5_1
        replace p11 := eq_true p11
        replace q11 := eq_true q11
        go_wp2
        go_roundg k1
        case measure => have := HK1.out; omega
        case rel => exact ⟨(x3_1), (x4_1), (wrap64 (x5_1 + 1)), (by first | rfl | (simp; done) | (simp [*]; done)), (by first | rfl | (simp; done) | (simp [*]; done)), H', ⟨by have := HK1.out; omega⟩, ⟨by (with_reducible repeat (first | apply Kd.R_alloc | apply Kd.R_drewN | apply Kd.R_drew)); exact HO_3.out⟩, ⟨by repeat (first | (with_reducible first | exact HB.out | apply below_alloc | apply pw_below_drewN | apply below_drew1) | exact HB.out)⟩⟩
      ·rw [if_neg c10] at H
       exact absurd H (by simp)
     ·rw [if_neg c9] at H
      exact absurd H (by simp)
   ·rw [if_neg c2] at H
    have c2b0 : decide (x5_1 ≤ (a0.size : Int)) = false := decide_eq_false c2
    clear c2
    obtain rfl := Option.some.inj H
    go_wp2
    go_ret
    exact ⟨_, by first | rfl | (simp [errW_none, errW_some] <;> rfl) | (simp [*, errW_none, errW_some] <;> rfl), by (with_reducible repeat (first | apply Kd.R_alloc | apply Kd.R_drewN | apply Kd.R_drew)); exact HO_3.out, by repeat (first | (with_reducible first | exact HB.out | apply below_alloc | apply pw_below_drewN | apply below_drew1) | exact HB.out)⟩

/-! ### isoglossref04_Split: function 21 -/
def isoglossref04_Split.l0 : Nat → List ByteArray → List (S54) → Int → Option (List ByteArray)
 | 0, _, _, _ => none
 | k + 1, x3, x4, x5 => if x5 < (x4.length : Int) then (if 0 ≤ x5 then (if x3.length < 8796093022208 then (isoglossref04_Split.l0 k (x3 ++ [(rd_T54 x4 x5).f1]) x4 (wrap64 (x5 + 1))) else (none)) else (none)) else (some x3)
def isoglossref04_Split.f (k : Nat) (a0 : ByteArray) : Option (List ByteArray) := (isoglossref04_Each.f k a0).bind fun t140 => (isoglossref04_Split.l0 k ([] : List ByteArray) t140 0)
theorem isoglossref04_Split.mono_l : ∀ k, (∀ y0 y1 y2, LeO (isoglossref04_Split.l0 k y0 y1 y2) (isoglossref04_Split.l0 (k + 1) y0 y1 y2))
 | 0 => fun _ _ _ r h => by simp [isoglossref04_Split.l0] at h
 | k + 1 => by
  have ih0 := isoglossref04_Split.mono_l k
  ·intro y0 y1 y2
   unfold isoglossref04_Split.l0
   repeat' first
   | (with_reducible exact ih0 _ _ _)
   | (with_reducible exact isoglossref04_Each.mono _ _)
   | (with_reducible exact LeO.refl _)
   | (with_reducible exact LeO.none _)
   | (with_reducible refine LeO.ite ?_ ?_)
   | (with_reducible refine LeO.bind ?_ (fun _ => ?_))
   | exact ih0 _ _ _
   | exact isoglossref04_Each.mono _ _
   | exact LeO.none _
   | refine LeO.ite ?_ ?_
   | refine LeO.bind ?_ (fun _ => ?_)
theorem isoglossref04_Split.mono : ∀ a0 k, LeO (isoglossref04_Split.f k a0) (isoglossref04_Split.f (k + 1) a0) := by
 intro a0 k
 have ih0 := isoglossref04_Split.mono_l k
 unfold isoglossref04_Split.f
 repeat' first
   | (with_reducible exact ih0 _ _ _)
   | (with_reducible exact isoglossref04_Each.mono _ _)
   | (with_reducible exact LeO.refl _)
   | (with_reducible exact LeO.none _)
   | (with_reducible refine LeO.ite ?_ ?_)
   | (with_reducible refine LeO.bind ?_ (fun _ => ?_))
   | exact ih0 _ _ _
   | exact isoglossref04_Each.mono _ _
   | exact LeO.none _
   | refine LeO.ite ?_ ?_
   | refine LeO.bind ?_ (fun _ => ?_)
set_option maxHeartbeats 8000000 in
set_option maxRecDepth 100000 in
theorem isoglossref04_Split.calls (k : Nat) (a0 : ByteArray) (r : List ByteArray) (w : World) (h : isoglossref04_Split.f k a0 = some r) :
  Calls Try.prog 21 #[.string a0] w fun e w' => ∃ v0_ : Value, e = .returned (v0_) ∧ Kd.R Kd.string 9 w' w.heap.size (fun _ => True) v0_ r ∧ Below w.heap.size w w' := by
 have HB := Aside0.mk (Below.refl w.heap.size w)
 have H : ((isoglossref04_Each.f k a0).bind fun t140 => (isoglossref04_Split.l0 k ([] : List ByteArray) t140 0)) = some r := h
 clear h
 replace H := Option.bind_eq_some_iff.mp H
 obtain ⟨t140, A20, H⟩ := H
 replace H : (isoglossref04_Split.l0 k ([] : List ByteArray) t140 0) = some r := H
 have A2 := Aside0.mk A20
 clear A20
 have H' := Aside0.mk H
 clear H
 go_enter Try.func21, Try.ntmps21
 go_wp2_with (first | ((with_reducible refine gate_callee (f := 33) rfl ?_); refine goesL_ (some 7) rfl rfl Try.func33 (by kernel_rfl) rfl #[.string a0] rfl (by (try simp only [List.map_toArray, List.map_cons, List.map_nil]); first | done | rfl | (simp only [List.length_drop, List.length_take]; rfl)) ?_; (with_reducible refine (isoglossref04_Each.calls k a0 t140 _ A2.out).mono ?_); rintro e w3 ⟨v141, rfl, ho0, hb⟩; refine ⟨_, rfl, ?_⟩; have n0_ := Aside0.mk (Kd.R_lower ho0 (below_size (by repeat (first | (with_reducible first | exact HB.out | apply below_alloc | apply pw_below_drewN | apply below_drew1) | exact HB.out)))); have n1_ := Aside0.mk (below_step (by repeat (first | (with_reducible first | exact HB.out | apply below_alloc | apply pw_below_drewN | apply below_drew1) | exact HB.out)) hb); clear HB; have HO142 := n0_; have HB := n1_; clear n0_ n1_; (try clear hb); (try clear hb2); (try clear hk); (try clear hi); (try clear ho0)))
 go_loopg [3, 5] k (fun kq v3 v5 w' => ∃ (x3_1 : List ByteArray) (x5_1 : Int), v5 = .int .i64 x5_1 ∧ Aside0 (isoglossref04_Split.l0 kq x3_1 t140 x5_1 = some r) ∧ Aside0 (kq ≤ k) ∧ Aside0 (Kd.R Kd.string 9 w' w.heap.size (fun _ => True) v3 x3_1) ∧ Aside0 (Kd.R k54 54 w' w.heap.size (fun _ => True) v141 t140) ∧ Aside0 (Below w.heap.size w w'))
 case atStart => exact ⟨(([] : List ByteArray)), (0), (by first | rfl | (simp; done) | (simp [*]; done)), H', ⟨Nat.le_refl _⟩, ⟨by first | exact Kd.R_nil _ _ _ _ _ | exact Kd.N_nil _ _ _ _ _ | exact Kd.V_nil _ _ _ _ _ | exact Kd.Q_nil _ _ _ _ _ | exact Kd.S_nil _ _ _ _ _⟩, ⟨by (with_reducible repeat (first | apply Kd.R_alloc | apply Kd.R_drewN | apply Kd.R_drew)); exact HO142.out⟩, ⟨by repeat (first | (with_reducible first | exact HB.out | apply below_alloc | apply pw_below_drewN | apply below_drew1) | exact HB.out)⟩⟩
 case round =>
  clear H'
  try clear c2
  try clear p2
  try clear c3
  obtain ⟨x3_1, x5_1, rfl, HA, HK1, HO_3, HO_4, HB⟩ := hrel
  cases gk with
  | zero => exact absurd HA.out (by simp [isoglossref04_Split.l0])
  | succ k1 =>
   have H := HA.out
   clear HA
   simp only [isoglossref04_Split.l0] at H
   by_cases c4 : x5_1 < (t140.length : Int)
   ·rw [if_pos c4] at H
    have c4b0 : decide (x5_1 < (t140.length : Int)) = true := decide_eq_true c4
    clear c4
    by_cases c5 : 0 ≤ x5_1
    ·rw [if_pos c5] at H
     have c5b0 : decide (0 ≤ x5_1) = true := decide_eq_true c5
     clear c5
     by_cases c6 : x3_1.length < 8796093022208
     ·rw [if_pos c6] at H
      have LMc6 := Aside0.mk c6
      clear c6
      obtain ⟨y144, hy144⟩ : ∃ y_ : List ByteArray, y_ = (x3_1 ++ [(rd_T54 t140 x5_1).f1]) := ⟨_, rfl⟩
      replace H : (isoglossref04_Split.l0 k1 y144 t140 (wrap64 (x5_1 + 1))) = some r := by first | (rw [hy144]; with_reducible exact H) | (have H2_ := (Option.bind_some _ _).symm.trans H; rw [hy144]; with_reducible exact H2_) | (have H2_ := (Option.bind_some _ _).symm.trans H; with_reducible exact H2_) | with_reducible exact H | (rw [hy144]; exact H) | exact H
      have Ny144 := Aside0.mk hy144
      clear hy144
      have H' := Aside0.mk H
      clear H
      obtain ⟨Ao7, co7, eo7⟩ := Kd.R_slice HO_4.out
      subst eo7
      have p143 : 0 ≤ (x5_1 : Int) := of_decide_eq_true (by first | (with_reducible assumption) | assumption)
      have q143 : x5_1 < (t140.length : Int) := of_decide_eq_true (by first | (with_reducible assumption) | assumption)
      obtain ⟨ad143, e143, hx143_0, hx143_1⟩ := at_T54 (Kd.R_reads' HO_4.out).2.2 x5_1 p143 q143
      cases e143
      replace p143 := eq_true p143
      replace q143 := eq_true q143
      go_wp2_with (first | ((with_reducible refine gate_builtin (b := .append) (xs := #[.tmp 14, .tmp 20]) rfl ?_); at_builtin; refine Kd.R_append Kd.string (w0 := w) w.heap.size rfl (.tmp 14) (.tmp 20) 24 9 (.string ⟨#[]⟩) 16 rfl Try.underlying24 info9 rfl (by decide) (by omega) u3 x3_1 ((rd_T54 t140 x5_1).f1) [.string ((rd_T54 t140 x5_1).f1)] (fun _ => True) (fun _ => False) rfl rfl ?aP (fun _ hk => hk.elim) ?aF ?aO ?aB ?aS ?aL ?_; (case aP => exact rfl); (case aB => exact (by repeat (first | (with_reducible first | exact HB.out | apply below_alloc | apply pw_below_drewN | apply below_drew1) | exact HB.out))); (case aF => exact (fun _ _ => trivial)); (case aO => exact (by (with_reducible repeat (first | apply Kd.R_alloc | apply Kd.R_drewN | apply Kd.R_drew)); exact HO_3.out)); (case aS => exact (below_size (by repeat (first | (with_reducible first | exact HB.out | apply below_alloc | apply pw_below_drewN | apply below_drew1) | exact HB.out)))); (case aL => have := LMc6.out; omega); intro v145 w8 ho hb hg hat; rw [← Ny144.out] at ho; have n0_ := Aside0.mk (Kd.R_over' (by (with_reducible repeat (first | apply Kd.R_alloc | apply Kd.R_drewN | apply Kd.R_drew)); exact HO_4.out) (Kd.R_typed (by (with_reducible repeat (first | apply Kd.R_alloc | apply Kd.R_drewN | apply Kd.R_drew)); exact HO_3.out)) (by decide) hg); have n1_ := Aside0.mk (hb); have n2_ := Aside0.mk (ho); clear HO_4; clear HB; clear HO_3; have HO_4 := n0_; have HB := n1_; have HO146 := n2_; clear n0_ n1_ n2_; clear ho hb hg hat))
      go_roundg k1
      case measure => have := HK1.out; omega
      case rel => exact ⟨(y144), (wrap64 (x5_1 + 1)), (by first | rfl | (simp; done) | (simp [*]; done)), H', ⟨by have := HK1.out; omega⟩, ⟨by (with_reducible repeat (first | apply Kd.R_alloc | apply Kd.R_drewN | apply Kd.R_drew)); exact HO146.out⟩, ⟨by (with_reducible repeat (first | apply Kd.R_alloc | apply Kd.R_drewN | apply Kd.R_drew)); exact HO_4.out⟩, ⟨by repeat (first | (with_reducible first | exact HB.out | apply below_alloc | apply pw_below_drewN | apply below_drew1) | exact HB.out)⟩⟩
     ·rw [if_neg c6] at H
      exact absurd H (by simp)
    ·rw [if_neg c5] at H
     exact absurd H (by simp)
   ·rw [if_neg c4] at H
    have c4b0 : decide (x5_1 < (t140.length : Int)) = false := decide_eq_false c4
    clear c4
    obtain rfl := Option.some.inj H
    obtain ⟨Ao9, co9, eo9⟩ := Kd.R_slice HO_4.out
    subst eo9
    go_wp2
    go_ret
    exact ⟨_, by first | rfl | (simp [errW_none, errW_some] <;> rfl) | (simp [*, errW_none, errW_some] <;> rfl), by (with_reducible repeat (first | apply Kd.R_alloc | apply Kd.R_drewN | apply Kd.R_drew)); exact HO_3.out, by repeat (first | (with_reducible first | exact HB.out | apply below_alloc | apply pw_below_drewN | apply below_drew1) | exact HB.out)⟩

/-! ### isoglossref04_Join: function 22 -/
def isoglossref04_Join.l0 : Nat → List ByteArray → ByteArray → Int → Option (ByteArray)
 | 0, _, _, _ => none
 | k + 1, x0, x3, x4 => if x4 < (x0.length : Int) then (if x4 > 0 then (if x3.size + 1 ≤ 9223372036854775807 then (if 0 ≤ x4 then (if (x3 ++ (⟨#[45]⟩ : ByteArray)).size + (rdOf ByteArray.empty x0 x4).size ≤ 9223372036854775807 then (isoglossref04_Join.l0 k x0 ((x3 ++ (⟨#[45]⟩ : ByteArray)) ++ (rdOf ByteArray.empty x0 x4)) (wrap64 (x4 + 1))) else (none)) else (none)) else (none)) else (if 0 ≤ x4 then (if x3.size + (rdOf ByteArray.empty x0 x4).size ≤ 9223372036854775807 then (isoglossref04_Join.l0 k x0 (x3 ++ (rdOf ByteArray.empty x0 x4)) (wrap64 (x4 + 1))) else (none)) else (none))) else (some x3)
def isoglossref04_Join.f (k : Nat) (l0 : List ByteArray) : Option (ByteArray) := isoglossref04_Join.l0 k l0 (⟨#[]⟩ : ByteArray) 0
theorem isoglossref04_Join.mono_l : ∀ k, (∀ y0 y1 y2, LeO (isoglossref04_Join.l0 k y0 y1 y2) (isoglossref04_Join.l0 (k + 1) y0 y1 y2))
 | 0 => fun _ _ _ r h => by simp [isoglossref04_Join.l0] at h
 | k + 1 => by
  have ih0 := isoglossref04_Join.mono_l k
  ·intro y0 y1 y2
   unfold isoglossref04_Join.l0
   repeat' first
   | (with_reducible exact ih0 _ _ _)
   | (with_reducible exact LeO.refl _)
   | (with_reducible exact LeO.none _)
   | (with_reducible refine LeO.ite ?_ ?_)
   | (with_reducible refine LeO.bind ?_ (fun _ => ?_))
   | exact ih0 _ _ _
   | exact LeO.none _
   | refine LeO.ite ?_ ?_
   | refine LeO.bind ?_ (fun _ => ?_)
theorem isoglossref04_Join.mono : ∀ a0 k, LeO (isoglossref04_Join.f k a0) (isoglossref04_Join.f (k + 1) a0) := by
 intro a0 k
 have ih0 := isoglossref04_Join.mono_l k
 unfold isoglossref04_Join.f
 repeat' first
   | (with_reducible exact ih0 _ _ _)
   | (with_reducible exact LeO.refl _)
   | (with_reducible exact LeO.none _)
   | (with_reducible refine LeO.ite ?_ ?_)
   | (with_reducible refine LeO.bind ?_ (fun _ => ?_))
   | exact ih0 _ _ _
   | exact LeO.none _
   | refine LeO.ite ?_ ?_
   | refine LeO.bind ?_ (fun _ => ?_)
set_option maxHeartbeats 8000000 in
set_option maxRecDepth 100000 in
theorem isoglossref04_Join.calls (k : Nat) (A0 : Option Addr) (c0 : Nat) (l0 : List ByteArray) (r : ByteArray) (w : World) (hr0 : Kd.C Kd.string w A0 l0.length l0) (hc0 : l0.length ≤ c0) (h : isoglossref04_Join.f k l0 = some r) :
  Calls Try.prog 22 #[.slice A0 l0.length c0] w fun e w' => e = .returned (.string r) ∧ Drawn0 w w' := by
 have HR0 := Aside0.mk hr0
 have HC0 := Aside0.mk hc0
 clear hr0 hc0
 have H : (isoglossref04_Join.l0 k l0 (⟨#[]⟩ : ByteArray) 0) = some r := h
 clear h
 have H' := Aside0.mk H
 clear H
 go_enter Try.func22, Try.ntmps22
 go_wp2
 go_loopg [3, 4] k (fun kq v3 v4 w' => ∃ (x3_1 : ByteArray) (x4_1 : Int), v3 = .string x3_1 ∧ v4 = .int .i64 x4_1 ∧ Aside0 (isoglossref04_Join.l0 kq l0 x3_1 x4_1 = some r) ∧ Aside0 (kq ≤ k) ∧ Drawn0 w w')
 case atStart => exact ⟨((⟨#[]⟩ : ByteArray)), (0), (by first | rfl | (simp; done) | (simp [*]; done)), (by first | rfl | (simp; done) | (simp [*]; done)), H', ⟨Nat.le_refl _⟩, by repeat (first | exact Drawn0.refl _ | apply Drawn0.step)⟩
 case round =>
  clear H'
  obtain ⟨x3_1, x4_1, rfl, rfl, HA, HK1, ⟨m1, rfl⟩⟩ := hrel
  cases gk with
  | zero => exact absurd HA.out (by simp [isoglossref04_Join.l0])
  | succ k1 =>
   have H := HA.out
   clear HA
   simp only [isoglossref04_Join.l0] at H
   by_cases c2 : x4_1 < (l0.length : Int)
   ·rw [if_pos c2] at H
    have c2b0 : decide (x4_1 < (l0.length : Int)) = true := decide_eq_true c2
    clear c2
    by_cases c3 : x4_1 > 0
    ·rw [if_pos c3] at H
     have c3b0 : decide (0 < x4_1) = true := decide_eq_true c3
     clear c3
     by_cases c4 : x3_1.size + 1 ≤ 9223372036854775807
     ·rw [if_pos c4] at H
      have c4b0 := eq_true c4
      have c4b1 : decide (x3_1.size + 1 ≤ 9223372036854775807) = true := decide_eq_true c4
      try have c4b2 : (9223372036854775807 < x3_1.size + 1) = False := eq_false (Nat.not_lt.2 c4)
      by_cases c5 : 0 ≤ x4_1
      ·rw [if_pos c5] at H
       have c5b0 : decide (0 ≤ x4_1) = true := decide_eq_true c5
       clear c5
       by_cases c6 : (x3_1 ++ (⟨#[45]⟩ : ByteArray)).size + (rdOf ByteArray.empty l0 x4_1).size ≤ 9223372036854775807
       ·rw [if_pos c6] at H
        have c6b0 := eq_true c6
        have c6b1 : decide ((x3_1 ++ (⟨#[45]⟩ : ByteArray)).size + (rdOf ByteArray.empty l0 x4_1).size ≤ 9223372036854775807) = true := decide_eq_true c6
        try have c6b2 : (9223372036854775807 < (x3_1 ++ (⟨#[45]⟩ : ByteArray)).size + (rdOf ByteArray.empty l0 x4_1).size) = False := eq_false (Nat.not_lt.2 c6)
        (try (have c6b3 := c6b2; simp only [ByteArray.size_append, show (⟨#[45]⟩ : ByteArray).size = 1 from rfl] at c6b3))
        have H' := Aside0.mk H
        clear H
        have p147 : 0 ≤ (x4_1 : Int) := of_decide_eq_true (by first | (with_reducible assumption) | assumption)
        have q147 : x4_1 < (l0.length : Int) := of_decide_eq_true (by first | (with_reducible assumption) | assumption)
        obtain ⟨ad147, e147, hx147_0⟩ := Kd.at_string HR0.out x4_1 p147 q147
        cases e147
        replace p147 := eq_true p147
        replace q147 := eq_true q147
        go_wp2
        go_roundg k1
        case measure => have := HK1.out; omega
        case rel => exact ⟨((x3_1 ++ (⟨#[45]⟩ : ByteArray)) ++ (rdOf ByteArray.empty l0 x4_1)), (wrap64 (x4_1 + 1)), (by first | rfl | (simp; done) | (simp [*]; done)), (by first | rfl | (simp; done) | (simp [*]; done)), H', ⟨by have := HK1.out; omega⟩, by repeat (first | exact Drawn0.refl _ | apply Drawn0.step)⟩
       ·rw [if_neg c6] at H
        exact absurd H (by simp)
      ·rw [if_neg c5] at H
       exact absurd H (by simp)
     ·rw [if_neg c4] at H
      exact absurd H (by simp)
    ·rw [if_neg c3] at H
     have c3b0 : decide (0 < x4_1) = false := decide_eq_false c3
     clear c3
     by_cases c7 : 0 ≤ x4_1
     ·rw [if_pos c7] at H
      have c7b0 : decide (0 ≤ x4_1) = true := decide_eq_true c7
      clear c7
      by_cases c8 : x3_1.size + (rdOf ByteArray.empty l0 x4_1).size ≤ 9223372036854775807
      ·rw [if_pos c8] at H
       have c8b0 := eq_true c8
       have c8b1 : decide (x3_1.size + (rdOf ByteArray.empty l0 x4_1).size ≤ 9223372036854775807) = true := decide_eq_true c8
       try have c8b2 : (9223372036854775807 < x3_1.size + (rdOf ByteArray.empty l0 x4_1).size) = False := eq_false (Nat.not_lt.2 c8)
       have H' := Aside0.mk H
       clear H
       have p148 : 0 ≤ (x4_1 : Int) := of_decide_eq_true (by first | (with_reducible assumption) | assumption)
       have q148 : x4_1 < (l0.length : Int) := of_decide_eq_true (by first | (with_reducible assumption) | assumption)
       obtain ⟨ad148, e148, hx148_0⟩ := Kd.at_string HR0.out x4_1 p148 q148
       cases e148
       replace p148 := eq_true p148
       replace q148 := eq_true q148
       go_wp2
       go_roundg k1
       case measure => have := HK1.out; omega
       case rel => exact ⟨(x3_1 ++ (rdOf ByteArray.empty l0 x4_1)), (wrap64 (x4_1 + 1)), (by first | rfl | (simp; done) | (simp [*]; done)), (by first | rfl | (simp; done) | (simp [*]; done)), H', ⟨by have := HK1.out; omega⟩, by repeat (first | exact Drawn0.refl _ | apply Drawn0.step)⟩
      ·rw [if_neg c8] at H
       exact absurd H (by simp)
     ·rw [if_neg c7] at H
      exact absurd H (by simp)
   ·rw [if_neg c2] at H
    have c2b0 : decide (x4_1 < (l0.length : Int)) = false := decide_eq_false c2
    clear c2
    obtain rfl := Option.some.inj H
    go_wp2
    go_ret
    exact ⟨by first | rfl | (simp; done) | (simp [*]; done), by repeat (first | exact Drawn0.refl _ | apply Drawn0.step)⟩

/-! ### isoglossref04_Trim: function 23 -/
def isoglossref04_Trim.l0 : Nat → List ByteArray → Option (ByteArray)
 | 0, _ => none
 | k + 1, x3 => if (x3.length : Int) > 1 then (if 0 ≤ (wrap64 ((x3.length : Int) - 1)) then (if (wrap64 ((x3.length : Int) - 1)) < (x3.length : Int) then (if ((rdOf ByteArray.empty x3 (wrap64 ((x3.length : Int) - 1))).size : Int) = 1 then (if (wrap64 ((x3.length : Int) - 1)) ≤ (x3.length : Int) then (isoglossref04_Trim.l0 k (x3.take ((wrap64 ((x3.length : Int) - 1)) : Int).toNat)) else (none)) else ((isoglossref04_Join.f k x3).bind fun t159 => (some t159))) else (none)) else (none)) else ((isoglossref04_Join.f k x3).bind fun t160 => (some t160))
def isoglossref04_Trim.f (k : Nat) (a0 : ByteArray) : Option (ByteArray) := (isoglossref04_Split.f k a0).bind fun t149 => (if 0 ≤ (wrap64 ((t149.length : Int) - 1)) then (if (wrap64 ((t149.length : Int) - 1)) ≤ (t149.length : Int) then (isoglossref04_Trim.l0 k (t149.take ((wrap64 ((t149.length : Int) - 1)) : Int).toNat)) else (none)) else (none))
theorem isoglossref04_Trim.mono_l : ∀ k, (∀ y0, LeO (isoglossref04_Trim.l0 k y0) (isoglossref04_Trim.l0 (k + 1) y0))
 | 0 => fun _ r h => by simp [isoglossref04_Trim.l0] at h
 | k + 1 => by
  have ih0 := isoglossref04_Trim.mono_l k
  ·intro y0
   unfold isoglossref04_Trim.l0
   repeat' first
   | (with_reducible exact ih0 _)
   | (with_reducible exact isoglossref04_Join.mono _ _)
   | (with_reducible exact isoglossref04_Split.mono _ _)
   | (with_reducible exact LeO.refl _)
   | (with_reducible exact LeO.none _)
   | (with_reducible refine LeO.ite ?_ ?_)
   | (with_reducible refine LeO.bind ?_ (fun _ => ?_))
   | exact ih0 _
   | exact isoglossref04_Join.mono _ _
   | exact isoglossref04_Split.mono _ _
   | exact LeO.none _
   | refine LeO.ite ?_ ?_
   | refine LeO.bind ?_ (fun _ => ?_)
theorem isoglossref04_Trim.mono : ∀ a0 k, LeO (isoglossref04_Trim.f k a0) (isoglossref04_Trim.f (k + 1) a0) := by
 intro a0 k
 have ih0 := isoglossref04_Trim.mono_l k
 unfold isoglossref04_Trim.f
 repeat' first
   | (with_reducible exact ih0 _)
   | (with_reducible exact isoglossref04_Join.mono _ _)
   | (with_reducible exact isoglossref04_Split.mono _ _)
   | (with_reducible exact LeO.refl _)
   | (with_reducible exact LeO.none _)
   | (with_reducible refine LeO.ite ?_ ?_)
   | (with_reducible refine LeO.bind ?_ (fun _ => ?_))
   | exact ih0 _
   | exact isoglossref04_Join.mono _ _
   | exact isoglossref04_Split.mono _ _
   | exact LeO.none _
   | refine LeO.ite ?_ ?_
   | refine LeO.bind ?_ (fun _ => ?_)
set_option maxHeartbeats 8000000 in
set_option maxRecDepth 100000 in
theorem isoglossref04_Trim.calls (k : Nat) (a0 : ByteArray) (r : ByteArray) (w : World) (h : isoglossref04_Trim.f k a0 = some r) :
  Calls Try.prog 23 #[.string a0] w fun e w' => e = .returned (.string r) ∧ Below w.heap.size w w' := by
 have HB := Aside0.mk (Below.refl w.heap.size w)
 have H : ((isoglossref04_Split.f k a0).bind fun t149 => (if 0 ≤ (wrap64 ((t149.length : Int) - 1)) then (if (wrap64 ((t149.length : Int) - 1)) ≤ (t149.length : Int) then (isoglossref04_Trim.l0 k (t149.take ((wrap64 ((t149.length : Int) - 1)) : Int).toNat)) else (none)) else (none))) = some r := h
 clear h
 replace H := Option.bind_eq_some_iff.mp H
 obtain ⟨t149, A20, H⟩ := H
 replace H : (if 0 ≤ (wrap64 ((t149.length : Int) - 1)) then (if (wrap64 ((t149.length : Int) - 1)) ≤ (t149.length : Int) then (isoglossref04_Trim.l0 k (t149.take ((wrap64 ((t149.length : Int) - 1)) : Int).toNat)) else (none)) else (none)) = some r := H
 have A2 := Aside0.mk A20
 clear A20
 obtain ⟨ji3, hji3⟩ : ∃ j_ : Int, (wrap64 ((t149.length : Int) - 1)) = j_ := ⟨_, rfl⟩
 replace H : (if 0 ≤ (ji3) then (if (ji3) ≤ (t149.length : Int) then (isoglossref04_Trim.l0 k (t149.take ((ji3) : Int).toNat)) else (none)) else (none)) = some r := by first | (rw [hji3] at H; exact H) | (simp only [hji3] at H ⊢; exact H)
 (try rw [hji3] at A2)
 have hji3w : (IntKind.i64.wrap ((t149.length : Int) - 1)) = ji3 := (i64_w _).trans hji3
 by_cases c4 : 0 ≤ (ji3)
 ·rw [if_pos c4] at H
  have c4b0 := eq_true c4
  have c4b1 : decide (0 ≤ (ji3)) = true := decide_eq_true c4
  clear c4
  by_cases c5 : (ji3) ≤ (t149.length : Int)
  ·rw [if_pos c5] at H
   have c5b0 := eq_true c5
   have c5b1 : decide ((ji3) ≤ (t149.length : Int)) = true := decide_eq_true c5
   clear c5
   obtain ⟨y152, hy152⟩ : ∃ y_ : List ByteArray, y_ = (t149.take ((ji3) : Int).toNat) := ⟨_, rfl⟩
   replace H : (isoglossref04_Trim.l0 k y152) = some r := by first | (rw [hy152]; with_reducible exact H) | (have H2_ := (Option.bind_some _ _).symm.trans H; rw [hy152]; with_reducible exact H2_) | (have H2_ := (Option.bind_some _ _).symm.trans H; with_reducible exact H2_) | with_reducible exact H | (rw [hy152]; exact H) | exact H
   have Ny152 := Aside0.mk hy152
   clear hy152
   have H' := Aside0.mk H
   clear H
   go_enter Try.func23, Try.ntmps23
   go_wp2_with (first | ((with_reducible refine gate_callee (f := 21) rfl ?_); refine goesL_ (some 5) rfl rfl Try.func21 (by kernel_rfl) rfl #[.string a0] rfl (by (try simp only [List.map_toArray, List.map_cons, List.map_nil]); first | done | rfl | (simp only [List.length_drop, List.length_take]; rfl)) ?_; (with_reducible refine (isoglossref04_Split.calls k a0 t149 _ A2.out).mono ?_); rintro e w6 ⟨v150, rfl, ho0, hb⟩; refine ⟨_, rfl, ?_⟩; have n0_ := Aside0.mk (Kd.R_lower ho0 (below_size (by repeat (first | (with_reducible first | exact HB.out | apply below_alloc | apply pw_below_drewN | apply below_drew1) | exact HB.out)))); have n1_ := Aside0.mk (below_step (by repeat (first | (with_reducible first | exact HB.out | apply below_alloc | apply pw_below_drewN | apply below_drew1) | exact HB.out)) hb); clear HB; have HO151 := n0_; have HB := n1_; clear n0_ n1_; (try clear hb); (try clear hb2); (try clear hk); (try clear hi); (try clear ho0); obtain ⟨Ao7, co7, eo7⟩ := Kd.R_slice HO151.out; subst eo7; have q8 : ((ji3) : Int) ≤ ((t149.length : Int) : Int) := of_decide_eq_true (by first | (with_reducible assumption) | assumption); obtain ⟨i08, hi08, _, hsz8, _⟩ := info_parts info9; have hcut8 := cut_to (P := Try.prog) 24 9 .i64 Try.underlying24 hi08 Ao7 t149.length co7 (ji3) (of_decide_eq_true (by first | (with_reducible assumption) | assumption)) q8 (Kd.R_reads' HO151.out).2.1; have hr8 := Kd.R_take (m := ((ji3) : Int).toNat) HO151.out (by omega); have hy8 : y152.length = ((ji3) : Int).toNat := (by rw [Ny152.out, List.length_take]; omega); rw [← Ny152.out] at hr8; rw [← hy8] at hr8 hcut8; clear hy8 hi08 hsz8 HO151; have HO154 := Aside0.mk hr8; clear hr8; replace q8 := eq_true q8))
   go_loopg [3] k (fun kq v3 w' => ∃ (x3_1 : List ByteArray), Aside0 (isoglossref04_Trim.l0 kq x3_1 = some r) ∧ Aside0 (kq ≤ k) ∧ Aside0 (Kd.R Kd.string 9 w' w.heap.size (fun _ => True) v3 x3_1) ∧ Aside0 (Below w.heap.size w w'))
   case atStart => exact ⟨(y152), H', ⟨Nat.le_refl _⟩, ⟨by (with_reducible repeat (first | apply Kd.R_alloc | apply Kd.R_drewN | apply Kd.R_drew)); exact HO154.out⟩, ⟨by repeat (first | (with_reducible first | exact HB.out | apply below_alloc | apply pw_below_drewN | apply below_drew1) | exact HB.out)⟩⟩
   case round =>
    clear H'
    try clear c2
    try clear p2
    try clear c4
    try clear c4b0
    try clear c4b1
    try clear c5
    try clear c5b0
    try clear c5b1
    try clear p6
    try clear q8
    try clear q8
    obtain ⟨x3_1, HA, HK1, HO_3, HB⟩ := hrel
    cases gk with
    | zero => exact absurd HA.out (by simp [isoglossref04_Trim.l0])
    | succ k1 =>
     have H := HA.out
     clear HA
     simp only [isoglossref04_Trim.l0] at H
     by_cases c9 : (x3_1.length : Int) > 1
     ·rw [if_pos c9] at H
      have c9b0 : decide (1 < (x3_1.length : Int)) = true := decide_eq_true c9
      have c9b1 : decide (1 < x3_1.length) = true := decide_eq_true (by omega)
      clear c9
      obtain ⟨ji10, hji10⟩ : ∃ j_ : Int, (wrap64 ((x3_1.length : Int) - 1)) = j_ := ⟨_, rfl⟩
      replace H : (if 0 ≤ (ji10) then (if (ji10) < (x3_1.length : Int) then (if ((rdOf ByteArray.empty x3_1 (ji10)).size : Int) = 1 then (if (ji10) ≤ (x3_1.length : Int) then (isoglossref04_Trim.l0 k1 (x3_1.take ((ji10) : Int).toNat)) else (none)) else ((isoglossref04_Join.f k1 x3_1).bind fun t159 => (some t159))) else (none)) else (none)) = some r := by first | (rw [hji10] at H; exact H) | (simp only [hji10] at H ⊢; exact H)
      have hji10w : (IntKind.i64.wrap ((x3_1.length : Int) - 1)) = ji10 := (i64_w _).trans hji10
      by_cases c11 : 0 ≤ (ji10)
      ·rw [if_pos c11] at H
       have c11b0 : decide (0 ≤ (ji10)) = true := decide_eq_true c11
       clear c11
       by_cases c12 : (ji10) < (x3_1.length : Int)
       ·rw [if_pos c12] at H
        have c12b0 : decide ((ji10) < (x3_1.length : Int)) = true := decide_eq_true c12
        clear c12
        by_cases c13 : ((rdOf ByteArray.empty x3_1 (ji10)).size : Int) = 1
        ·rw [if_pos c13] at H
         have c13b0 : (((rdOf ByteArray.empty x3_1 (ji10)).size : Int) == 1) = true := beq_iff_eq.mpr c13
         have c13b1 : (((rdOf ByteArray.empty x3_1 (ji10)).size : Int) != 1) = false := bne_eq_false_iff_eq.mpr c13
         clear c13
         by_cases c14 : (ji10) ≤ (x3_1.length : Int)
         ·rw [if_pos c14] at H
          have c14b0 := eq_true c14
          have c14b1 : decide ((ji10) ≤ (x3_1.length : Int)) = true := decide_eq_true c14
          clear c14
          obtain ⟨y156, hy156⟩ : ∃ y_ : List ByteArray, y_ = (x3_1.take ((ji10) : Int).toNat) := ⟨_, rfl⟩
          replace H : (isoglossref04_Trim.l0 k1 y156) = some r := by first | (rw [hy156]; with_reducible exact H) | (have H2_ := (Option.bind_some _ _).symm.trans H; rw [hy156]; with_reducible exact H2_) | (have H2_ := (Option.bind_some _ _).symm.trans H; with_reducible exact H2_) | with_reducible exact H | (rw [hy156]; exact H) | exact H
          have Ny156 := Aside0.mk hy156
          clear hy156
          have H' := Aside0.mk H
          clear H
          obtain ⟨Ao15, co15, eo15⟩ := Kd.R_slice HO_3.out
          subst eo15
          have p155 : 0 ≤ ((ji10) : Int) := of_decide_eq_true (by first | (with_reducible assumption) | assumption)
          have q155 : (ji10) < (x3_1.length : Int) := of_decide_eq_true (by first | (with_reducible assumption) | assumption)
          obtain ⟨ad155, e155, hx155_0⟩ := Kd.at_string (Kd.R_reads' HO_3.out).2.2 (ji10) p155 q155
          cases e155
          replace p155 := eq_true p155
          replace q155 := eq_true q155
          have q16 : ((ji10) : Int) ≤ ((x3_1.length : Int) : Int) := of_decide_eq_true (by first | (with_reducible assumption) | assumption)
          obtain ⟨i016, hi016, _, hsz16, _⟩ := info_parts info9
          have hcut16 := cut_to (P := Try.prog) 24 9 .i64 Try.underlying24 hi016 (some ad155) x3_1.length co15 (ji10) (of_decide_eq_true (by first | (with_reducible assumption) | assumption)) q16 (Kd.R_reads' HO_3.out).2.1
          have hr16 := Kd.R_take (m := ((ji10) : Int).toNat) HO_3.out (by omega)
          have hy16 : y156.length = ((ji10) : Int).toNat := (by rw [Ny156.out, List.length_take]; omega)
          rw [← Ny156.out] at hr16
          rw [← hy16] at hr16 hcut16
          clear hy16 hi016 hsz16 HO_3
          have HO158 := Aside0.mk hr16
          clear hr16
          replace q16 := eq_true q16
          go_wp2
          go_roundg k1
          case measure => have := HK1.out; omega
          case rel => exact ⟨(y156), H', ⟨by have := HK1.out; omega⟩, ⟨by (with_reducible repeat (first | apply Kd.R_alloc | apply Kd.R_drewN | apply Kd.R_drew)); exact HO158.out⟩, ⟨by repeat (first | (with_reducible first | exact HB.out | apply below_alloc | apply pw_below_drewN | apply below_drew1) | exact HB.out)⟩⟩
         ·rw [if_neg c14] at H
          exact absurd H (by simp)
        ·rw [if_neg c13] at H
         have c13b0 : (((rdOf ByteArray.empty x3_1 (ji10)).size : Int) == 1) = false := beq_eq_false_iff_ne.mpr c13
         have c13b1 : (((rdOf ByteArray.empty x3_1 (ji10)).size : Int) != 1) = true := bne_iff_ne.mpr c13
         replace H := Option.bind_eq_some_iff.mp H
         obtain ⟨t159, A170, H⟩ := H
         replace H : (some t159) = some r := H
         have A17 := Aside0.mk A170
         clear A170
         obtain rfl := Option.some.inj H
         obtain ⟨Ao18, co18, eo18⟩ := Kd.R_slice HO_3.out
         subst eo18
         have p155 : 0 ≤ ((ji10) : Int) := of_decide_eq_true (by first | (with_reducible assumption) | assumption)
         have q155 : (ji10) < (x3_1.length : Int) := of_decide_eq_true (by first | (with_reducible assumption) | assumption)
         obtain ⟨ad155, e155, hx155_0⟩ := Kd.at_string (Kd.R_reads' HO_3.out).2.2 (ji10) p155 q155
         cases e155
         replace p155 := eq_true p155
         replace q155 := eq_true q155
         go_wp2_with (first | ((with_reducible refine gate_callee (f := 22) rfl ?_); refine goesL_ (some 30) rfl rfl Try.func22 (by kernel_rfl) rfl #[.slice (some ad155) x3_1.length co18] rfl (by (try simp only [List.map_toArray, List.map_cons, List.map_nil]); first | done | rfl | (simp only [List.length_drop, List.length_take]; rfl)) ?_; (with_reducible refine (isoglossref04_Join.calls k1 _ _ x3_1 t159 _ ?side1 ?side2 A17.out).mono ?_); (case side1 => repeat (first | exact (Kd.R_reads' HO_3.out).2.2 | (with_reducible refine Kd.C_alloc ?_ _) | (with_reducible refine Kd.C_drewN ?_ _) | (with_reducible refine Kd.C_drew ?_))); (case side2 => exact (Kd.R_reads' HO_3.out).2.1); rintro e w' ⟨rfl, ⟨nd, rfl⟩⟩; refine ⟨_, rfl, ?_⟩))
         go_ret
         exact ⟨by first | rfl | (simp [errW_none, errW_some] <;> rfl) | (simp only [← hji3, ← hji10]; first | rfl | (simp [errW_none, errW_some] <;> rfl)) | (simp [*, errW_none, errW_some] <;> rfl), by repeat (first | (with_reducible first | exact HB.out | apply below_alloc | apply pw_below_drewN | apply below_drew1) | exact HB.out)⟩
       ·rw [if_neg c12] at H
        exact absurd H (by simp)
      ·rw [if_neg c11] at H
       exact absurd H (by simp)
     ·rw [if_neg c9] at H
      have c9b0 : decide (1 < (x3_1.length : Int)) = false := decide_eq_false c9
      have c9b1 : decide (1 < x3_1.length) = false := decide_eq_false (by omega)
      clear c9
      replace H := Option.bind_eq_some_iff.mp H
      obtain ⟨t160, A190, H⟩ := H
      replace H : (some t160) = some r := H
      have A19 := Aside0.mk A190
      clear A190
      obtain rfl := Option.some.inj H
      obtain ⟨Ao20, co20, eo20⟩ := Kd.R_slice HO_3.out
      subst eo20
      go_wp2_with (first | ((with_reducible refine gate_callee (f := 22) rfl ?_); refine goesL_ (some 30) rfl rfl Try.func22 (by kernel_rfl) rfl #[.slice Ao20 x3_1.length co20] rfl (by (try simp only [List.map_toArray, List.map_cons, List.map_nil]); first | done | rfl | (simp only [List.length_drop, List.length_take]; rfl)) ?_; (with_reducible refine (isoglossref04_Join.calls k1 _ _ x3_1 t160 _ ?side1 ?side2 A19.out).mono ?_); (case side1 => repeat (first | exact (Kd.R_reads' HO_3.out).2.2 | (with_reducible refine Kd.C_alloc ?_ _) | (with_reducible refine Kd.C_drewN ?_ _) | (with_reducible refine Kd.C_drew ?_))); (case side2 => exact (Kd.R_reads' HO_3.out).2.1); rintro e w' ⟨rfl, ⟨nd, rfl⟩⟩; refine ⟨_, rfl, ?_⟩))
      go_ret
      exact ⟨by first | rfl | (simp [errW_none, errW_some] <;> rfl) | (simp only [← hji3]; first | rfl | (simp [errW_none, errW_some] <;> rfl)) | (simp [*, errW_none, errW_some] <;> rfl), by repeat (first | (with_reducible first | exact HB.out | apply below_alloc | apply pw_below_drewN | apply below_drew1) | exact HB.out)⟩
  ·rw [if_neg c5] at H
   exact absurd H (by simp)
 ·rw [if_neg c4] at H
  exact absurd H (by simp)

/-! ### isoglossref21_Sequence: function 11 -/
def isoglossref21_Sequence.l0 : Nat → ByteArray → List ByteArray → Option (List ByteArray)
 | 0, _, _ => none
 | k + 1, x0, x3 => if x0.toList = ([] : List UInt8) then (some x3) else (if x3.length < 8796093022208 then ((isoglossref04_Trim.f k x0).bind fun t164 => (isoglossref21_Sequence.l0 k t164 (x3 ++ [x0]))) else (none))
def isoglossref21_Sequence.f (k : Nat) (a0 : ByteArray) : Option (List ByteArray) := isoglossref21_Sequence.l0 k a0 ([] : List ByteArray)
theorem isoglossref21_Sequence.mono_l : ∀ k, (∀ y0 y1, LeO (isoglossref21_Sequence.l0 k y0 y1) (isoglossref21_Sequence.l0 (k + 1) y0 y1))
 | 0 => fun _ _ r h => by simp [isoglossref21_Sequence.l0] at h
 | k + 1 => by
  have ih0 := isoglossref21_Sequence.mono_l k
  ·intro y0 y1
   unfold isoglossref21_Sequence.l0
   repeat' first
   | (with_reducible exact ih0 _ _)
   | (with_reducible exact isoglossref04_Trim.mono _ _)
   | (with_reducible exact LeO.refl _)
   | (with_reducible exact LeO.none _)
   | (with_reducible refine LeO.ite ?_ ?_)
   | (with_reducible refine LeO.bind ?_ (fun _ => ?_))
   | exact ih0 _ _
   | exact isoglossref04_Trim.mono _ _
   | exact LeO.none _
   | refine LeO.ite ?_ ?_
   | refine LeO.bind ?_ (fun _ => ?_)
theorem isoglossref21_Sequence.mono : ∀ a0 k, LeO (isoglossref21_Sequence.f k a0) (isoglossref21_Sequence.f (k + 1) a0) := by
 intro a0 k
 have ih0 := isoglossref21_Sequence.mono_l k
 unfold isoglossref21_Sequence.f
 repeat' first
   | (with_reducible exact ih0 _ _)
   | (with_reducible exact isoglossref04_Trim.mono _ _)
   | (with_reducible exact LeO.refl _)
   | (with_reducible exact LeO.none _)
   | (with_reducible refine LeO.ite ?_ ?_)
   | (with_reducible refine LeO.bind ?_ (fun _ => ?_))
   | exact ih0 _ _
   | exact isoglossref04_Trim.mono _ _
   | exact LeO.none _
   | refine LeO.ite ?_ ?_
   | refine LeO.bind ?_ (fun _ => ?_)
set_option maxHeartbeats 8000000 in
set_option maxRecDepth 100000 in
theorem isoglossref21_Sequence.calls (k : Nat) (a0 : ByteArray) (r : List ByteArray) (w : World) (h : isoglossref21_Sequence.f k a0 = some r) :
  Calls Try.prog 11 #[.string a0] w fun e w' => ∃ v0_ : Value, e = .returned (v0_) ∧ Kd.R Kd.string 9 w' w.heap.size (fun _ => True) v0_ r ∧ Below w.heap.size w w' := by
 have HB := Aside0.mk (Below.refl w.heap.size w)
 have H : (isoglossref21_Sequence.l0 k a0 ([] : List ByteArray)) = some r := h
 clear h
 have H' := Aside0.mk H
 clear H
 go_enter Try.func11, Try.ntmps11
 go_wp2
 go_loopg [0, 3] k (fun kq v0 v3 w' => ∃ (x0_1 : ByteArray) (x3_1 : List ByteArray), v0 = .string x0_1 ∧ Aside0 (isoglossref21_Sequence.l0 kq x0_1 x3_1 = some r) ∧ Aside0 (kq ≤ k) ∧ Aside0 (Kd.R Kd.string 9 w' w.heap.size (fun _ => True) v3 x3_1) ∧ Aside0 (Below w.heap.size w w'))
 case atStart => exact ⟨(a0), (([] : List ByteArray)), (by first | rfl | (simp; done) | (simp [*]; done)), H', ⟨Nat.le_refl _⟩, ⟨by first | exact Kd.R_nil _ _ _ _ _ | exact Kd.N_nil _ _ _ _ _ | exact Kd.V_nil _ _ _ _ _ | exact Kd.Q_nil _ _ _ _ _ | exact Kd.S_nil _ _ _ _ _⟩, ⟨by repeat (first | (with_reducible first | exact HB.out | apply below_alloc | apply pw_below_drewN | apply below_drew1) | exact HB.out)⟩⟩
 case round =>
  clear H'
  try clear c1
  obtain ⟨x0_1, x3_1, rfl, HA, HK1, HO_3, HB⟩ := hrel
  cases gk with
  | zero => exact absurd HA.out (by simp [isoglossref21_Sequence.l0])
  | succ k1 =>
   have H := HA.out
   clear HA
   simp only [isoglossref21_Sequence.l0] at H
   by_cases c2 : x0_1.toList = ([] : List UInt8)
   ·rw [if_pos c2] at H
    have c2b0 : (x0_1.toList == ([] : List UInt8)) = true := beq_iff_eq.mpr c2
    have c2e0 : x0_1.toList.isEmpty = true := List.isEmpty_iff.2 c2
    have c2e1 : (!x0_1.toList.isEmpty) = false := by rw [c2e0]; rfl
    have c2b1 : (x0_1.toList != ([] : List UInt8)) = false := bne_eq_false_iff_eq.mpr c2
    clear c2
    obtain rfl := Option.some.inj H
    go_wp2
    go_ret
    exact ⟨_, by first | rfl | (simp [errW_none, errW_some] <;> rfl) | (simp [*, errW_none, errW_some] <;> rfl), by (with_reducible repeat (first | apply Kd.R_alloc | apply Kd.R_drewN | apply Kd.R_drew)); exact HO_3.out, by repeat (first | (with_reducible first | exact HB.out | apply below_alloc | apply pw_below_drewN | apply below_drew1) | exact HB.out)⟩
   ·rw [if_neg c2] at H
    have c2b0 : (x0_1.toList == ([] : List UInt8)) = false := beq_eq_false_iff_ne.mpr c2
    have c2e0 : x0_1.toList.isEmpty = false := List.isEmpty_eq_false_iff.2 c2
    have c2e1 : (!x0_1.toList.isEmpty) = true := by rw [c2e0]; rfl
    have c2b1 : (x0_1.toList != ([] : List UInt8)) = true := bne_iff_ne.mpr c2
    by_cases c3 : x3_1.length < 8796093022208
    ·rw [if_pos c3] at H
     have LMc3 := Aside0.mk c3
     clear c3
     obtain ⟨y161, hy161⟩ : ∃ y_ : List ByteArray, y_ = (x3_1 ++ [x0_1]) := ⟨_, rfl⟩
     replace H : ((isoglossref04_Trim.f k1 x0_1).bind fun t164 => (isoglossref21_Sequence.l0 k1 t164 y161)) = some r := by first | (rw [hy161]; with_reducible exact H) | (have H2_ := (Option.bind_some _ _).symm.trans H; rw [hy161]; with_reducible exact H2_) | (have H2_ := (Option.bind_some _ _).symm.trans H; with_reducible exact H2_) | with_reducible exact H | (rw [hy161]; exact H) | exact H
     have Ny161 := Aside0.mk hy161
     clear hy161
     replace H := Option.bind_eq_some_iff.mp H
     obtain ⟨t164, A40, H⟩ := H
     replace H : (isoglossref21_Sequence.l0 k1 t164 y161) = some r := H
     have A4 := Aside0.mk A40
     clear A40
     have H' := Aside0.mk H
     clear H
     go_wp2_with (first | ((with_reducible refine gate_builtin (b := .append) (xs := #[.tmp 6, .tmp 8]) rfl ?_); at_builtin; refine Kd.R_append Kd.string (w0 := w) w.heap.size rfl (.tmp 6) (.tmp 8) 24 9 (.string ⟨#[]⟩) 16 rfl Try.underlying24 info9 rfl (by decide) (by omega) u3 x3_1 x0_1 [.string x0_1] (fun _ => True) (fun _ => False) rfl rfl ?aP (fun _ hk => hk.elim) ?aF ?aO ?aB ?aS ?aL ?_; (case aP => exact rfl); (case aB => exact (by repeat (first | (with_reducible first | exact HB.out | apply below_alloc | apply pw_below_drewN | apply below_drew1) | exact HB.out))); (case aF => exact (fun _ _ => trivial)); (case aO => exact (by (with_reducible repeat (first | apply Kd.R_alloc | apply Kd.R_drewN | apply Kd.R_drew)); exact HO_3.out)); (case aS => exact (below_size (by repeat (first | (with_reducible first | exact HB.out | apply below_alloc | apply pw_below_drewN | apply below_drew1) | exact HB.out)))); (case aL => have := LMc3.out; omega); intro v162 w5 ho hb hg hat; rw [← Ny161.out] at ho; have n0_ := Aside0.mk (hb); have n1_ := Aside0.mk (ho); clear HB; clear HO_3; have HB := n0_; have HO163 := n1_; clear n0_ n1_; clear ho hb hg hat) | ((with_reducible refine gate_callee (f := 23) rfl ?_); refine goesL_ (some 11) rfl rfl Try.func23 (by kernel_rfl) rfl #[.string x0_1] rfl (by (try simp only [List.map_toArray, List.map_cons, List.map_nil]); first | done | rfl | (simp only [List.length_drop, List.length_take]; rfl)) ?_; (with_reducible refine (isoglossref04_Trim.calls k1 x0_1 t164 _ A4.out).mono ?_); rintro e w6 ⟨rfl, hb⟩; refine ⟨_, rfl, ?_⟩; have n0_ := Aside0.mk (Kd.R_below (by (with_reducible repeat (first | apply Kd.R_alloc | apply Kd.R_drewN | apply Kd.R_drew)); exact HO163.out) hb); have n1_ := Aside0.mk (below_step (by repeat (first | (with_reducible first | exact HB.out | apply below_alloc | apply pw_below_drewN | apply below_drew1) | exact HB.out)) hb); clear HO163; clear HB; have HO163 := n0_; have HB := n1_; clear n0_ n1_; (try clear hb); (try clear hb2); (try clear hk); (try clear hi)))
     go_roundg k1
     case measure => have := HK1.out; omega
     case rel => exact ⟨(t164), (y161), (by first | rfl | (simp; done) | (simp [*]; done)), H', ⟨by have := HK1.out; omega⟩, ⟨by (with_reducible repeat (first | apply Kd.R_alloc | apply Kd.R_drewN | apply Kd.R_drew)); exact HO163.out⟩, ⟨by repeat (first | (with_reducible first | exact HB.out | apply below_alloc | apply pw_below_drewN | apply below_drew1) | exact HB.out)⟩⟩
    ·rw [if_neg c3] at H
     exact absurd H (by simp)

/-! ### isoglossref02_letter: function 46 -/
def isoglossref02_letter.f (a0 : Int) : Option (Bool) := if a0 ≥ 97 then (if a0 ≤ 122 then (some true) else (if a0 ≥ 65 then (some (decide (a0 ≤ 90))) else (some false))) else (if a0 ≥ 65 then (some (decide (a0 ≤ 90))) else (some false))
set_option maxHeartbeats 8000000 in
set_option maxRecDepth 100000 in
theorem isoglossref02_letter.calls (a0 : Int) (r : Bool) (w : World) (h : isoglossref02_letter.f a0 = some r) :
  Calls Try.prog 46 #[.int .u8 a0] w fun e w' => e = .returned (.bool r) ∧ Drawn0 w w' := by
 have H : (if a0 ≥ 97 then (if a0 ≤ 122 then (some true) else (if a0 ≥ 65 then (some (decide (a0 ≤ 90))) else (some false))) else (if a0 ≥ 65 then (some (decide (a0 ≤ 90))) else (some false))) = some r := h
 clear h
 by_cases c2 : a0 ≥ 97
 ·rw [if_pos c2] at H
  have c2b0 : decide (97 ≤ a0) = true := decide_eq_true c2
  clear c2
  by_cases c3 : a0 ≤ 122
  ·rw [if_pos c3] at H
   have c3b0 : decide (a0 ≤ 122) = true := decide_eq_true c3
   clear c3
   obtain rfl := Option.some.inj H
   go_enter Try.func46, Try.ntmps46
   go_wp2
   go_ret
   exact ⟨by first | rfl | (simp; done) | (simp [*]; done), by repeat (first | exact Drawn0.refl _ | apply Drawn0.step)⟩
  ·rw [if_neg c3] at H
   have c3b0 : decide (a0 ≤ 122) = false := decide_eq_false c3
   clear c3
   by_cases c4 : a0 ≥ 65
   ·rw [if_pos c4] at H
    have c4b0 : decide (65 ≤ a0) = true := decide_eq_true c4
    clear c4
    obtain rfl := Option.some.inj H
    go_enter Try.func46, Try.ntmps46
    go_wp2
    go_ret
    exact ⟨by first | rfl | (simp; done) | (simp [*]; done), by repeat (first | exact Drawn0.refl _ | apply Drawn0.step)⟩
   ·rw [if_neg c4] at H
    have c4b0 : decide (65 ≤ a0) = false := decide_eq_false c4
    clear c4
    obtain rfl := Option.some.inj H
    go_enter Try.func46, Try.ntmps46
    go_wp2
    go_ret
    exact ⟨by first | rfl | (simp; done) | (simp [*]; done), by repeat (first | exact Drawn0.refl _ | apply Drawn0.step)⟩
 ·rw [if_neg c2] at H
  have c2b0 : decide (97 ≤ a0) = false := decide_eq_false c2
  clear c2
  by_cases c5 : a0 ≥ 65
  ·rw [if_pos c5] at H
   have c5b0 : decide (65 ≤ a0) = true := decide_eq_true c5
   clear c5
   obtain rfl := Option.some.inj H
   go_enter Try.func46, Try.ntmps46
   go_wp2
   go_ret
   exact ⟨by first | rfl | (simp; done) | (simp [*]; done), by repeat (first | exact Drawn0.refl _ | apply Drawn0.step)⟩
  ·rw [if_neg c5] at H
   have c5b0 : decide (65 ≤ a0) = false := decide_eq_false c5
   clear c5
   obtain rfl := Option.some.inj H
   go_enter Try.func46, Try.ntmps46
   go_wp2
   go_ret
   exact ⟨by first | rfl | (simp; done) | (simp [*]; done), by repeat (first | exact Drawn0.refl _ | apply Drawn0.step)⟩

/-! ### isoglossref02_digit: function 47 -/
def isoglossref02_digit.f (a0 : Int) : Option (Bool) := if a0 ≥ 48 then (some (decide (a0 ≤ 57))) else (some false)
set_option maxHeartbeats 8000000 in
set_option maxRecDepth 100000 in
theorem isoglossref02_digit.calls (a0 : Int) (r : Bool) (w : World) (h : isoglossref02_digit.f a0 = some r) :
  Calls Try.prog 47 #[.int .u8 a0] w fun e w' => e = .returned (.bool r) ∧ Drawn0 w w' := by
 have H : (if a0 ≥ 48 then (some (decide (a0 ≤ 57))) else (some false)) = some r := h
 clear h
 by_cases c2 : a0 ≥ 48
 ·rw [if_pos c2] at H
  have c2b0 : decide (48 ≤ a0) = true := decide_eq_true c2
  clear c2
  obtain rfl := Option.some.inj H
  go_enter Try.func47, Try.ntmps47
  go_wp2
  go_ret
  exact ⟨by first | rfl | (simp; done) | (simp [*]; done), by repeat (first | exact Drawn0.refl _ | apply Drawn0.step)⟩
 ·rw [if_neg c2] at H
  have c2b0 : decide (48 ≤ a0) = false := decide_eq_false c2
  clear c2
  obtain rfl := Option.some.inj H
  go_enter Try.func47, Try.ntmps47
  go_wp2
  go_ret
  exact ⟨by first | rfl | (simp; done) | (simp [*]; done), by repeat (first | exact Drawn0.refl _ | apply Drawn0.step)⟩

/-! ### isoglossref02_Class: function 40 -/
mutual
def isoglossref02_Class.l0 : Nat → ByteArray → Int → Int → Int → Option (Int)
 | 0, _, _, _, _ => none
 | k + 1, x0, x3, x4, x5 => if x5 < (x0.size : Int) then (if 0 ≤ x5 then ((isoglossref02_letter.f (bt x0 x5)).bind fun t165 => ((isoglossref02_digit.f (bt x0 x5)).bind fun t166 => (if t165 = true then (if t166 = true then (isoglossref02_Class.l0 k x0 (wrap64 (x3 + 1)) (wrap64 (x4 + 1)) (wrap64 (x5 + 1))) else (isoglossref02_Class.l0 k x0 (wrap64 (x3 + 1)) x4 (wrap64 (x5 + 1)))) else (if t166 = true then (isoglossref02_Class.l0 k x0 x3 (wrap64 (x4 + 1)) (wrap64 (x5 + 1))) else (isoglossref02_Class.l0 k x0 x3 x4 (wrap64 (x5 + 1))))))) else (none)) else (if x0.toList = ([] : List UInt8) then (isoglossref02_Class.j1 k x3 x4 true) else (isoglossref02_Class.j1 k x3 x4 (decide ((wrap64 (x3 + x4)) < (x0.size : Int)))))
def isoglossref02_Class.j1 : Nat → Int → Int → Bool → Option (Int)
 | 0, _, _, _ => none
 | k + 1, x3, x4, x37 => if x37 = true then (some 0) else (if x4 = 0 then (some 1) else (if x3 = 0 then (some 2) else (some 3)))
end
def isoglossref02_Class.f (k : Nat) (a0 : ByteArray) : Option (Int) := isoglossref02_Class.l0 k a0 0 0 0
theorem isoglossref02_Class.mono_l : ∀ k, (∀ y0 y1 y2 y3, LeO (isoglossref02_Class.l0 k y0 y1 y2 y3) (isoglossref02_Class.l0 (k + 1) y0 y1 y2 y3)) ∧ (∀ y0 y1 y2, LeO (isoglossref02_Class.j1 k y0 y1 y2) (isoglossref02_Class.j1 (k + 1) y0 y1 y2))
 | 0 => ⟨fun _ _ _ _ r h => by simp [isoglossref02_Class.l0] at h, fun _ _ _ r h => by simp [isoglossref02_Class.j1] at h⟩
 | k + 1 => by
  obtain ⟨ih0, ih1⟩ := isoglossref02_Class.mono_l k
  refine ⟨?_, ?_⟩
  ·intro y0 y1 y2 y3
   unfold isoglossref02_Class.l0
   repeat' first
   | (with_reducible exact ih0 _ _ _ _)
   | (with_reducible exact ih1 _ _ _)
   | (with_reducible exact LeO.refl _)
   | (with_reducible exact LeO.none _)
   | (with_reducible refine LeO.ite ?_ ?_)
   | (with_reducible refine LeO.bind ?_ (fun _ => ?_))
   | exact ih0 _ _ _ _
   | exact ih1 _ _ _
   | exact LeO.none _
   | refine LeO.ite ?_ ?_
   | refine LeO.bind ?_ (fun _ => ?_)
  ·intro y0 y1 y2
   unfold isoglossref02_Class.j1
   repeat' first
   | (with_reducible exact ih0 _ _ _ _)
   | (with_reducible exact ih1 _ _ _)
   | (with_reducible exact LeO.refl _)
   | (with_reducible exact LeO.none _)
   | (with_reducible refine LeO.ite ?_ ?_)
   | (with_reducible refine LeO.bind ?_ (fun _ => ?_))
   | exact ih0 _ _ _ _
   | exact ih1 _ _ _
   | exact LeO.none _
   | refine LeO.ite ?_ ?_
   | refine LeO.bind ?_ (fun _ => ?_)
theorem isoglossref02_Class.mono : ∀ a0 k, LeO (isoglossref02_Class.f k a0) (isoglossref02_Class.f (k + 1) a0) := by
 intro a0 k
 obtain ⟨ih0, ih1⟩ := isoglossref02_Class.mono_l k
 unfold isoglossref02_Class.f
 repeat' first
   | (with_reducible exact ih0 _ _ _ _)
   | (with_reducible exact ih1 _ _ _)
   | (with_reducible exact LeO.refl _)
   | (with_reducible exact LeO.none _)
   | (with_reducible refine LeO.ite ?_ ?_)
   | (with_reducible refine LeO.bind ?_ (fun _ => ?_))
   | exact ih0 _ _ _ _
   | exact ih1 _ _ _
   | exact LeO.none _
   | refine LeO.ite ?_ ?_
   | refine LeO.bind ?_ (fun _ => ?_)
set_option maxHeartbeats 8000000 in
set_option maxRecDepth 100000 in
theorem isoglossref02_Class.calls (k : Nat) (a0 : ByteArray) (r : Int) (w : World) (h : isoglossref02_Class.f k a0 = some r) :
  Calls Try.prog 40 #[.string a0] w fun e w' => e = .returned (.int .i64 r) ∧ Drawn0 w w' := by
 have H : (isoglossref02_Class.l0 k a0 0 0 0) = some r := h
 clear h
 have H' := Aside0.mk H
 clear H
 go_enter Try.func40, Try.ntmps40
 go_wp2
 go_loopg [3, 4, 5] k (fun kq v3 v4 v5 w' => ∃ (x3_1 : Int) (x4_1 : Int) (x5_1 : Int), v3 = .int .i64 x3_1 ∧ v4 = .int .i64 x4_1 ∧ v5 = .int .i64 x5_1 ∧ Aside0 (isoglossref02_Class.l0 kq a0 x3_1 x4_1 x5_1 = some r) ∧ Aside0 (kq ≤ k) ∧ Drawn0 w w')
 case atStart => exact ⟨(0), (0), (0), (by first | rfl | (simp; done) | (simp [*]; done)), (by first | rfl | (simp; done) | (simp [*]; done)), (by first | rfl | (simp; done) | (simp [*]; done)), H', ⟨Nat.le_refl _⟩, by repeat (first | exact Drawn0.refl _ | apply Drawn0.step)⟩
 case round =>
  clear H'
  obtain ⟨x3_1, x4_1, x5_1, rfl, rfl, rfl, HA, HK1, ⟨m1, rfl⟩⟩ := hrel
  cases gk with
  | zero => exact absurd HA.out (by simp [isoglossref02_Class.l0])
  | succ k1 =>
   have H := HA.out
   clear HA
   simp only [isoglossref02_Class.l0] at H
   by_cases c2 : x5_1 < (a0.size : Int)
   ·rw [if_pos c2] at H
    have c2b0 : decide (x5_1 < (a0.size : Int)) = true := decide_eq_true c2
    clear c2
    by_cases c3 : 0 ≤ x5_1
    ·rw [if_pos c3] at H
     have c3b0 : decide (0 ≤ x5_1) = true := decide_eq_true c3
     clear c3
     replace H := Option.bind_eq_some_iff.mp H
     obtain ⟨t165, A50, H⟩ := H
     replace H : ((isoglossref02_digit.f (bt a0 x5_1)).bind fun t166 => (if t165 = true then (if t166 = true then (isoglossref02_Class.l0 k1 a0 (wrap64 (x3_1 + 1)) (wrap64 (x4_1 + 1)) (wrap64 (x5_1 + 1))) else (isoglossref02_Class.l0 k1 a0 (wrap64 (x3_1 + 1)) x4_1 (wrap64 (x5_1 + 1)))) else (if t166 = true then (isoglossref02_Class.l0 k1 a0 x3_1 (wrap64 (x4_1 + 1)) (wrap64 (x5_1 + 1))) else (isoglossref02_Class.l0 k1 a0 x3_1 x4_1 (wrap64 (x5_1 + 1)))))) = some r := H
     have A5 := Aside0.mk A50
     clear A50
     replace H := Option.bind_eq_some_iff.mp H
     obtain ⟨t166, A70, H⟩ := H
     replace H : (if t165 = true then (if t166 = true then (isoglossref02_Class.l0 k1 a0 (wrap64 (x3_1 + 1)) (wrap64 (x4_1 + 1)) (wrap64 (x5_1 + 1))) else (isoglossref02_Class.l0 k1 a0 (wrap64 (x3_1 + 1)) x4_1 (wrap64 (x5_1 + 1)))) else (if t166 = true then (isoglossref02_Class.l0 k1 a0 x3_1 (wrap64 (x4_1 + 1)) (wrap64 (x5_1 + 1))) else (isoglossref02_Class.l0 k1 a0 x3_1 x4_1 (wrap64 (x5_1 + 1))))) = some r := H
     have A7 := Aside0.mk A70
     clear A70
     by_cases c8 : t165 = true
     ·subst c8
      have H1 : (if t166 = true then (isoglossref02_Class.l0 k1 a0 (wrap64 (x3_1 + 1)) (wrap64 (x4_1 + 1)) (wrap64 (x5_1 + 1))) else (isoglossref02_Class.l0 k1 a0 (wrap64 (x3_1 + 1)) x4_1 (wrap64 (x5_1 + 1)))) = some r := by rw [if_pos rfl] at H; exact H
      clear H
      have H := H1
      clear H1
      by_cases c9 : t166 = true
      ·subst c9
       have H1 : (isoglossref02_Class.l0 k1 a0 (wrap64 (x3_1 + 1)) (wrap64 (x4_1 + 1)) (wrap64 (x5_1 + 1))) = some r := by rw [if_pos rfl] at H; exact H
       clear H
       have H := H1
       clear H1
       have H' := Aside0.mk H
       clear H
       have p4 : 0 ≤ (x5_1 : Int) := of_decide_eq_true (by first | (with_reducible assumption) | assumption)
       have q4 : x5_1 < (a0.size : Int) := of_decide_eq_true (by first | (with_reducible assumption) | assumption)
       have hx4 := bt_at a0 x5_1
       replace p4 := eq_true p4
       replace q4 := eq_true q4
       go_wp2_with (first | ((with_reducible refine gate_callee (f := 46) rfl ?_); refine goesL_ (some 17) rfl rfl Try.func46 (by kernel_rfl) rfl #[.int .u8 (bt a0 x5_1)] rfl (by (try simp only [List.map_toArray, List.map_cons, List.map_nil]); first | done | rfl | (simp only [List.length_drop, List.length_take]; rfl)) ?_; (with_reducible refine (isoglossref02_letter.calls (bt a0 x5_1) true _ A5.out).mono ?_); rintro e w' ⟨rfl, ⟨nd, rfl⟩⟩; refine ⟨_, rfl, ?_⟩; have p6 : 0 ≤ (x5_1 : Int) := of_decide_eq_true (by first | (with_reducible assumption) | assumption); have q6 : x5_1 < (a0.size : Int) := of_decide_eq_true (by first | (with_reducible assumption) | assumption); have hx6 := bt_at a0 x5_1; replace p6 := eq_true p6; replace q6 := eq_true q6) | ((with_reducible refine gate_callee (f := 47) rfl ?_); refine goesL_ (some 21) rfl rfl Try.func47 (by kernel_rfl) rfl #[.int .u8 (bt a0 x5_1)] rfl (by (try simp only [List.map_toArray, List.map_cons, List.map_nil]); first | done | rfl | (simp only [List.length_drop, List.length_take]; rfl)) ?_; (with_reducible refine (isoglossref02_digit.calls (bt a0 x5_1) true _ A7.out).mono ?_); rintro e w' ⟨rfl, ⟨nd, rfl⟩⟩; refine ⟨_, rfl, ?_⟩))
       go_roundg k1
       case measure => have := HK1.out; omega
       case rel => exact ⟨(wrap64 (x3_1 + 1)), (wrap64 (x4_1 + 1)), (wrap64 (x5_1 + 1)), (by first | rfl | (simp; done) | (simp [*]; done)), (by first | rfl | (simp; done) | (simp [*]; done)), (by first | rfl | (simp; done) | (simp [*]; done)), H', ⟨by have := HK1.out; omega⟩, by repeat (first | exact Drawn0.refl _ | apply Drawn0.step)⟩
      ·replace c9 := Bool.eq_false_iff.mpr c9
       subst c9
       have H1 : (isoglossref02_Class.l0 k1 a0 (wrap64 (x3_1 + 1)) x4_1 (wrap64 (x5_1 + 1))) = some r := by rw [if_neg (show ¬ (false = true) by decide)] at H; exact H
       clear H
       have H := H1
       clear H1
       have H' := Aside0.mk H
       clear H
       have p4 : 0 ≤ (x5_1 : Int) := of_decide_eq_true (by first | (with_reducible assumption) | assumption)
       have q4 : x5_1 < (a0.size : Int) := of_decide_eq_true (by first | (with_reducible assumption) | assumption)
       have hx4 := bt_at a0 x5_1
       replace p4 := eq_true p4
       replace q4 := eq_true q4
       go_wp2_with (first | ((with_reducible refine gate_callee (f := 46) rfl ?_); refine goesL_ (some 17) rfl rfl Try.func46 (by kernel_rfl) rfl #[.int .u8 (bt a0 x5_1)] rfl (by (try simp only [List.map_toArray, List.map_cons, List.map_nil]); first | done | rfl | (simp only [List.length_drop, List.length_take]; rfl)) ?_; (with_reducible refine (isoglossref02_letter.calls (bt a0 x5_1) true _ A5.out).mono ?_); rintro e w' ⟨rfl, ⟨nd, rfl⟩⟩; refine ⟨_, rfl, ?_⟩; have p6 : 0 ≤ (x5_1 : Int) := of_decide_eq_true (by first | (with_reducible assumption) | assumption); have q6 : x5_1 < (a0.size : Int) := of_decide_eq_true (by first | (with_reducible assumption) | assumption); have hx6 := bt_at a0 x5_1; replace p6 := eq_true p6; replace q6 := eq_true q6) | ((with_reducible refine gate_callee (f := 47) rfl ?_); refine goesL_ (some 21) rfl rfl Try.func47 (by kernel_rfl) rfl #[.int .u8 (bt a0 x5_1)] rfl (by (try simp only [List.map_toArray, List.map_cons, List.map_nil]); first | done | rfl | (simp only [List.length_drop, List.length_take]; rfl)) ?_; (with_reducible refine (isoglossref02_digit.calls (bt a0 x5_1) false _ A7.out).mono ?_); rintro e w' ⟨rfl, ⟨nd, rfl⟩⟩; refine ⟨_, rfl, ?_⟩))
       go_roundg k1
       case measure => have := HK1.out; omega
       case rel => exact ⟨(wrap64 (x3_1 + 1)), (x4_1), (wrap64 (x5_1 + 1)), (by first | rfl | (simp; done) | (simp [*]; done)), (by first | rfl | (simp; done) | (simp [*]; done)), (by first | rfl | (simp; done) | (simp [*]; done)), H', ⟨by have := HK1.out; omega⟩, by repeat (first | exact Drawn0.refl _ | apply Drawn0.step)⟩
     ·replace c8 := Bool.eq_false_iff.mpr c8
      subst c8
      have H1 : (if t166 = true then (isoglossref02_Class.l0 k1 a0 x3_1 (wrap64 (x4_1 + 1)) (wrap64 (x5_1 + 1))) else (isoglossref02_Class.l0 k1 a0 x3_1 x4_1 (wrap64 (x5_1 + 1)))) = some r := by rw [if_neg (show ¬ (false = true) by decide)] at H; exact H
      clear H
      have H := H1
      clear H1
      by_cases c10 : t166 = true
      ·subst c10
       have H1 : (isoglossref02_Class.l0 k1 a0 x3_1 (wrap64 (x4_1 + 1)) (wrap64 (x5_1 + 1))) = some r := by rw [if_pos rfl] at H; exact H
       clear H
       have H := H1
       clear H1
       have H' := Aside0.mk H
       clear H
       have p4 : 0 ≤ (x5_1 : Int) := of_decide_eq_true (by first | (with_reducible assumption) | assumption)
       have q4 : x5_1 < (a0.size : Int) := of_decide_eq_true (by first | (with_reducible assumption) | assumption)
       have hx4 := bt_at a0 x5_1
       replace p4 := eq_true p4
       replace q4 := eq_true q4
       go_wp2_with (first | ((with_reducible refine gate_callee (f := 46) rfl ?_); refine goesL_ (some 17) rfl rfl Try.func46 (by kernel_rfl) rfl #[.int .u8 (bt a0 x5_1)] rfl (by (try simp only [List.map_toArray, List.map_cons, List.map_nil]); first | done | rfl | (simp only [List.length_drop, List.length_take]; rfl)) ?_; (with_reducible refine (isoglossref02_letter.calls (bt a0 x5_1) false _ A5.out).mono ?_); rintro e w' ⟨rfl, ⟨nd, rfl⟩⟩; refine ⟨_, rfl, ?_⟩; have p6 : 0 ≤ (x5_1 : Int) := of_decide_eq_true (by first | (with_reducible assumption) | assumption); have q6 : x5_1 < (a0.size : Int) := of_decide_eq_true (by first | (with_reducible assumption) | assumption); have hx6 := bt_at a0 x5_1; replace p6 := eq_true p6; replace q6 := eq_true q6) | ((with_reducible refine gate_callee (f := 47) rfl ?_); refine goesL_ (some 21) rfl rfl Try.func47 (by kernel_rfl) rfl #[.int .u8 (bt a0 x5_1)] rfl (by (try simp only [List.map_toArray, List.map_cons, List.map_nil]); first | done | rfl | (simp only [List.length_drop, List.length_take]; rfl)) ?_; (with_reducible refine (isoglossref02_digit.calls (bt a0 x5_1) true _ A7.out).mono ?_); rintro e w' ⟨rfl, ⟨nd, rfl⟩⟩; refine ⟨_, rfl, ?_⟩))
       go_roundg k1
       case measure => have := HK1.out; omega
       case rel => exact ⟨(x3_1), (wrap64 (x4_1 + 1)), (wrap64 (x5_1 + 1)), (by first | rfl | (simp; done) | (simp [*]; done)), (by first | rfl | (simp; done) | (simp [*]; done)), (by first | rfl | (simp; done) | (simp [*]; done)), H', ⟨by have := HK1.out; omega⟩, by repeat (first | exact Drawn0.refl _ | apply Drawn0.step)⟩
      ·replace c10 := Bool.eq_false_iff.mpr c10
       subst c10
       have H1 : (isoglossref02_Class.l0 k1 a0 x3_1 x4_1 (wrap64 (x5_1 + 1))) = some r := by rw [if_neg (show ¬ (false = true) by decide)] at H; exact H
       clear H
       have H := H1
       clear H1
       have H' := Aside0.mk H
       clear H
       have p4 : 0 ≤ (x5_1 : Int) := of_decide_eq_true (by first | (with_reducible assumption) | assumption)
       have q4 : x5_1 < (a0.size : Int) := of_decide_eq_true (by first | (with_reducible assumption) | assumption)
       have hx4 := bt_at a0 x5_1
       replace p4 := eq_true p4
       replace q4 := eq_true q4
       go_wp2_with (first | ((with_reducible refine gate_callee (f := 46) rfl ?_); refine goesL_ (some 17) rfl rfl Try.func46 (by kernel_rfl) rfl #[.int .u8 (bt a0 x5_1)] rfl (by (try simp only [List.map_toArray, List.map_cons, List.map_nil]); first | done | rfl | (simp only [List.length_drop, List.length_take]; rfl)) ?_; (with_reducible refine (isoglossref02_letter.calls (bt a0 x5_1) false _ A5.out).mono ?_); rintro e w' ⟨rfl, ⟨nd, rfl⟩⟩; refine ⟨_, rfl, ?_⟩; have p6 : 0 ≤ (x5_1 : Int) := of_decide_eq_true (by first | (with_reducible assumption) | assumption); have q6 : x5_1 < (a0.size : Int) := of_decide_eq_true (by first | (with_reducible assumption) | assumption); have hx6 := bt_at a0 x5_1; replace p6 := eq_true p6; replace q6 := eq_true q6) | ((with_reducible refine gate_callee (f := 47) rfl ?_); refine goesL_ (some 21) rfl rfl Try.func47 (by kernel_rfl) rfl #[.int .u8 (bt a0 x5_1)] rfl (by (try simp only [List.map_toArray, List.map_cons, List.map_nil]); first | done | rfl | (simp only [List.length_drop, List.length_take]; rfl)) ?_; (with_reducible refine (isoglossref02_digit.calls (bt a0 x5_1) false _ A7.out).mono ?_); rintro e w' ⟨rfl, ⟨nd, rfl⟩⟩; refine ⟨_, rfl, ?_⟩))
       go_roundg k1
       case measure => have := HK1.out; omega
       case rel => exact ⟨(x3_1), (x4_1), (wrap64 (x5_1 + 1)), (by first | rfl | (simp; done) | (simp [*]; done)), (by first | rfl | (simp; done) | (simp [*]; done)), (by first | rfl | (simp; done) | (simp [*]; done)), H', ⟨by have := HK1.out; omega⟩, by repeat (first | exact Drawn0.refl _ | apply Drawn0.step)⟩
    ·rw [if_neg c3] at H
     exact absurd H (by simp)
   ·rw [if_neg c2] at H
    have c2b0 : decide (x5_1 < (a0.size : Int)) = false := decide_eq_false c2
    clear c2
    have HC11 := Aside0.mk H
    clear H
    go_upto_region 12 with (fail)
    go_cut [37] (fun v37 wc => ∃ (kq : Nat) (x37_10 : Bool), v37 = .bool x37_10 ∧ Aside0 (isoglossref02_Class.j1 kq x3_1 x4_1 x37_10 = some r) ∧ Aside0 (kq ≤ k1) ∧ Drawn0 w wc)
    case first =>
     have H := HC11.out
     clear HC11
     by_cases c12 : a0.toList = ([] : List UInt8)
     ·rw [if_pos c12] at H
      have c12b0 : (a0.toList == ([] : List UInt8)) = true := beq_iff_eq.mpr c12
      have c12e0 : a0.toList.isEmpty = true := List.isEmpty_iff.2 c12
      have c12e1 : (!a0.toList.isEmpty) = false := by rw [c12e0]; rfl
      have c12b1 : (a0.toList != ([] : List UInt8)) = false := bne_eq_false_iff_eq.mpr c12
      clear c12
      (first | rw [c12e1] | rw [c12e0] | rw [c12b0] | rw [c12b1] | (simp only [i64_w, i32_w]; rw [c12b0]) | skip)
      have H' := Aside0.mk H
      clear H
      go_wp2
      go_meet
      case rel => exact ⟨_, (true), (by first | rfl | (simp; done) | (simp [*]; done)), H', ⟨by have := HK1.out; first | omega | exact Nat.le_refl _⟩, by repeat (first | exact Drawn0.refl _ | apply Drawn0.step)⟩
     ·rw [if_neg c12] at H
      have c12b0 : (a0.toList == ([] : List UInt8)) = false := beq_eq_false_iff_ne.mpr c12
      have c12e0 : a0.toList.isEmpty = false := List.isEmpty_eq_false_iff.2 c12
      have c12e1 : (!a0.toList.isEmpty) = true := by rw [c12e0]; rfl
      have c12b1 : (a0.toList != ([] : List UInt8)) = true := bne_iff_ne.mpr c12
      (first | rw [c12e1] | rw [c12e0] | rw [c12b0] | rw [c12b1] | (simp only [i64_w, i32_w]; rw [c12b0]) | skip)
      have H' := Aside0.mk H
      clear H
      go_wp2
      go_meet
      case rel => exact ⟨_, (decide ((wrap64 (x3_1 + x4_1)) < (a0.size : Int))), (by first | rfl | (simp; done) | (simp [*]; done)), H', ⟨by have := HK1.out; first | omega | exact Nat.le_refl _⟩, by repeat (first | exact Drawn0.refl _ | apply Drawn0.step)⟩
    case rest =>
     clear HC11
     try clear c1
     try clear c2
     try clear c2b0
     try clear p2
     try clear c3
     try clear c3b0
     try clear c4
     try clear p4
     try clear q4
     try clear hx4
     try clear p6
     try clear q6
     try clear hx6
     try clear c8
     try clear c9
     try clear c10
     try clear c12
     try clear c12b0
     try clear c12b1
     try clear p4
     try clear p6
     try clear q4
     try clear q6
     obtain ⟨kq, x37_10, rfl, HA, HJ10, ⟨mc10, rfl⟩⟩ := hcut
     cases kq with
     | zero => exact absurd HA.out (by simp [isoglossref02_Class.j1])
     | succ kj10 =>
      have H := HA.out
      clear HA
      simp only [isoglossref02_Class.j1] at H
      by_cases c13 : x37_10 = true
      ·subst c13
       have H1 : (some 0) = some r := by rw [if_pos rfl] at H; exact H
       clear H
       have H := H1
       clear H1
       obtain rfl := Option.some.inj H
       go_wp2
       go_ret
       exact ⟨by first | rfl | (simp; done) | (simp [*]; done), by repeat (first | exact Drawn0.refl _ | apply Drawn0.step)⟩
      ·replace c13 := Bool.eq_false_iff.mpr c13
       subst c13
       have H1 : (if x4_1 = 0 then (some 1) else (if x3_1 = 0 then (some 2) else (some 3))) = some r := by rw [if_neg (show ¬ (false = true) by decide)] at H; exact H
       clear H
       have H := H1
       clear H1
       by_cases c14 : x4_1 = 0
       ·rw [if_pos c14] at H
        have c14b0 : (x4_1 == 0) = true := beq_iff_eq.mpr c14
        have c14b1 : (x4_1 != 0) = false := bne_eq_false_iff_eq.mpr c14
        clear c14
        obtain rfl := Option.some.inj H
        go_wp2
        go_ret
        exact ⟨by first | rfl | (simp; done) | (simp [*]; done), by repeat (first | exact Drawn0.refl _ | apply Drawn0.step)⟩
       ·rw [if_neg c14] at H
        have c14b0 : (x4_1 == 0) = false := beq_eq_false_iff_ne.mpr c14
        have c14b1 : (x4_1 != 0) = true := bne_iff_ne.mpr c14
        by_cases c15 : x3_1 = 0
        ·rw [if_pos c15] at H
         have c15b0 : (x3_1 == 0) = true := beq_iff_eq.mpr c15
         have c15b1 : (x3_1 != 0) = false := bne_eq_false_iff_eq.mpr c15
         clear c15
         obtain rfl := Option.some.inj H
         go_wp2
         go_ret
         exact ⟨by first | rfl | (simp; done) | (simp [*]; done), by repeat (first | exact Drawn0.refl _ | apply Drawn0.step)⟩
        ·rw [if_neg c15] at H
         have c15b0 : (x3_1 == 0) = false := beq_eq_false_iff_ne.mpr c15
         have c15b1 : (x3_1 != 0) = true := bne_iff_ne.mpr c15
         obtain rfl := Option.some.inj H
         go_wp2
         go_ret
         exact ⟨by first | rfl | (simp; done) | (simp [*]; done), by repeat (first | exact Drawn0.refl _ | apply Drawn0.step)⟩

/-! ### isoglossref20_word: function 31 -/
def isoglossref20_word.f (k : Nat) (a0 : ByteArray) (a1 : Bool) : Option (Bool) := (isoglossref02_Class.f k a0).bind fun t167 => (if (a0.size : Int) ≤ 8 then (if t167 = 1 then (some true) else (if t167 > 0 then (some (!a1)) else (some false))) else (some false))
theorem isoglossref20_word.mono : ∀ a0 a1 k, LeO (isoglossref20_word.f k a0 a1) (isoglossref20_word.f (k + 1) a0 a1) := by
 intro a0 a1 k
 unfold isoglossref20_word.f
 repeat' first
   | (with_reducible exact isoglossref02_Class.mono _ _)
   | (with_reducible exact LeO.refl _)
   | (with_reducible exact LeO.none _)
   | (with_reducible refine LeO.ite ?_ ?_)
   | (with_reducible refine LeO.bind ?_ (fun _ => ?_))
   | exact isoglossref02_Class.mono _ _
   | exact LeO.none _
   | refine LeO.ite ?_ ?_
   | refine LeO.bind ?_ (fun _ => ?_)
set_option maxHeartbeats 8000000 in
set_option maxRecDepth 100000 in
theorem isoglossref20_word.calls (k : Nat) (a0 : ByteArray) (a1 : Bool) (r : Bool) (w : World) (h : isoglossref20_word.f k a0 a1 = some r) :
  Calls Try.prog 31 #[.string a0, .bool a1] w fun e w' => e = .returned (.bool r) ∧ Drawn0 w w' := by
 have H : ((isoglossref02_Class.f k a0).bind fun t167 => (if (a0.size : Int) ≤ 8 then (if t167 = 1 then (some true) else (if t167 > 0 then (some (!a1)) else (some false))) else (some false))) = some r := h
 clear h
 replace H := Option.bind_eq_some_iff.mp H
 obtain ⟨t167, A30, H⟩ := H
 replace H : (if (a0.size : Int) ≤ 8 then (if t167 = 1 then (some true) else (if t167 > 0 then (some (!a1)) else (some false))) else (some false)) = some r := H
 have A3 := Aside0.mk A30
 clear A30
 by_cases c4 : (a0.size : Int) ≤ 8
 ·rw [if_pos c4] at H
  have c4b0 : decide ((a0.size : Int) ≤ 8) = true := decide_eq_true c4
  have c4b1 : decide (a0.size ≤ 8) = true := decide_eq_true (by omega)
  clear c4
  by_cases c5 : t167 = 1
  ·rw [if_pos c5] at H
   have c5b0 : (t167 == 1) = true := beq_iff_eq.mpr c5
   have c5b1 : (t167 != 1) = false := bne_eq_false_iff_eq.mpr c5
   clear c5
   obtain rfl := Option.some.inj H
   go_enter Try.func31, Try.ntmps31
   go_wp2_with (first | ((with_reducible refine gate_callee (f := 40) rfl ?_); refine goesL_ (some 7) rfl rfl Try.func40 (by kernel_rfl) rfl #[.string a0] rfl (by (try simp only [List.map_toArray, List.map_cons, List.map_nil]); first | done | rfl | (simp only [List.length_drop, List.length_take]; rfl)) ?_; (with_reducible refine (isoglossref02_Class.calls k a0 t167 _ A3.out).mono ?_); rintro e w' ⟨rfl, ⟨nd, rfl⟩⟩; refine ⟨_, rfl, ?_⟩))
   go_ret
   exact ⟨by first | rfl | (simp; done) | (simp [*]; done), by repeat (first | exact Drawn0.refl _ | apply Drawn0.step)⟩
  ·rw [if_neg c5] at H
   have c5b0 : (t167 == 1) = false := beq_eq_false_iff_ne.mpr c5
   have c5b1 : (t167 != 1) = true := bne_iff_ne.mpr c5
   by_cases c6 : t167 > 0
   ·rw [if_pos c6] at H
    have c6b0 : decide (0 < t167) = true := decide_eq_true c6
    clear c6
    obtain rfl := Option.some.inj H
    go_enter Try.func31, Try.ntmps31
    go_wp2_with (first | ((with_reducible refine gate_callee (f := 40) rfl ?_); refine goesL_ (some 7) rfl rfl Try.func40 (by kernel_rfl) rfl #[.string a0] rfl (by (try simp only [List.map_toArray, List.map_cons, List.map_nil]); first | done | rfl | (simp only [List.length_drop, List.length_take]; rfl)) ?_; (with_reducible refine (isoglossref02_Class.calls k a0 t167 _ A3.out).mono ?_); rintro e w' ⟨rfl, ⟨nd, rfl⟩⟩; refine ⟨_, rfl, ?_⟩))
    go_ret
    exact ⟨by first | rfl | (simp; done) | (simp [*]; done), by repeat (first | exact Drawn0.refl _ | apply Drawn0.step)⟩
   ·rw [if_neg c6] at H
    have c6b0 : decide (0 < t167) = false := decide_eq_false c6
    clear c6
    obtain rfl := Option.some.inj H
    go_enter Try.func31, Try.ntmps31
    go_wp2_with (first | ((with_reducible refine gate_callee (f := 40) rfl ?_); refine goesL_ (some 7) rfl rfl Try.func40 (by kernel_rfl) rfl #[.string a0] rfl (by (try simp only [List.map_toArray, List.map_cons, List.map_nil]); first | done | rfl | (simp only [List.length_drop, List.length_take]; rfl)) ?_; (with_reducible refine (isoglossref02_Class.calls k a0 t167 _ A3.out).mono ?_); rintro e w' ⟨rfl, ⟨nd, rfl⟩⟩; refine ⟨_, rfl, ?_⟩))
    go_ret
    exact ⟨by first | rfl | (simp; done) | (simp [*]; done), by repeat (first | exact Drawn0.refl _ | apply Drawn0.step)⟩
 ·rw [if_neg c4] at H
  have c4b0 : decide ((a0.size : Int) ≤ 8) = false := decide_eq_false c4
  have c4b1 : decide (a0.size ≤ 8) = false := decide_eq_false (by omega)
  clear c4
  obtain rfl := Option.some.inj H
  go_enter Try.func31, Try.ntmps31
  go_wp2_with (first | ((with_reducible refine gate_callee (f := 40) rfl ?_); refine goesL_ (some 7) rfl rfl Try.func40 (by kernel_rfl) rfl #[.string a0] rfl (by (try simp only [List.map_toArray, List.map_cons, List.map_nil]); first | done | rfl | (simp only [List.length_drop, List.length_take]; rfl)) ?_; (with_reducible refine (isoglossref02_Class.calls k a0 t167 _ A3.out).mono ?_); rintro e w' ⟨rfl, ⟨nd, rfl⟩⟩; refine ⟨_, rfl, ?_⟩))
  go_ret
  exact ⟨by first | rfl | (simp; done) | (simp [*]; done), by repeat (first | exact Drawn0.refl _ | apply Drawn0.step)⟩

end Go.Proofs.Ytoigdaioghmlpaa.P
