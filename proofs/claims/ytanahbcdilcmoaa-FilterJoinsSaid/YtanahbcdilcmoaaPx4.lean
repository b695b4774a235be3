-- Written for this claim by the session's own run of the print, functions proved by hand put in.
import Derived.Test.YtanahbcdilcmoaaPx0
import Derived.Test.YtanahbcdilcmoaaPx3
namespace Go.Proofs.Ytanahbcdilcmoaa.P
open Go.RowKit Go.Proofs.YtanahbcdilcmoaaW.PrintWords Go.Proofs.YtanahbcdilcmoaaW.PrintLast Go.Proofs.YtanahbcdilcmoaaW.PrintMore
attribute [local go_sem] max2_int min2_int max_two min_two max_three min_three max_four min_four   -- for this text's walks alone
set_option linter.unusedVariables false
set_option linter.unusedSimpArgs false

/-! ### isoglossref02_Lower: function 15 -/
def isoglossref02_Lower.l0 : Nat → ByteArray → List Int → Int → Option (ByteArray)
 | 0, _, _, _ => none
 | k + 1, x0, x3, x4 => if x4 < (x0.size : Int) then (if 0 ≤ x4 then ((isoglossref02_lower.f (bt x0 x4)).bind fun t179 => (if x3.length < 140737488355328 then (isoglossref02_Lower.l0 k x0 (x3 ++ [t179]) (wrap64 (x4 + 1))) else (none))) else (none)) else (some (strOfNums x3))
def isoglossref02_Lower.f (k : Nat) (a0 : ByteArray) : Option (ByteArray) := isoglossref02_Lower.l0 k a0 ([] : List Int) 0
theorem isoglossref02_Lower.mono_l : ∀ k, (∀ y0 y1 y2, LeO (isoglossref02_Lower.l0 k y0 y1 y2) (isoglossref02_Lower.l0 (k + 1) y0 y1 y2))
 | 0 => fun _ _ _ r h => by simp [isoglossref02_Lower.l0] at h
 | k + 1 => by
  have ih0 := isoglossref02_Lower.mono_l k
  ·intro y0 y1 y2
   unfold isoglossref02_Lower.l0
   repeat' first
   | (with_reducible exact ih0 _ _ _)
   | (with_reducible exact LeO.refl _)
   | (with_reducible exact LeO.none _)
   | (with_reducible refine LeO.ite ?_ ?_)
   | (with_reducible refine LeO.bind ?_ (fun _ => ?_))
   | exact ih0 _ _ _
   | exact LeO.none _
   | refine LeO.ite ?_ ?_
   | refine LeO.bind ?_ (fun _ => ?_)
theorem isoglossref02_Lower.mono : ∀ a0 k, LeO (isoglossref02_Lower.f k a0) (isoglossref02_Lower.f (k + 1) a0) := by
 intro a0 k
 have ih0 := isoglossref02_Lower.mono_l k
 unfold isoglossref02_Lower.f
 repeat' first
   | (with_reducible exact ih0 _ _ _)
   | (with_reducible exact LeO.refl _)
   | (with_reducible exact LeO.none _)
   | (with_reducible refine LeO.ite ?_ ?_)
   | (with_reducible refine LeO.bind ?_ (fun _ => ?_))
   | exact ih0 _ _ _
   | exact LeO.none _
   | refine LeO.ite ?_ ?_
   | refine LeO.bind ?_ (fun _ => ?_)
set_option maxHeartbeats 8000000 in
set_option maxRecDepth 100000 in
theorem isoglossref02_Lower.calls (k : Nat) (a0 : ByteArray) (r : ByteArray) (w : World) (h : isoglossref02_Lower.f k a0 = some r) :
  Calls Try.prog 15 #[.string a0] w fun e w' => e = .returned (.string r) ∧ Below w.heap.size w w' := by
 have HB := Aside0.mk (Below.refl w.heap.size w)
 have H : (isoglossref02_Lower.l0 k a0 ([] : List Int) 0) = some r := h
 clear h
 have H' := Aside0.mk H
 clear H
 go_enter Try.func15, Try.ntmps15
 go_wp2
 go_loopg [3, 4] k (fun kq v3 v4 w' => ∃ (x3_1 : List Int) (x4_1 : Int), v4 = .int .i64 x4_1 ∧ Aside0 (isoglossref02_Lower.l0 kq a0 x3_1 x4_1 = some r) ∧ Aside0 (kq ≤ k) ∧ Aside0 (Kd.R (Kd.int .u8) 5 w' w.heap.size (fun _ => True) v3 x3_1) ∧ Aside0 (Below w.heap.size w w'))
 case atStart => exact ⟨(([] : List Int)), (0), (by first | rfl | (simp; done) | (simp [*]; done)), H', ⟨Nat.le_refl _⟩, ⟨by first | exact Kd.R_nil _ _ _ _ _ | exact Kd.N_nil _ _ _ _ _ | exact Kd.V_nil _ _ _ _ _ | exact Kd.Q_nil _ _ _ _ _ | exact Kd.S_nil _ _ _ _ _⟩, ⟨by repeat (first | (with_reducible first | exact HB.out | apply below_alloc | apply pw_below_drewN | apply below_drew1) | exact HB.out)⟩⟩
 case round =>
  clear H'
  try clear c1
  obtain ⟨x3_1, x4_1, rfl, HA, HK1, HO_3, HB⟩ := hrel
  cases gk with
  | zero => exact absurd HA.out (by simp [isoglossref02_Lower.l0])
  | succ k1 =>
   have H := HA.out
   clear HA
   simp only [isoglossref02_Lower.l0] at H
   by_cases c2 : x4_1 < (a0.size : Int)
   ·rw [if_pos c2] at H
    have c2b0 : decide (x4_1 < (a0.size : Int)) = true := decide_eq_true c2
    clear c2
    by_cases c3 : 0 ≤ x4_1
    ·rw [if_pos c3] at H
     have c3b0 : decide (0 ≤ x4_1) = true := decide_eq_true c3
     clear c3
     replace H := Option.bind_eq_some_iff.mp H
     obtain ⟨t179, A50, H⟩ := H
     replace H : (if x3_1.length < 140737488355328 then (isoglossref02_Lower.l0 k1 a0 (x3_1 ++ [t179]) (wrap64 (x4_1 + 1))) else (none)) = some r := H
     have A5 := Aside0.mk A50
     clear A50
     by_cases c6 : x3_1.length < 140737488355328
     ·rw [if_pos c6] at H
      have LMc6 := Aside0.mk c6
      clear c6
      obtain ⟨y180, hy180⟩ : ∃ y_ : List Int, y_ = (x3_1 ++ [t179]) := ⟨_, rfl⟩
      replace H : (isoglossref02_Lower.l0 k1 a0 y180 (wrap64 (x4_1 + 1))) = some r := by first | (rw [hy180]; with_reducible exact H) | (have H2_ := (Option.bind_some _ _).symm.trans H; rw [hy180]; with_reducible exact H2_) | (have H2_ := (Option.bind_some _ _).symm.trans H; with_reducible exact H2_) | with_reducible exact H | (rw [hy180]; exact H) | exact H
      have Ny180 := Aside0.mk hy180
      clear hy180
      have H' := Aside0.mk H
      clear H
      have p4 : 0 ≤ (x4_1 : Int) := of_decide_eq_true (by first | (with_reducible assumption) | assumption)
      have q4 : x4_1 < (a0.size : Int) := of_decide_eq_true (by first | (with_reducible assumption) | assumption)
      have hx4 := bt_at a0 x4_1
      replace p4 := eq_true p4
      replace q4 := eq_true q4
      go_wp2_with (first | ((with_reducible refine gate_callee (f := 32) rfl ?_); refine goesL_ (some 15) rfl rfl Try.func32 (by kernel_rfl) rfl #[.int .u8 (bt a0 x4_1)] rfl (by (try simp only [List.map_toArray, List.map_cons, List.map_nil]); first | done | rfl | (simp only [List.length_drop, List.length_take]; rfl)) ?_; (with_reducible refine (isoglossref02_lower.calls (bt a0 x4_1) t179 _ A5.out).mono ?_); rintro e w' ⟨rfl, ⟨nd, rfl⟩⟩; refine ⟨_, rfl, ?_⟩) | ((with_reducible refine gate_builtin (b := .append) (xs := #[.tmp 11, .tmp 16]) rfl ?_); at_builtin; refine Kd.R_append (Kd.int .u8) (w0 := w) w.heap.size rfl (.tmp 11) (.tmp 16) 35 5 (.int .u8 0) 1 rfl Try.underlying35 info5 rfl (by decide) (by omega) u3 x3_1 t179 [.int .u8 t179] (fun _ => True) (fun _ => False) rfl rfl ?aP (fun _ hk => hk.elim) ?aF ?aO ?aB ?aS ?aL ?_; (case aP => exact rfl); (case aB => exact (by repeat (first | (with_reducible first | exact HB.out | apply below_alloc | apply pw_below_drewN | apply below_drew1) | exact HB.out))); (case aF => exact (fun _ _ => trivial)); (case aO => exact (by (with_reducible repeat (first | apply Kd.R_alloc | apply Kd.R_drewN | apply Kd.R_drew)); exact HO_3.out)); (case aS => exact (below_size (by repeat (first | (with_reducible first | exact HB.out | apply below_alloc | apply pw_below_drewN | apply below_drew1) | exact HB.out)))); (case aL => have := LMc6.out; omega); intro v181 w7 ho hb hg hat; rw [← Ny180.out] at ho; have n0_ := Aside0.mk (hb); have n1_ := Aside0.mk (ho); clear HB; clear HO_3; have HB := n0_; have HO182 := n1_; clear n0_ n1_; clear ho hb hg hat))
      go_roundg k1
      case measure => have := HK1.out; omega
      case rel => exact ⟨(y180), (wrap64 (x4_1 + 1)), (by first | rfl | (simp; done) | (simp [*]; done)), H', ⟨by have := HK1.out; omega⟩, ⟨by (with_reducible repeat (first | apply Kd.R_alloc | apply Kd.R_drewN | apply Kd.R_drew)); exact HO182.out⟩, ⟨by repeat (first | (with_reducible first | exact HB.out | apply below_alloc | apply pw_below_drewN | apply below_drew1) | exact HB.out)⟩⟩
     ·rw [if_neg c6] at H
      exact absurd H (by simp)
    ·rw [if_neg c3] at H
     exact absurd H (by simp)
   ·rw [if_neg c2] at H
    have c2b0 : decide (x4_1 < (a0.size : Int)) = false := decide_eq_false c2
    clear c2
    obtain rfl := Option.some.inj H
    have hcv8 := own_string (P := Try.prog) Try.underlying35 Try.underlying5 Try.underlying9 (Kd.own_of_R HO_3.out)
    go_wp2
    go_ret
    exact ⟨by first | rfl | (simp [errW_none, errW_some] <;> rfl) | (simp [*, errW_none, errW_some] <;> rfl), by repeat (first | (with_reducible first | exact HB.out | apply below_alloc | apply pw_below_drewN | apply below_drew1) | exact HB.out)⟩

/-! ### isoglossref20_Matches: function 27 -/
def isoglossref20_Matches.j0 : Nat → ByteArray → ByteArray → Bool → Bool → Option (Bool)
 | 0, _, _, _, _ => none
 | k + 1, x0, x1, x5, x15 => if x15 = true then (some x5) else ((isoglossref02_Lower.f k x0).bind fun t184 => ((isoglossref02_Lower.f k x1).bind fun t185 => (if t184.toList = t185.toList then (some true) else (if (t185.size : Int) > (t184.size : Int) then (if 0 ≤ (t184.size : Int) then (if (t184.size : Int) ≤ (t185.size : Int) then (if (t185.extract 0 t184.size).toList = t184.toList then (if (t184.size : Int) < (t185.size : Int) then (some ((bt t185 (t184.size : Int)) == 45)) else (none)) else (some false)) else (none)) else (none)) else (some false)))))
def isoglossref20_Matches.f (k : Nat) (a0 : ByteArray) (a1 : ByteArray) : Option (Bool) := (isoglossref20_Basic.f k a0).bind fun t183 => (if t183 = true then (isoglossref20_Matches.j0 k a0 a1 t183 (a0.toList == ([42] : List UInt8))) else (isoglossref20_Matches.j0 k a0 a1 t183 true))
theorem isoglossref20_Matches.mono_l : ∀ k, (∀ y0 y1 y2 y3, LeO (isoglossref20_Matches.j0 k y0 y1 y2 y3) (isoglossref20_Matches.j0 (k + 1) y0 y1 y2 y3))
 | 0 => fun _ _ _ _ r h => by simp [isoglossref20_Matches.j0] at h
 | k + 1 => by
  have ih0 := isoglossref20_Matches.mono_l k
  ·intro y0 y1 y2 y3
   unfold isoglossref20_Matches.j0
   repeat' first
   | (with_reducible exact ih0 _ _ _ _)
   | (with_reducible exact isoglossref02_Lower.mono _ _)
   | (with_reducible exact isoglossref20_Basic.mono _ _)
   | (with_reducible exact LeO.refl _)
   | (with_reducible exact LeO.none _)
   | (with_reducible refine LeO.ite ?_ ?_)
   | (with_reducible refine LeO.bind ?_ (fun _ => ?_))
   | exact ih0 _ _ _ _
   | exact isoglossref02_Lower.mono _ _
   | exact isoglossref20_Basic.mono _ _
   | exact LeO.none _
   | refine LeO.ite ?_ ?_
   | refine LeO.bind ?_ (fun _ => ?_)
theorem isoglossref20_Matches.mono : ∀ a0 a1 k, LeO (isoglossref20_Matches.f k a0 a1) (isoglossref20_Matches.f (k + 1) a0 a1) := by
 intro a0 a1 k
 have ih0 := isoglossref20_Matches.mono_l k
 unfold isoglossref20_Matches.f
 repeat' first
   | (with_reducible exact ih0 _ _ _ _)
   | (with_reducible exact isoglossref02_Lower.mono _ _)
   | (with_reducible exact isoglossref20_Basic.mono _ _)
   | (with_reducible exact LeO.refl _)
   | (with_reducible exact LeO.none _)
   | (with_reducible refine LeO.ite ?_ ?_)
   | (with_reducible refine LeO.bind ?_ (fun _ => ?_))
   | exact ih0 _ _ _ _
   | exact isoglossref02_Lower.mono _ _
   | exact isoglossref20_Basic.mono _ _
   | exact LeO.none _
   | refine LeO.ite ?_ ?_
   | refine LeO.bind ?_ (fun _ => ?_)
set_option maxHeartbeats 8000000 in
set_option maxRecDepth 100000 in
theorem isoglossref20_Matches.calls (k : Nat) (a0 : ByteArray) (a1 : ByteArray) (r : Bool) (w : World) (h : isoglossref20_Matches.f k a0 a1 = some r) :
  Calls Try.prog 27 #[.string a0, .string a1] w fun e w' => e = .returned (.bool r) ∧ Below w.heap.size w w' := by
 have HB := Aside0.mk (Below.refl w.heap.size w)
 have H : ((isoglossref20_Basic.f k a0).bind fun t183 => (if t183 = true then (isoglossref20_Matches.j0 k a0 a1 t183 (a0.toList == ([42] : List UInt8))) else (isoglossref20_Matches.j0 k a0 a1 t183 true))) = some r := h
 clear h
 replace H := Option.bind_eq_some_iff.mp H
 obtain ⟨t183, A30, H⟩ := H
 replace H : (if t183 = true then (isoglossref20_Matches.j0 k a0 a1 t183 (a0.toList == ([42] : List UInt8))) else (isoglossref20_Matches.j0 k a0 a1 t183 true)) = some r := H
 have A3 := Aside0.mk A30
 clear A30
 have HC4 := Aside0.mk H
 clear H
 go_enter Try.func27, Try.ntmps27
 go_upto_region 2 with (first | ((with_reducible refine gate_callee (f := 25) rfl ?_); refine goesL_ (some 9) rfl rfl Try.func25 (by kernel_rfl) rfl #[.string a0] rfl (by (try simp only [List.map_toArray, List.map_cons, List.map_nil]); first | done | rfl | (simp only [List.length_drop, List.length_take]; rfl)) ?_; (with_reducible refine (isoglossref20_Basic.calls k a0 t183 _ A3.out).mono ?_); rintro e w5 ⟨rfl, hb⟩; refine ⟨_, rfl, ?_⟩; have n0_ := Aside0.mk (below_step (by repeat (first | (with_reducible first | exact HB.out | apply below_alloc | apply pw_below_drewN | apply below_drew1) | exact HB.out)) hb); clear HB; have HB := n0_; clear n0_; (try clear hb); (try clear hb2); (try clear hk); (try clear hi)))
 (try simp only [Act.put, List.setIfInBounds_toArray, List.set_cons_zero, List.set_cons_succ])
 go_cut [15] (fun v15 wc => ∃ (kq : Nat) (x15_3 : Bool), v15 = .bool x15_3 ∧ Aside0 (isoglossref20_Matches.j0 kq a0 a1 t183 x15_3 = some r) ∧ Aside0 (kq ≤ k) ∧ Aside0 (Below w.heap.size w wc))
 case first =>
  have H := HC4.out
  clear HC4
  by_cases c6 : t183 = true
  ·subst c6
   have H1 : (isoglossref20_Matches.j0 k a0 a1 true (a0.toList == ([42] : List UInt8))) = some r := by rw [if_pos rfl] at H; exact H
   clear H
   have H := H1
   clear H1
   have H' := Aside0.mk H
   clear H
   go_wp2
   go_meet
   case rel => exact ⟨_, ((a0.toList == ([42] : List UInt8))), (by first | rfl | (simp; done) | (simp [*]; done)), H', ⟨by first | omega | exact Nat.le_refl _⟩, ⟨by repeat (first | (with_reducible first | exact HB.out | apply below_alloc | apply pw_below_drewN | apply below_drew1) | exact HB.out)⟩⟩
  ·replace c6 := Bool.eq_false_iff.mpr c6
   subst c6
   have H1 : (isoglossref20_Matches.j0 k a0 a1 false true) = some r := by rw [if_neg (show ¬ (false = true) by decide)] at H; exact H
   clear H
   have H := H1
   clear H1
   have H' := Aside0.mk H
   clear H
   go_wp2
   go_meet
   case rel => exact ⟨_, (true), (by first | rfl | (simp; done) | (simp [*]; done)), H', ⟨by first | omega | exact Nat.le_refl _⟩, ⟨by repeat (first | (with_reducible first | exact HB.out | apply below_alloc | apply pw_below_drewN | apply below_drew1) | exact HB.out)⟩⟩
 case rest =>
  clear HC4
  try clear c2
  try clear p2
  try clear c6
  obtain ⟨kq, x15_3, rfl, HA, HJ3, HB⟩ := hcut
  cases kq with
  | zero => exact absurd HA.out (by simp [isoglossref20_Matches.j0])
  | succ kj3 =>
   have H := HA.out
   clear HA
   simp only [isoglossref20_Matches.j0] at H
   by_cases c7 : x15_3 = true
   ·subst c7
    have H1 : (some t183) = some r := by rw [if_pos rfl] at H; exact H
    clear H
    have H := H1
    clear H1
    obtain rfl := Option.some.inj H
    go_wp2
    go_ret
    exact ⟨by first | rfl | (simp [errW_none, errW_some] <;> rfl) | (simp [*, errW_none, errW_some] <;> rfl), by repeat (first | (with_reducible first | exact HB.out | apply below_alloc | apply pw_below_drewN | apply below_drew1) | exact HB.out)⟩
   ·replace c7 := Bool.eq_false_iff.mpr c7
    subst c7
    have H1 : ((isoglossref02_Lower.f kj3 a0).bind fun t184 => ((isoglossref02_Lower.f kj3 a1).bind fun t185 => (if t184.toList = t185.toList then (some true) else (if (t185.size : Int) > (t184.size : Int) then (if 0 ≤ (t184.size : Int) then (if (t184.size : Int) ≤ (t185.size : Int) then (if (t185.extract 0 t184.size).toList = t184.toList then (if (t184.size : Int) < (t185.size : Int) then (some ((bt t185 (t184.size : Int)) == 45)) else (none)) else (some false)) else (none)) else (none)) else (some false))))) = some r := by rw [if_neg (show ¬ (false = true) by decide)] at H; exact H
    clear H
    have H := H1
    clear H1
    replace H := Option.bind_eq_some_iff.mp H
    obtain ⟨t184, A80, H⟩ := H
    replace H : ((isoglossref02_Lower.f kj3 a1).bind fun t185 => (if t184.toList = t185.toList then (some true) else (if (t185.size : Int) > (t184.size : Int) then (if 0 ≤ (t184.size : Int) then (if (t184.size : Int) ≤ (t185.size : Int) then (if (t185.extract 0 t184.size).toList = t184.toList then (if (t184.size : Int) < (t185.size : Int) then (some ((bt t185 (t184.size : Int)) == 45)) else (none)) else (some false)) else (none)) else (none)) else (some false)))) = some r := H
    have A8 := Aside0.mk A80
    clear A80
    replace H := Option.bind_eq_some_iff.mp H
    obtain ⟨t185, A90, H⟩ := H
    replace H : (if t184.toList = t185.toList then (some true) else (if (t185.size : Int) > (t184.size : Int) then (if 0 ≤ (t184.size : Int) then (if (t184.size : Int) ≤ (t185.size : Int) then (if (t185.extract 0 t184.size).toList = t184.toList then (if (t184.size : Int) < (t185.size : Int) then (some ((bt t185 (t184.size : Int)) == 45)) else (none)) else (some false)) else (none)) else (none)) else (some false))) = some r := H
    have A9 := Aside0.mk A90
    clear A90
    by_cases c10 : t184.toList = t185.toList
    ·rw [if_pos c10] at H
     have c10b0 : (t184.toList == t185.toList) = true := beq_iff_eq.mpr c10
     have c10b1 : (t184.toList != t185.toList) = false := bne_eq_false_iff_eq.mpr c10
     clear c10
     obtain rfl := Option.some.inj H
     go_wp2_with (first | ((with_reducible refine gate_callee (f := 15) rfl ?_); refine goesL_ (some 18) rfl rfl Try.func15 (by kernel_rfl) rfl #[.string a0] rfl (by (try simp only [List.map_toArray, List.map_cons, List.map_nil]); first | done | rfl | (simp only [List.length_drop, List.length_take]; rfl)) ?_; (with_reducible refine (isoglossref02_Lower.calls kj3 a0 t184 _ A8.out).mono ?_); rintro e w11 ⟨rfl, hb⟩; refine ⟨_, rfl, ?_⟩; have n0_ := Aside0.mk (below_step (by repeat (first | (with_reducible first | exact HB.out | apply below_alloc | apply pw_below_drewN | apply below_drew1) | exact HB.out)) hb); clear HB; have HB := n0_; clear n0_; (try clear hb); (try clear hb2); (try clear hk); (try clear hi)) | ((with_reducible refine gate_callee (f := 15) rfl ?_); refine goesL_ (some 20) rfl rfl Try.func15 (by kernel_rfl) rfl #[.string a1] rfl (by (try simp only [List.map_toArray, List.map_cons, List.map_nil]); first | done | rfl | (simp only [List.length_drop, List.length_take]; rfl)) ?_; (with_reducible refine (isoglossref02_Lower.calls kj3 a1 t185 _ A9.out).mono ?_); rintro e w12 ⟨rfl, hb⟩; refine ⟨_, rfl, ?_⟩; have n0_ := Aside0.mk (below_step (by repeat (first | (with_reducible first | exact HB.out | apply below_alloc | apply pw_below_drewN | apply below_drew1) | exact HB.out)) hb); clear HB; have HB := n0_; clear n0_; (try clear hb); (try clear hb2); (try clear hk); (try clear hi)))
     go_ret
     exact ⟨by first | rfl | (simp [errW_none, errW_some] <;> rfl) | (simp [*, errW_none, errW_some] <;> rfl), by repeat (first | (with_reducible first | exact HB.out | apply below_alloc | apply pw_below_drewN | apply below_drew1) | exact HB.out)⟩
    ·rw [if_neg c10] at H
     have c10b0 : (t184.toList == t185.toList) = false := beq_eq_false_iff_ne.mpr c10
     have c10b1 : (t184.toList != t185.toList) = true := bne_iff_ne.mpr c10
     by_cases c13 : (t185.size : Int) > (t184.size : Int)
     ·rw [if_pos c13] at H
      have c13b0 : decide ((t184.size : Int) < (t185.size : Int)) = true := decide_eq_true c13
      have c13b1 : decide (t184.size < t185.size) = true := decide_eq_true (Int.ofNat_lt.mp c13)
      clear c13
      by_cases c14 : 0 ≤ (t184.size : Int)
      ·rw [if_pos c14] at H
       have c14b0 := eq_true c14
       have c14b1 : decide (0 ≤ (t184.size : Int)) = true := decide_eq_true c14
       clear c14
       by_cases c15 : (t184.size : Int) ≤ (t185.size : Int)
       ·rw [if_pos c15] at H
        have c15b0 := eq_true c15
        have c15b1 : decide ((t184.size : Int) ≤ (t185.size : Int)) = true := decide_eq_true c15
        clear c15
        by_cases c16 : (t185.extract 0 t184.size).toList = t184.toList
        ·rw [if_pos c16] at H
         have c16b0 : ((t185.extract 0 t184.size).toList == t184.toList) = true := beq_iff_eq.mpr c16
         have c16b1 : ((t185.extract 0 t184.size).toList != t184.toList) = false := bne_eq_false_iff_eq.mpr c16
         clear c16
         by_cases c17 : (t184.size : Int) < (t185.size : Int)
         ·rw [if_pos c17] at H
          have c17b0 : decide ((t184.size : Int) < (t185.size : Int)) = true := decide_eq_true c17
          have c17b1 : decide (t184.size < t185.size) = true := decide_eq_true (Int.ofNat_lt.mp c17)
          clear c17
          obtain rfl := Option.some.inj H
          go_wp2_with (first | ((with_reducible refine gate_callee (f := 15) rfl ?_); refine goesL_ (some 18) rfl rfl Try.func15 (by kernel_rfl) rfl #[.string a0] rfl (by (try simp only [List.map_toArray, List.map_cons, List.map_nil]); first | done | rfl | (simp only [List.length_drop, List.length_take]; rfl)) ?_; (with_reducible refine (isoglossref02_Lower.calls kj3 a0 t184 _ A8.out).mono ?_); rintro e w19 ⟨rfl, hb⟩; refine ⟨_, rfl, ?_⟩; have n0_ := Aside0.mk (below_step (by repeat (first | (with_reducible first | exact HB.out | apply below_alloc | apply pw_below_drewN | apply below_drew1) | exact HB.out)) hb); clear HB; have HB := n0_; clear n0_; (try clear hb); (try clear hb2); (try clear hk); (try clear hi)) | ((with_reducible refine gate_callee (f := 15) rfl ?_); refine goesL_ (some 20) rfl rfl Try.func15 (by kernel_rfl) rfl #[.string a1] rfl (by (try simp only [List.map_toArray, List.map_cons, List.map_nil]); first | done | rfl | (simp only [List.length_drop, List.length_take]; rfl)) ?_; (with_reducible refine (isoglossref02_Lower.calls kj3 a1 t185 _ A9.out).mono ?_); rintro e w20 ⟨rfl, hb⟩; refine ⟨_, rfl, ?_⟩; have n0_ := Aside0.mk (below_step (by repeat (first | (with_reducible first | exact HB.out | apply below_alloc | apply pw_below_drewN | apply below_drew1) | exact HB.out)) hb); clear HB; have HB := n0_; clear n0_; (try clear hb); (try clear hb2); (try clear hk); (try clear hi); have p18 : 0 ≤ ((t184.size : Int) : Int) := of_decide_eq_true (by first | (with_reducible assumption) | assumption); have q18 : (t184.size : Int) < (t185.size : Int) := of_decide_eq_true (by first | (with_reducible assumption) | assumption); have hx18 := bt_at t185 (t184.size : Int); (try simp only [Int.toNat_natCast] at hx18); (try replace hx18 := hx18 (Int.ofNat_lt.mp q18)); replace p18 := eq_true p18; replace q18 := eq_true q18))
          go_ret
          exact ⟨by first | rfl | (simp [errW_none, errW_some] <;> rfl) | (simp [*, errW_none, errW_some] <;> rfl), by repeat (first | (with_reducible first | exact HB.out | apply below_alloc | apply pw_below_drewN | apply below_drew1) | exact HB.out)⟩
         ·rw [if_neg c17] at H
          exact absurd H (by simp)
        ·rw [if_neg c16] at H
         have c16b0 : ((t185.extract 0 t184.size).toList == t184.toList) = false := beq_eq_false_iff_ne.mpr c16
         have c16b1 : ((t185.extract 0 t184.size).toList != t184.toList) = true := bne_iff_ne.mpr c16
         obtain rfl := Option.some.inj H
         go_wp2_with (first | ((with_reducible refine gate_callee (f := 15) rfl ?_); refine goesL_ (some 18) rfl rfl Try.func15 (by kernel_rfl) rfl #[.string a0] rfl (by (try simp only [List.map_toArray, List.map_cons, List.map_nil]); first | done | rfl | (simp only [List.length_drop, List.length_take]; rfl)) ?_; (with_reducible refine (isoglossref02_Lower.calls kj3 a0 t184 _ A8.out).mono ?_); rintro e w21 ⟨rfl, hb⟩; refine ⟨_, rfl, ?_⟩; have n0_ := Aside0.mk (below_step (by repeat (first | (with_reducible first | exact HB.out | apply below_alloc | apply pw_below_drewN | apply below_drew1) | exact HB.out)) hb); clear HB; have HB := n0_; clear n0_; (try clear hb); (try clear hb2); (try clear hk); (try clear hi)) | ((with_reducible refine gate_callee (f := 15) rfl ?_); refine goesL_ (some 20) rfl rfl Try.func15 (by kernel_rfl) rfl #[.string a1] rfl (by (try simp only [List.map_toArray, List.map_cons, List.map_nil]); first | done | rfl | (simp only [List.length_drop, List.length_take]; rfl)) ?_; (with_reducible refine (isoglossref02_Lower.calls kj3 a1 t185 _ A9.out).mono ?_); rintro e w22 ⟨rfl, hb⟩; refine ⟨_, rfl, ?_⟩; have n0_ := Aside0.mk (below_step (by repeat (first | (with_reducible first | exact HB.out | apply below_alloc | apply pw_below_drewN | apply below_drew1) | exact HB.out)) hb); clear HB; have HB := n0_; clear n0_; (try clear hb); (try clear hb2); (try clear hk); (try clear hi)))
         go_ret
         exact ⟨by first | rfl | (simp [errW_none, errW_some] <;> rfl) | (simp [*, errW_none, errW_some] <;> rfl), by repeat (first | (with_reducible first | exact HB.out | apply below_alloc | apply pw_below_drewN | apply below_drew1) | exact HB.out)⟩
       ·rw [if_neg c15] at H
        exact absurd H (by simp)
      ·rw [if_neg c14] at H
       exact absurd H (by simp)
     ·rw [if_neg c13] at H
      have c13b0 : decide ((t184.size : Int) < (t185.size : Int)) = false := decide_eq_false c13
      have c13b1 : decide (t184.size < t185.size) = false := decide_eq_false (fun h => c13 (Int.ofNat_lt.mpr h))
      clear c13
      obtain rfl := Option.some.inj H
      go_wp2_with (first | ((with_reducible refine gate_callee (f := 15) rfl ?_); refine goesL_ (some 18) rfl rfl Try.func15 (by kernel_rfl) rfl #[.string a0] rfl (by (try simp only [List.map_toArray, List.map_cons, List.map_nil]); first | done | rfl | (simp only [List.length_drop, List.length_take]; rfl)) ?_; (with_reducible refine (isoglossref02_Lower.calls kj3 a0 t184 _ A8.out).mono ?_); rintro e w23 ⟨rfl, hb⟩; refine ⟨_, rfl, ?_⟩; have n0_ := Aside0.mk (below_step (by repeat (first | (with_reducible first | exact HB.out | apply below_alloc | apply pw_below_drewN | apply below_drew1) | exact HB.out)) hb); clear HB; have HB := n0_; clear n0_; (try clear hb); (try clear hb2); (try clear hk); (try clear hi)) | ((with_reducible refine gate_callee (f := 15) rfl ?_); refine goesL_ (some 20) rfl rfl Try.func15 (by kernel_rfl) rfl #[.string a1] rfl (by (try simp only [List.map_toArray, List.map_cons, List.map_nil]); first | done | rfl | (simp only [List.length_drop, List.length_take]; rfl)) ?_; (with_reducible refine (isoglossref02_Lower.calls kj3 a1 t185 _ A9.out).mono ?_); rintro e w24 ⟨rfl, hb⟩; refine ⟨_, rfl, ?_⟩; have n0_ := Aside0.mk (below_step (by repeat (first | (with_reducible first | exact HB.out | apply below_alloc | apply pw_below_drewN | apply below_drew1) | exact HB.out)) hb); clear HB; have HB := n0_; clear n0_; (try clear hb); (try clear hb2); (try clear hk); (try clear hi)))
      go_ret
      exact ⟨by first | rfl | (simp [errW_none, errW_some] <;> rfl) | (simp [*, errW_none, errW_some] <;> rfl), by repeat (first | (with_reducible first | exact HB.out | apply below_alloc | apply pw_below_drewN | apply below_drew1) | exact HB.out)⟩

/-! ### isoglossref02_Compare: function 39 -/
mutual
def isoglossref02_Compare.l0 : Nat → ByteArray → ByteArray → Int → Option (Int)
 | 0, _, _, _ => none
 | k + 1, x5, x6, x7 => if x7 < (x5.size : Int) then (isoglossref02_Compare.j1 k x5 x6 x7 (decide (x7 < (x6.size : Int)))) else (isoglossref02_Compare.j1 k x5 x6 x7 false)
def isoglossref02_Compare.j1 : Nat → ByteArray → ByteArray → Int → Bool → Option (Int)
 | 0, _, _, _, _ => none
 | k + 1, x5, x6, x7, x21 => if x21 = true then (if 0 ≤ x7 then (if x7 < (x5.size : Int) then (if x7 < (x6.size : Int) then (if (bt x5 x7) < (bt x6 x7) then (some (-1)) else (if (bt x5 x7) > (bt x6 x7) then (some 1) else (isoglossref02_Compare.l0 k x5 x6 (wrap64 (x7 + 1))))) else (none)) else (none)) else (none)) else (if (x5.size : Int) < (x6.size : Int) then (some (-1)) else (if (x5.size : Int) > (x6.size : Int) then (some 1) else (some 0)))
end
def isoglossref02_Compare.f (k : Nat) (a0 : ByteArray) (a1 : ByteArray) : Option (Int) := (isoglossref02_Lower.f k a0).bind fun t186 => ((isoglossref02_Lower.f k a1).bind fun t187 => (isoglossref02_Compare.l0 k t186 t187 0))
theorem isoglossref02_Compare.mono_l : ∀ k, (∀ y0 y1 y2, LeO (isoglossref02_Compare.l0 k y0 y1 y2) (isoglossref02_Compare.l0 (k + 1) y0 y1 y2)) ∧ (∀ y0 y1 y2 y3, LeO (isoglossref02_Compare.j1 k y0 y1 y2 y3) (isoglossref02_Compare.j1 (k + 1) y0 y1 y2 y3))
 | 0 => ⟨fun _ _ _ r h => by simp [isoglossref02_Compare.l0] at h, fun _ _ _ _ r h => by simp [isoglossref02_Compare.j1] at h⟩
 | k + 1 => by
  obtain ⟨ih0, ih1⟩ := isoglossref02_Compare.mono_l k
  refine ⟨?_, ?_⟩
  ·intro y0 y1 y2
   unfold isoglossref02_Compare.l0
   repeat' first
   | (with_reducible exact ih0 _ _ _)
   | (with_reducible exact ih1 _ _ _ _)
   | (with_reducible exact isoglossref02_Lower.mono _ _)
   | (with_reducible exact LeO.refl _)
   | (with_reducible exact LeO.none _)
   | (with_reducible refine LeO.ite ?_ ?_)
   | (with_reducible refine LeO.bind ?_ (fun _ => ?_))
   | exact ih0 _ _ _
   | exact ih1 _ _ _ _
   | exact isoglossref02_Lower.mono _ _
   | exact LeO.none _
   | refine LeO.ite ?_ ?_
   | refine LeO.bind ?_ (fun _ => ?_)
  ·intro y0 y1 y2 y3
   unfold isoglossref02_Compare.j1
   repeat' first
   | (with_reducible exact ih0 _ _ _)
   | (with_reducible exact ih1 _ _ _ _)
   | (with_reducible exact isoglossref02_Lower.mono _ _)
   | (with_reducible exact LeO.refl _)
   | (with_reducible exact LeO.none _)
   | (with_reducible refine LeO.ite ?_ ?_)
   | (with_reducible refine LeO.bind ?_ (fun _ => ?_))
   | exact ih0 _ _ _
   | exact ih1 _ _ _ _
   | exact isoglossref02_Lower.mono _ _
   | exact LeO.none _
   | refine LeO.ite ?_ ?_
   | refine LeO.bind ?_ (fun _ => ?_)
theorem isoglossref02_Compare.mono : ∀ a0 a1 k, LeO (isoglossref02_Compare.f k a0 a1) (isoglossref02_Compare.f (k + 1) a0 a1) := by
 intro a0 a1 k
 obtain ⟨ih0, ih1⟩ := isoglossref02_Compare.mono_l k
 unfold isoglossref02_Compare.f
 repeat' first
   | (with_reducible exact ih0 _ _ _)
   | (with_reducible exact ih1 _ _ _ _)
   | (with_reducible exact isoglossref02_Lower.mono _ _)
   | (with_reducible exact LeO.refl _)
   | (with_reducible exact LeO.none _)
   | (with_reducible refine LeO.ite ?_ ?_)
   | (with_reducible refine LeO.bind ?_ (fun _ => ?_))
   | exact ih0 _ _ _
   | exact ih1 _ _ _ _
   | exact isoglossref02_Lower.mono _ _
   | exact LeO.none _
   | refine LeO.ite ?_ ?_
   | refine LeO.bind ?_ (fun _ => ?_)
set_option maxHeartbeats 8000000 in
set_option maxRecDepth 100000 in
theorem isoglossref02_Compare.calls (k : Nat) (a0 : ByteArray) (a1 : ByteArray) (r : Int) (w : World) (h : isoglossref02_Compare.f k a0 a1 = some r) :
  Calls Try.prog 39 #[.string a0, .string a1] w fun e w' => e = .returned (.int .i64 r) ∧ Below w.heap.size w w' := by
 have HB := Aside0.mk (Below.refl w.heap.size w)
 have H : ((isoglossref02_Lower.f k a0).bind fun t186 => ((isoglossref02_Lower.f k a1).bind fun t187 => (isoglossref02_Compare.l0 k t186 t187 0))) = some r := h
 clear h
 replace H := Option.bind_eq_some_iff.mp H
 obtain ⟨t186, A30, H⟩ := H
 replace H : ((isoglossref02_Lower.f k a1).bind fun t187 => (isoglossref02_Compare.l0 k t186 t187 0)) = some r := H
 have A3 := Aside0.mk A30
 clear A30
 replace H := Option.bind_eq_some_iff.mp H
 obtain ⟨t187, A40, H⟩ := H
 replace H : (isoglossref02_Compare.l0 k t186 t187 0) = some r := H
 have A4 := Aside0.mk A40
 clear A40
 have H' := Aside0.mk H
 clear H
 go_enter Try.func39, Try.ntmps39
 go_wp2_with (first | (go_at_call 15; (with_reducible refine (isoglossref02_Lower.calls k a0 t186 _ A3.out).mono ?_); rintro e w5 ⟨rfl, hb⟩; have n0_ := Aside0.mk (below_step (by repeat (first | (with_reducible first | exact HB.out | apply below_alloc | apply pw_below_drewN | apply below_drew1) | exact HB.out)) hb); clear HB; have HB := n0_; clear n0_; (try clear hb); (try clear hb2); (try clear hk); (try clear hi)) | (go_at_call 15; (with_reducible refine (isoglossref02_Lower.calls k a1 t187 _ A4.out).mono ?_); rintro e w6 ⟨rfl, hb⟩; have n0_ := Aside0.mk (below_step (by repeat (first | (with_reducible first | exact HB.out | apply below_alloc | apply pw_below_drewN | apply below_drew1) | exact HB.out)) hb); clear HB; have HB := n0_; clear n0_; (try clear hb); (try clear hb2); (try clear hk); (try clear hi)))
 repeat (go_quiet (first | (go_at_call 15; (with_reducible refine (isoglossref02_Lower.calls k a0 t186 _ A3.out).mono ?_); rintro e w5 ⟨rfl, hb⟩; have n0_ := Aside0.mk (below_step (by repeat (first | (with_reducible first | exact HB.out | apply below_alloc | apply pw_below_drewN | apply below_drew1) | exact HB.out)) hb); clear HB; have HB := n0_; clear n0_; (try clear hb); (try clear hb2); (try clear hk); (try clear hi)) | (go_at_call 15; (with_reducible refine (isoglossref02_Lower.calls k a1 t187 _ A4.out).mono ?_); rintro e w6 ⟨rfl, hb⟩; have n0_ := Aside0.mk (below_step (by repeat (first | (with_reducible first | exact HB.out | apply below_alloc | apply pw_below_drewN | apply below_drew1) | exact HB.out)) hb); clear HB; have HB := n0_; clear n0_; (try clear hb); (try clear hb2); (try clear hk); (try clear hi))); try go_wp2_with (first | (go_at_call 15; (with_reducible refine (isoglossref02_Lower.calls k a0 t186 _ A3.out).mono ?_); rintro e w5 ⟨rfl, hb⟩; have n0_ := Aside0.mk (below_step (by repeat (first | (with_reducible first | exact HB.out | apply below_alloc | apply pw_below_drewN | apply below_drew1) | exact HB.out)) hb); clear HB; have HB := n0_; clear n0_; (try clear hb); (try clear hb2); (try clear hk); (try clear hi)) | (go_at_call 15; (with_reducible refine (isoglossref02_Lower.calls k a1 t187 _ A4.out).mono ?_); rintro e w6 ⟨rfl, hb⟩; have n0_ := Aside0.mk (below_step (by repeat (first | (with_reducible first | exact HB.out | apply below_alloc | apply pw_below_drewN | apply below_drew1) | exact HB.out)) hb); clear HB; have HB := n0_; clear n0_; (try clear hb); (try clear hb2); (try clear hk); (try clear hi))))
 go_loopg [7] k (fun kq v7 w' => ∃ (x7_1 : Int), v7 = .int .i64 x7_1 ∧ Aside0 (isoglossref02_Compare.l0 kq t186 t187 x7_1 = some r) ∧ Aside0 (kq ≤ k) ∧ Aside0 (Below w.heap.size w w'))
 case atStart => exact ⟨(0), (by first | rfl | (simp; done) | (simp [*]; done)), H', ⟨Nat.le_refl _⟩, ⟨by repeat (first | (with_reducible first | exact HB.out | apply below_alloc | apply pw_below_drewN | apply below_drew1) | exact HB.out)⟩⟩
 case round =>
  clear H'
  try clear p2
  try clear c3
  obtain ⟨x7_1, rfl, HA, HK1, HB⟩ := hrel
  cases gk with
  | zero => exact absurd HA.out (by simp [isoglossref02_Compare.l0])
  | succ k1 =>
   have H := HA.out
   clear HA
   simp only [isoglossref02_Compare.l0] at H
   have HC7 := Aside0.mk H
   clear H
   go_upto_region 4 with (fail)
   repeat (go_quiet (fail); go_upto_region 4 with (fail))
   go_cut [21] (fun v21 wc => ∃ (kq : Nat) (x21_6 : Bool), v21 = .bool x21_6 ∧ Aside0 (isoglossref02_Compare.j1 kq t186 t187 x7_1 x21_6 = some r) ∧ Aside0 (kq ≤ k1) ∧ Aside0 (Below w.heap.size w wc))
   case first =>
    have H := HC7.out
    clear HC7
    by_cases c8 : x7_1 < (t186.size : Int)
    ·rw [if_pos c8] at H
     have c8b0 : decide (x7_1 < (t186.size : Int)) = true := decide_eq_true c8
     clear c8
     (first | rw [c8b0] | (simp only [i64_w, i32_w]; rw [c8b0]) | skip)
     have H' := Aside0.mk H
     clear H
     go_wp2
     repeat (go_quiet (fail); try go_wp2)
     go_meet
     case rel => exact ⟨_, (decide (x7_1 < (t187.size : Int))), (by first | rfl | (simp; done) | (simp [*]; done)), H', ⟨by have := HK1.out; first | omega | exact Nat.le_refl _⟩, ⟨by repeat (first | (with_reducible first | exact HB.out | apply below_alloc | apply pw_below_drewN | apply below_drew1) | exact HB.out)⟩⟩
    ·rw [if_neg c8] at H
     have c8b0 : decide (x7_1 < (t186.size : Int)) = false := decide_eq_false c8
     clear c8
     (first | rw [c8b0] | (simp only [i64_w, i32_w]; rw [c8b0]) | skip)
     have H' := Aside0.mk H
     clear H
     go_wp2
     repeat (go_quiet (fail); try go_wp2)
     go_meet
     case rel => exact ⟨_, (false), (by first | rfl | (simp; done) | (simp [*]; done)), H', ⟨by have := HK1.out; first | omega | exact Nat.le_refl _⟩, ⟨by repeat (first | (with_reducible first | exact HB.out | apply below_alloc | apply pw_below_drewN | apply below_drew1) | exact HB.out)⟩⟩
   case rest =>
    clear HC7
    try clear p2
    try clear c3
    try clear c8
    try clear c8b0
    try clear p2
    obtain ⟨kq, x21_6, rfl, HA, HJ6, HB⟩ := hcut
    cases kq with
    | zero => exact absurd HA.out (by simp [isoglossref02_Compare.j1])
    | succ kj6 =>
     have H := HA.out
     clear HA
     simp only [isoglossref02_Compare.j1] at H
     by_cases c9 : x21_6 = true
     ·subst c9
      have H1 : (if 0 ≤ x7_1 then (if x7_1 < (t186.size : Int) then (if x7_1 < (t187.size : Int) then (if (bt t186 x7_1) < (bt t187 x7_1) then (some (-1)) else (if (bt t186 x7_1) > (bt t187 x7_1) then (some 1) else (isoglossref02_Compare.l0 kj6 t186 t187 (wrap64 (x7_1 + 1))))) else (none)) else (none)) else (none)) = some r := by rw [if_pos rfl] at H; exact H
      clear H
      have H := H1
      clear H1
      by_cases c10 : 0 ≤ x7_1
      ·rw [if_pos c10] at H
       have c10b0 : decide (0 ≤ x7_1) = true := decide_eq_true c10
       clear c10
       by_cases c11 : x7_1 < (t186.size : Int)
       ·rw [if_pos c11] at H
        have c11b0 : decide (x7_1 < (t186.size : Int)) = true := decide_eq_true c11
        clear c11
        by_cases c13 : x7_1 < (t187.size : Int)
        ·rw [if_pos c13] at H
         have c13b0 : decide (x7_1 < (t187.size : Int)) = true := decide_eq_true c13
         clear c13
         by_cases c15 : (bt t186 x7_1) < (bt t187 x7_1)
         ·rw [if_pos c15] at H
          have c15b0 : decide ((bt t186 x7_1) < (bt t187 x7_1)) = true := decide_eq_true c15
          clear c15
          obtain rfl := Option.some.inj H
          have p12 : 0 ≤ (x7_1 : Int) := of_decide_eq_true (by first | (with_reducible assumption) | assumption)
          have q12 : x7_1 < (t186.size : Int) := of_decide_eq_true (by first | (with_reducible assumption) | assumption)
          have hx12 := bt_at t186 x7_1
          replace p12 := eq_true p12
          replace q12 := eq_true q12
          have p14 : 0 ≤ (x7_1 : Int) := of_decide_eq_true (by first | (with_reducible assumption) | assumption)
          have q14 : x7_1 < (t187.size : Int) := of_decide_eq_true (by first | (with_reducible assumption) | assumption)
          have hx14 := bt_at t187 x7_1
          replace p14 := eq_true p14
          replace q14 := eq_true q14
          go_wp2
          repeat (go_quiet (fail); try go_wp2)
          go_ret
          exact ⟨by first | rfl | (simp [errW_none, errW_some] <;> rfl) | (simp [*, errW_none, errW_some] <;> rfl), by repeat (first | (with_reducible first | exact HB.out | apply below_alloc | apply pw_below_drewN | apply below_drew1) | exact HB.out)⟩
         ·rw [if_neg c15] at H
          have c15b0 : decide ((bt t186 x7_1) < (bt t187 x7_1)) = false := decide_eq_false c15
          clear c15
          by_cases c18 : (bt t186 x7_1) > (bt t187 x7_1)
          ·rw [if_pos c18] at H
           have c18b0 : decide ((bt t187 x7_1) < (bt t186 x7_1)) = true := decide_eq_true c18
           clear c18
           obtain rfl := Option.some.inj H
           have p12 : 0 ≤ (x7_1 : Int) := of_decide_eq_true (by first | (with_reducible assumption) | assumption)
           have q12 : x7_1 < (t186.size : Int) := of_decide_eq_true (by first | (with_reducible assumption) | assumption)
           have hx12 := bt_at t186 x7_1
           replace p12 := eq_true p12
           replace q12 := eq_true q12
           have p14 : 0 ≤ (x7_1 : Int) := of_decide_eq_true (by first | (with_reducible assumption) | assumption)
           have q14 : x7_1 < (t187.size : Int) := of_decide_eq_true (by first | (with_reducible assumption) | assumption)
           have hx14 := bt_at t187 x7_1
           replace p14 := eq_true p14
           replace q14 := eq_true q14
           have p16 : 0 ≤ (x7_1 : Int) := of_decide_eq_true (by first | (with_reducible assumption) | assumption)
           have q16 : x7_1 < (t186.size : Int) := of_decide_eq_true (by first | (with_reducible assumption) | assumption)
           have hx16 := bt_at t186 x7_1
           replace p16 := eq_true p16
           replace q16 := eq_true q16
           have p17 : 0 ≤ (x7_1 : Int) := of_decide_eq_true (by first | (with_reducible assumption) | assumption)
           have q17 : x7_1 < (t187.size : Int) := of_decide_eq_true (by first | (with_reducible assumption) | assumption)
           have hx17 := bt_at t187 x7_1
           replace p17 := eq_true p17
           replace q17 := eq_true q17
           go_wp2
           repeat (go_quiet (fail); try go_wp2)
           go_ret
           exact ⟨by first | rfl | (simp [errW_none, errW_some] <;> rfl) | (simp [*, errW_none, errW_some] <;> rfl), by repeat (first | (with_reducible first | exact HB.out | apply below_alloc | apply pw_below_drewN | apply below_drew1) | exact HB.out)⟩
          ·rw [if_neg c18] at H
           have c18b0 : decide ((bt t187 x7_1) < (bt t186 x7_1)) = false := decide_eq_false c18
           clear c18
           have H' := Aside0.mk H
           clear H
           have p12 : 0 ≤ (x7_1 : Int) := of_decide_eq_true (by first | (with_reducible assumption) | assumption)
           have q12 : x7_1 < (t186.size : Int) := of_decide_eq_true (by first | (with_reducible assumption) | assumption)
           have hx12 := bt_at t186 x7_1
           replace p12 := eq_true p12
           replace q12 := eq_true q12
           have p14 : 0 ≤ (x7_1 : Int) := of_decide_eq_true (by first | (with_reducible assumption) | assumption)
           have q14 : x7_1 < (t187.size : Int) := of_decide_eq_true (by first | (with_reducible assumption) | assumption)
           have hx14 := bt_at t187 x7_1
           replace p14 := eq_true p14
           replace q14 := eq_true q14
           have p16 : 0 ≤ (x7_1 : Int) := of_decide_eq_true (by first | (with_reducible assumption) | assumption)
           have q16 : x7_1 < (t186.size : Int) := of_decide_eq_true (by first | (with_reducible assumption) | assumption)
           have hx16 := bt_at t186 x7_1
           replace p16 := eq_true p16
           replace q16 := eq_true q16
           have p17 : 0 ≤ (x7_1 : Int) := of_decide_eq_true (by first | (with_reducible assumption) | assumption)
           have q17 : x7_1 < (t187.size : Int) := of_decide_eq_true (by first | (with_reducible assumption) | assumption)
           have hx17 := bt_at t187 x7_1
           replace p17 := eq_true p17
           replace q17 := eq_true q17
           go_wp2
           repeat (go_quiet (fail); try go_wp2)
           go_roundg kj6
           case measure => have := HK1.out; have := HJ6.out; omega
           case rel => exact ⟨(wrap64 (x7_1 + 1)), (by first | rfl | (simp; done) | (simp [*]; done)), H', ⟨by have := HK1.out; have := HJ6.out; omega⟩, ⟨by repeat (first | (with_reducible first | exact HB.out | apply below_alloc | apply pw_below_drewN | apply below_drew1) | exact HB.out)⟩⟩
        ·rw [if_neg c13] at H
         exact absurd H (by simp)
       ·rw [if_neg c11] at H
        exact absurd H (by simp)
      ·rw [if_neg c10] at H
       exact absurd H (by simp)
     ·replace c9 := Bool.eq_false_iff.mpr c9
      subst c9
      have H1 : (if (t186.size : Int) < (t187.size : Int) then (some (-1)) else (if (t186.size : Int) > (t187.size : Int) then (some 1) else (some 0))) = some r := by rw [if_neg (show ¬ (false = true) by decide)] at H; exact H
      clear H
      have H := H1
      clear H1
      by_cases c19 : (t186.size : Int) < (t187.size : Int)
      ·rw [if_pos c19] at H
       have c19b0 : decide ((t186.size : Int) < (t187.size : Int)) = true := decide_eq_true c19
       have c19b1 : decide (t186.size < t187.size) = true := decide_eq_true (Int.ofNat_lt.mp c19)
       clear c19
       obtain rfl := Option.some.inj H
       go_wp2
       repeat (go_quiet (fail); try go_wp2)
       go_ret
       exact ⟨by first | rfl | (simp [errW_none, errW_some] <;> rfl) | (simp [*, errW_none, errW_some] <;> rfl), by repeat (first | (with_reducible first | exact HB.out | apply below_alloc | apply pw_below_drewN | apply below_drew1) | exact HB.out)⟩
      ·rw [if_neg c19] at H
       have c19b0 : decide ((t186.size : Int) < (t187.size : Int)) = false := decide_eq_false c19
       have c19b1 : decide (t186.size < t187.size) = false := decide_eq_false (fun h => c19 (Int.ofNat_lt.mpr h))
       clear c19
       by_cases c20 : (t186.size : Int) > (t187.size : Int)
       ·rw [if_pos c20] at H
        have c20b0 : decide ((t187.size : Int) < (t186.size : Int)) = true := decide_eq_true c20
        have c20b1 : decide (t187.size < t186.size) = true := decide_eq_true (Int.ofNat_lt.mp c20)
        clear c20
        obtain rfl := Option.some.inj H
        go_wp2
        repeat (go_quiet (fail); try go_wp2)
        go_ret
        exact ⟨by first | rfl | (simp [errW_none, errW_some] <;> rfl) | (simp [*, errW_none, errW_some] <;> rfl), by repeat (first | (with_reducible first | exact HB.out | apply below_alloc | apply pw_below_drewN | apply below_drew1) | exact HB.out)⟩
       ·rw [if_neg c20] at H
        have c20b0 : decide ((t187.size : Int) < (t186.size : Int)) = false := decide_eq_false c20
        have c20b1 : decide (t187.size < t186.size) = false := decide_eq_false (fun h => c20 (Int.ofNat_lt.mpr h))
        clear c20
        obtain rfl := Option.some.inj H
        go_wp2
        repeat (go_quiet (fail); try go_wp2)
        go_ret
        exact ⟨by first | rfl | (simp [errW_none, errW_some] <;> rfl) | (simp [*, errW_none, errW_some] <;> rfl), by repeat (first | (with_reducible first | exact HB.out | apply below_alloc | apply pw_below_drewN | apply below_drew1) | exact HB.out)⟩

/-! ### isoglossref20_walk: function 40 -/
def isoglossref20_walk.f : Nat → List ByteArray → List ByteArray → Option (Bool)
 | 0, _, _ => none
 | k + 1, l0, l1 => if (l0.length : Int) = 0 then (some true) else (if 0 < (l0.length : Int) then (if (rdOf ByteArray.empty l0 0).toList = ([42] : List UInt8) then (if 1 ≤ (l0.length : Int) then ((isoglossref20_walk.f k (l0.drop 1) l1).bind fun t190 => (some t190)) else (none)) else (if (l1.length : Int) = 0 then (some false) else (if 0 < (l1.length : Int) then ((isoglossref02_Compare.f k (rdOf ByteArray.empty l0 0) (rdOf ByteArray.empty l1 0)).bind fun t193 => (if t193 = 0 then (if 1 ≤ (l0.length : Int) then (if 1 ≤ (l1.length : Int) then ((isoglossref20_walk.f k (l0.drop 1) (l1.drop 1)).bind fun t196 => (some t196)) else (none)) else (none)) else (if ((rdOf ByteArray.empty l1 0).size : Int) = 1 then (some false) else (if 1 ≤ (l1.length : Int) then ((isoglossref20_walk.f k l0 (l1.drop 1)).bind fun t199 => (some t199)) else (none))))) else (none)))) else (none))
theorem isoglossref20_walk.mono_l : ∀ k, (∀ y0 y1, LeO (isoglossref20_walk.f k y0 y1) (isoglossref20_walk.f (k + 1) y0 y1))
 | 0 => fun _ _ r h => by simp [isoglossref20_walk.f] at h
 | k + 1 => by
  have ih0 := isoglossref20_walk.mono_l k
  ·intro y0 y1
   unfold isoglossref20_walk.f
   repeat' first
   | (with_reducible exact ih0 _ _)
   | (with_reducible exact isoglossref02_Compare.mono _ _ _)
   | (with_reducible exact LeO.refl _)
   | (with_reducible exact LeO.none _)
   | (with_reducible refine LeO.ite ?_ ?_)
   | (with_reducible refine LeO.bind ?_ (fun _ => ?_))
   | exact ih0 _ _
   | exact isoglossref02_Compare.mono _ _ _
   | exact LeO.none _
   | refine LeO.ite ?_ ?_
   | refine LeO.bind ?_ (fun _ => ?_)
theorem isoglossref20_walk.mono : ∀ a0 a1 k, LeO (isoglossref20_walk.f k a0 a1) (isoglossref20_walk.f (k + 1) a0 a1) := by
 intro a0 a1 k
 have ih0 := isoglossref20_walk.mono_l k
 exact ih0 a0 a1
def isoglossref20_walk.T7 : Bool × List (List Nat × List Nat) := (true, [([], []), ([0], [0]), ([1], [1]), ([], []), ([3], [3]), ([4], [4]), ([2, 5], [2, 5]), ([6], [6])])
def isoglossref20_walk.B7 : List Nat := [0, 1, 3, 0, 8, 24, 63, 127]
theorem isoglossref20_walk.tab7 : rtab .any (opsOf Try.f40 7) = isoglossref20_walk.T7 := by kernel_rfl
theorem isoglossref20_walk.bits7 : waitsOk isoglossref20_walk.T7.2 isoglossref20_walk.B7 = true := by kernel_rfl
set_option maxHeartbeats 8000000 in
set_option maxRecDepth 100000 in
theorem isoglossref20_walk.calls (k : Nat) : ∀ (A0 : Option Addr) (c0 : Nat) (l0 : List ByteArray) (A1 : Option Addr) (c1 : Nat) (l1 : List ByteArray) (r : Bool) (w : World) (hr0 : Kd.C Kd.string w A0 l0.length l0) (hc0 : l0.length ≤ c0) (hr1 : Kd.C Kd.string w A1 l1.length l1) (hc1 : l1.length ≤ c1) (h : isoglossref20_walk.f k l0 l1 = some r),
  Calls Try.prog 40 #[.slice A0 l0.length c0, .slice A1 l1.length c1] w fun e w' => e = .returned (.bool r) ∧ Below w.heap.size w w' := by
 induction k using Nat.strongRecOn with
 | _ k ih =>
 intro A0 c0 l0 A1 c1 l1 r w hr0 hc0 hr1 hc1 h
 cases k with
 | zero => exact absurd h (by simp [isoglossref20_walk.f])
 | succ k =>
 simp only [isoglossref20_walk.f] at h
 have HR0 := Aside0.mk hr0
 have HC0 := Aside0.mk hc0
 clear hr0 hc0
 have HR1 := Aside0.mk hr1
 have HC1 := Aside0.mk hc1
 clear hr1 hc1
 have HB := Aside0.mk (Below.refl w.heap.size w)
 have H : (if (l0.length : Int) = 0 then (some true) else (if 0 < (l0.length : Int) then (if (rdOf ByteArray.empty l0 0).toList = ([42] : List UInt8) then (if 1 ≤ (l0.length : Int) then ((isoglossref20_walk.f k (l0.drop 1) l1).bind fun t190 => (some t190)) else (none)) else (if (l1.length : Int) = 0 then (some false) else (if 0 < (l1.length : Int) then ((isoglossref02_Compare.f k (rdOf ByteArray.empty l0 0) (rdOf ByteArray.empty l1 0)).bind fun t193 => (if t193 = 0 then (if 1 ≤ (l0.length : Int) then (if 1 ≤ (l1.length : Int) then ((isoglossref20_walk.f k (l0.drop 1) (l1.drop 1)).bind fun t196 => (some t196)) else (none)) else (none)) else (if ((rdOf ByteArray.empty l1 0).size : Int) = 1 then (some false) else (if 1 ≤ (l1.length : Int) then ((isoglossref20_walk.f k l0 (l1.drop 1)).bind fun t199 => (some t199)) else (none))))) else (none)))) else (none))) = some r := h
 clear h
 by_cases c3 : (l0.length : Int) = 0
 ·rw [if_pos c3] at H
  have c3b0 : ((l0.length : Int) == 0) = true := beq_iff_eq.mpr c3
  have c3b1 : ((l0.length : Int) != 0) = false := bne_eq_false_iff_eq.mpr c3
  clear c3
  obtain rfl := Option.some.inj H
  go_enter Try.func40, Try.ntmps40
  go_wp2
  go_ret
  exact ⟨by first | rfl | (simp [errW_none, errW_some] <;> rfl) | (simp [*, errW_none, errW_some] <;> rfl), by repeat (first | (with_reducible first | exact HB.out | apply below_alloc | apply pw_below_drewN | apply below_drew1) | exact HB.out)⟩
 ·rw [if_neg c3] at H
  have c3b0 : ((l0.length : Int) == 0) = false := beq_eq_false_iff_ne.mpr c3
  have c3b1 : ((l0.length : Int) != 0) = true := bne_iff_ne.mpr c3
  have c3b2 : ¬ (l0 = []) := fun h_ => c3 (by rw [h_]; rfl)
  by_cases c4 : 0 < (l0.length : Int)
  ·rw [if_pos c4] at H
   have c4b0 : decide (0 < (l0.length : Int)) = true := decide_eq_true c4
   have c4b1 : decide (0 < l0.length) = true := decide_eq_true (by omega)
   clear c4
   by_cases c5 : (rdOf ByteArray.empty l0 0).toList = ([42] : List UInt8)
   ·rw [if_pos c5] at H
    have c5b0 : ((rdOf ByteArray.empty l0 0).toList == ([42] : List UInt8)) = true := beq_iff_eq.mpr c5
    have c5b1 : ((rdOf ByteArray.empty l0 0).toList != ([42] : List UInt8)) = false := bne_eq_false_iff_eq.mpr c5
    clear c5
    by_cases c6 : 1 ≤ (l0.length : Int)
    ·rw [if_pos c6] at H
     have c6b0 := eq_true c6
     have c6b1 : decide (1 ≤ (l0.length : Int)) = true := decide_eq_true c6
     clear c6
     replace H := Option.bind_eq_some_iff.mp H
     obtain ⟨t190, A70, H⟩ := H
     replace H : (some t190) = some r := H
     have A7 := Aside0.mk A70
     clear A70
     obtain rfl := Option.some.inj H
     have p188 : 0 ≤ (0 : Int) := (by omega)
     have q188 : 0 < (l0.length : Int) := of_decide_eq_true (by first | (with_reducible assumption) | assumption)
     obtain ⟨ad188, e188, hx188_0⟩ := Kd.at_string HR0.out 0 p188 q188
     cases e188
     have qi188 : (0 < l0.length) = True := eq_true (by omega)
     (try rw [show ((0 : Int)).toNat = 0 from rfl] at hx188_0)
     (try rw [Addr.add_zero'] at hx188_0)
     replace p188 := eq_true p188
     replace q188 := eq_true q188
     obtain ⟨i08, hi08, _, hsz8, _⟩ := info_parts info9
     obtain ⟨A8, hcut8, hA8, hC8⟩ := print_drop_of (P := Try.prog) Value.string (⟨#[]⟩ : ByteArray) 25 9 .i64 Try.underlying25 hi08 hsz8 (some ad188) c0 l0 1 (by omega) (of_decide_eq_true (by first | (with_reducible assumption) | assumption)) HC0.out
     have HR189 := Aside0.mk (Kd.C_of_reads (h1 := fun _ => rfl) (hA8 _ (Kd.reads_of_C HR0.out)))
     have HC189 := Aside0.mk hC8
     clear hA8 hC8 hi08 hsz8
     go_enter Try.func40, Try.ntmps40
     go_wp2_with (first | ((with_reducible refine gate_callee (f := 40) rfl ?_); refine goesL_ (some 15) rfl rfl Try.func40 (by kernel_rfl) rfl #[.slice A8 (l0.drop 1).length (c0 - 1), .slice A1 l1.length c1] rfl (by (try simp only [List.map_toArray, List.map_cons, List.map_nil]); first | done | (rw [show (l0.drop 1).length = (l0.length - 1) from List.length_drop] <;> rfl) | rfl | (simp only [List.length_drop, List.length_take]; rfl)) ?_; (with_reducible refine (ih k (by omega) _ _ (l0.drop 1) _ _ l1 t190 _ ?side1 ?side2 ?side3 ?side4 A7.out).mono ?_); (case side1 => repeat (first | exact HR189.out | (with_reducible refine Kd.C_alloc ?_ _) | (with_reducible refine Kd.C_drewN ?_ _) | (with_reducible refine Kd.C_drew ?_))); (case side2 => exact HC189.out); (case side3 => repeat (first | exact HR1.out | (with_reducible refine Kd.C_alloc ?_ _) | (with_reducible refine Kd.C_drewN ?_ _) | (with_reducible refine Kd.C_drew ?_))); (case side4 => exact HC1.out); rintro e w9 ⟨rfl, hb⟩; refine ⟨_, rfl, ?_⟩; have n0_ := Aside0.mk (below_step (by repeat (first | (with_reducible first | exact HB.out | apply below_alloc | apply pw_below_drewN | apply below_drew1) | exact HB.out)) hb); clear HB; have HB := n0_; clear n0_; (try clear hb); (try clear hb2); (try clear hk); (try clear hi)))
     go_ret
     exact ⟨by first | rfl | (simp [errW_none, errW_some] <;> rfl) | (simp [*, errW_none, errW_some] <;> rfl), by repeat (first | (with_reducible first | exact HB.out | apply below_alloc | apply pw_below_drewN | apply below_drew1) | exact HB.out)⟩
    ·rw [if_neg c6] at H
     exact absurd H (by simp)
   ·rw [if_neg c5] at H
    have c5b0 : ((rdOf ByteArray.empty l0 0).toList == ([42] : List UInt8)) = false := beq_eq_false_iff_ne.mpr c5
    have c5b1 : ((rdOf ByteArray.empty l0 0).toList != ([42] : List UInt8)) = true := bne_iff_ne.mpr c5
    by_cases c10 : (l1.length : Int) = 0
    ·rw [if_pos c10] at H
     have c10b0 : ((l1.length : Int) == 0) = true := beq_iff_eq.mpr c10
     have c10b1 : ((l1.length : Int) != 0) = false := bne_eq_false_iff_eq.mpr c10
     clear c10
     obtain rfl := Option.some.inj H
     have p188 : 0 ≤ (0 : Int) := (by omega)
     have q188 : 0 < (l0.length : Int) := of_decide_eq_true (by first | (with_reducible assumption) | assumption)
     obtain ⟨ad188, e188, hx188_0⟩ := Kd.at_string HR0.out 0 p188 q188
     cases e188
     have qi188 : (0 < l0.length) = True := eq_true (by omega)
     (try rw [show ((0 : Int)).toNat = 0 from rfl] at hx188_0)
     (try rw [Addr.add_zero'] at hx188_0)
     replace p188 := eq_true p188
     replace q188 := eq_true q188
     go_enter Try.func40, Try.ntmps40
     go_wp2
     go_ret
     exact ⟨by first | rfl | (simp [errW_none, errW_some] <;> rfl) | (simp [*, errW_none, errW_some] <;> rfl), by repeat (first | (with_reducible first | exact HB.out | apply below_alloc | apply pw_below_drewN | apply below_drew1) | exact HB.out)⟩
    ·rw [if_neg c10] at H
     have c10b0 : ((l1.length : Int) == 0) = false := beq_eq_false_iff_ne.mpr c10
     have c10b1 : ((l1.length : Int) != 0) = true := bne_iff_ne.mpr c10
     have c10b2 : ¬ (l1 = []) := fun h_ => c10 (by rw [h_]; rfl)
     by_cases c11 : 0 < (l1.length : Int)
     ·rw [if_pos c11] at H
      have c11b0 : decide (0 < (l1.length : Int)) = true := decide_eq_true c11
      have c11b1 : decide (0 < l1.length) = true := decide_eq_true (by omega)
      clear c11
      replace H := Option.bind_eq_some_iff.mp H
      obtain ⟨t193, A120, H⟩ := H
      replace H : (if t193 = 0 then (if 1 ≤ (l0.length : Int) then (if 1 ≤ (l1.length : Int) then ((isoglossref20_walk.f k (l0.drop 1) (l1.drop 1)).bind fun t196 => (some t196)) else (none)) else (none)) else (if ((rdOf ByteArray.empty l1 0).size : Int) = 1 then (some false) else (if 1 ≤ (l1.length : Int) then ((isoglossref20_walk.f k l0 (l1.drop 1)).bind fun t199 => (some t199)) else (none)))) = some r := H
      have A12 := Aside0.mk A120
      clear A120
      by_cases c13 : t193 = 0
      ·rw [if_pos c13] at H
       have c13b0 : (t193 == 0) = true := beq_iff_eq.mpr c13
       have c13b1 : (t193 != 0) = false := bne_eq_false_iff_eq.mpr c13
       clear c13
       by_cases c14 : 1 ≤ (l0.length : Int)
       ·rw [if_pos c14] at H
        have c14b0 := eq_true c14
        have c14b1 : decide (1 ≤ (l0.length : Int)) = true := decide_eq_true c14
        clear c14
        by_cases c15 : 1 ≤ (l1.length : Int)
        ·rw [if_pos c15] at H
         have c15b0 := eq_true c15
         have c15b1 : decide (1 ≤ (l1.length : Int)) = true := decide_eq_true c15
         clear c15
         replace H := Option.bind_eq_some_iff.mp H
         obtain ⟨t196, A160, H⟩ := H
         replace H : (some t196) = some r := H
         have A16 := Aside0.mk A160
         clear A160
         obtain rfl := Option.some.inj H
         have p188 : 0 ≤ (0 : Int) := (by omega)
         have q188 : 0 < (l0.length : Int) := of_decide_eq_true (by first | (with_reducible assumption) | assumption)
         obtain ⟨ad188, e188, hx188_0⟩ := Kd.at_string HR0.out 0 p188 q188
         cases e188
         have qi188 : (0 < l0.length) = True := eq_true (by omega)
         (try rw [show ((0 : Int)).toNat = 0 from rfl] at hx188_0)
         (try rw [Addr.add_zero'] at hx188_0)
         replace p188 := eq_true p188
         replace q188 := eq_true q188
         go_enter Try.func40, Try.ntmps40
         try go_wp2
         have n0_ := Aside0.mk (below_drew1 HB.out)
         clear HB
         have HB := n0_
         clear n0_
         have p191 : 0 ≤ (0 : Int) := (by omega)
         have q191 : 0 < (l0.length : Int) := of_decide_eq_true (by first | (with_reducible assumption) | assumption)
         obtain ⟨ad191, e191, hx191_0⟩ := Kd.at_string HR0.out 0 p191 q191
         have hw191_0 := hx191_0
         (try rw [show ((0 : Int)).toNat = 0 from rfl] at hw191_0)
         (try rw [show 0 * 1 = 0 from rfl] at hw191_0)
         (try rw [Addr.add_zero'] at hw191_0)
         obtain rfl : ad188 = ad191 := (by injection e191)
         have qi191 : (0 < l0.length) = True := eq_true (by omega)
         (try rw [show ((0 : Int)).toNat = 0 from rfl] at hx191_0)
         (try rw [Addr.add_zero'] at hx191_0)
         replace hx191_0 := (HB.out.cell (World.block_lt_of_cell? w _ hx191_0)).trans hx191_0
         replace p191 := eq_true p191
         replace q191 := eq_true q191
         have p192 : 0 ≤ (0 : Int) := (by omega)
         have q192 : 0 < (l1.length : Int) := of_decide_eq_true (by first | (with_reducible assumption) | assumption)
         obtain ⟨ad192, e192, hx192_0⟩ := Kd.at_string HR1.out 0 p192 q192
         have hw192_0 := hx192_0
         (try rw [show ((0 : Int)).toNat = 0 from rfl] at hw192_0)
         (try rw [show 0 * 1 = 0 from rfl] at hw192_0)
         (try rw [Addr.add_zero'] at hw192_0)
         cases e192
         have qi192 : (0 < l1.length) = True := eq_true (by omega)
         (try rw [show ((0 : Int)).toNat = 0 from rfl] at hx192_0)
         (try rw [Addr.add_zero'] at hx192_0)
         replace hx192_0 := (HB.out.cell (World.block_lt_of_cell? w _ hx192_0)).trans hx192_0
         replace p192 := eq_true p192
         replace q192 := eq_true q192
         refine start_ (n := 8) (S := fun w' => w'.cell? ad188 = some (.string (rdOf ByteArray.empty l0 0)) ∧ w'.cell? ad192 = some (.string (rdOf ByteArray.empty l1 0))) (ds := []) #[false, false, false, false, false, false, false, false] (by kernel_rfl) rfl rfl ⟨((HB.out.cell (World.block_lt_of_cell? w _ hw191_0)).trans hw191_0), ((HB.out.cell (World.block_lt_of_cell? w _ hw192_0)).trans hw192_0)⟩ (fun hHeld => ?_); refine with_tabW isoglossref20_walk.tab7 isoglossref20_walk.bits7 (fun HT_ HW_ => ?_)
         generalize w.drew = w17 at HB hx191_0 hx192_0 hHeld ⊢
         refine pure_ (i := 0) (N := some 19) (v := ?_) (a' := ?_) #[true, false, false, false, false, false, false, false] rfl rfl (any_of HT_.out (by kernel_rfl)) (fun _ _ _ h => h) (Or.inl ⟨by rfl, ?_⟩) ?_ ?_
         rotate_left
         ·intro w'
          go_simp
          with_reducible rfl
         rotate_left
         ·simp only [Act.put, List.setIfInBounds_toArray, List.set_cons_zero, List.set_cons_succ, i64_w, i32_w]
          rfl
         refine pure_ (i := 1) (N := some 20) (v := ?_) (a' := ?_) #[true, true, false, false, false, false, false, false] rfl rfl (any_of HT_.out (by kernel_rfl)) (fun _ _ _ h => h) (Or.inl ⟨by rfl, ?_⟩) ?_ ?_
         rotate_left
         ·intro w'
          go_simp
          with_reducible rfl
         rotate_left
         ·simp only [Act.put, List.setIfInBounds_toArray, List.set_cons_zero, List.set_cons_succ, i64_w, i32_w]
          rfl
         refine pure_ (i := 3) (N := some 22) (v := ?_) (a' := ?_) #[true, true, false, true, false, false, false, false] rfl rfl (any_of HT_.out (by kernel_rfl)) (fun _ _ _ h => h) (Or.inl ⟨by rfl, ?_⟩) ?_ ?_
         rotate_left
         ·intro w'
          go_simp
          with_reducible rfl
         rotate_left
         ·simp only [Act.put, List.setIfInBounds_toArray, List.set_cons_zero, List.set_cons_succ, i64_w, i32_w]
          rfl
         refine pure_ (i := 4) (N := some 23) (v := ?_) (a' := ?_) #[true, true, false, true, true, false, false, false] rfl rfl (any_of HT_.out (by kernel_rfl)) (fun _ _ _ h => h) (Or.inl ⟨by rfl, ?_⟩) ?_ ?_
         rotate_left
         ·intro w'
          go_simp
          with_reducible rfl
         rotate_left
         ·simp only [Act.put, List.setIfInBounds_toArray, List.set_cons_zero, List.set_cons_succ, i64_w, i32_w]
          rfl
         refine take_ (i := 2) (N := some 21) (v := ?_) (a' := ?_) #[true, true, true, true, true, false, false, false] rfl rfl (take_ofW HT_.out HW_.out (by kernel_rfl)) (fun _ _ _ h => h) (Or.inl ⟨by rfl, ?_⟩) hHeld ?_ ?_
         rotate_left
         ·rintro w' ⟨s0, s1⟩
          go_simp
          with_reducible rfl
         rotate_left
         ·simp only [Act.put, List.setIfInBounds_toArray, List.set_cons_zero, List.set_cons_succ, i64_w, i32_w]
          rfl
         refine take_ (i := 5) (N := some 24) (v := ?_) (a' := ?_) #[true, true, true, true, true, true, false, false] rfl rfl (take_ofW HT_.out HW_.out (by kernel_rfl)) (fun _ _ _ h => h) (Or.inl ⟨by rfl, ?_⟩) hHeld ?_ ?_
         rotate_left
         ·rintro w' ⟨s0, s1⟩
          go_simp
          with_reducible rfl
         rotate_left
         ·simp only [Act.put, List.setIfInBounds_toArray, List.set_cons_zero, List.set_cons_succ, i64_w, i32_w]
          rfl
         refine one_ (i := 6) (N := some 25) #[true, true, true, true, true, true, true, false] rfl rfl (one_of HT_.out (by kernel_rfl)) (by decide) (fun K hK => ?_)
         refine goes_ Try.func39 (by kernel_rfl) rfl #[.string (rdOf ByteArray.empty l0 0), .string (rdOf ByteArray.empty l1 0)] (by rfl) rfl rfl (by (try simp only [List.map_toArray, List.map_cons, List.map_nil]); first | done | rfl | (simp only [List.length_drop, List.length_take]; rfl)) ?_
         with_reducible refine (isoglossref02_Compare.calls k (rdOf ByteArray.empty l0 0) (rdOf ByteArray.empty l1 0) t193 _ A12.out).mono ?_
         rintro e w18 ⟨rfl, hb⟩
         refine ⟨_, rfl, ?_⟩
         have n0_ := Aside0.mk (below_step (by repeat (first | (with_reducible first | exact HB.out | apply below_alloc | apply pw_below_drewN | apply below_drew1) | exact HB.out)) hb)
         clear HB
         have HB := n0_
         clear n0_
         (try clear hb)
         (try clear hb2)
         (try clear hk)
         (try clear hi)
         refine hK.out _ _ ⟨((HB.out.cell (World.block_lt_of_cell? w _ hw191_0)).trans hw191_0), ((HB.out.cell (World.block_lt_of_cell? w _ hw192_0)).trans hw192_0)⟩ (fun hHeld => ?_)
         clear hK K
         refine norm_ (a' := ?_) ?_ ?_
         rotate_left
         ·show Act.put _ (some 25) _ = _
          simp only [Act.put, List.setIfInBounds_toArray, List.set_cons_zero, List.set_cons_succ, i64_w, i32_w]
          rfl
         refine pure_ (i := 7) (N := some 26) (v := ?_) (a' := ?_) #[true, true, true, true, true, true, true, true] rfl rfl (any_of HT_.out (by kernel_rfl)) (fun _ _ _ h => h) (Or.inl ⟨by rfl, ?_⟩) ?_ ?_
         rotate_left
         ·intro w'
          go_simp
          with_reducible rfl
         rotate_left
         ·simp only [Act.put, List.setIfInBounds_toArray, List.set_cons_zero, List.set_cons_succ, i64_w, i32_w]
          rfl
         refine done_ (done_of HT_.out (by kernel_rfl)) ?_
         try go_wp2
         have n0_ := Aside0.mk (below_drew1 HB.out)
         clear HB
         have HB := n0_
         clear n0_
         obtain ⟨i020, hi020, _, hsz20, _⟩ := info_parts info9
         obtain ⟨A20, hcut20, hA20, hC20⟩ := print_drop_of (P := Try.prog) Value.string (⟨#[]⟩ : ByteArray) 25 9 .i64 Try.underlying25 hi020 hsz20 (some ad188) c0 l0 1 (by omega) (of_decide_eq_true (by first | (with_reducible assumption) | assumption)) HC0.out
         have HR194 := Aside0.mk (Kd.C_of_reads (h1 := fun _ => rfl) (hA20 _ (Kd.reads_of_C HR0.out)))
         have HC194 := Aside0.mk hC20
         clear hA20 hC20 hi020 hsz20
         obtain ⟨i021, hi021, _, hsz21, _⟩ := info_parts info9
         obtain ⟨A21, hcut21, hA21, hC21⟩ := print_drop_of (P := Try.prog) Value.string (⟨#[]⟩ : ByteArray) 25 9 .i64 Try.underlying25 hi021 hsz21 (some ad192) c1 l1 1 (by omega) (of_decide_eq_true (by first | (with_reducible assumption) | assumption)) HC1.out
         have HR195 := Aside0.mk (Kd.C_of_reads (h1 := fun _ => rfl) (hA21 _ (Kd.reads_of_C HR1.out)))
         have HC195 := Aside0.mk hC21
         clear hA21 hC21 hi021 hsz21
         refine start_ (n := 6) (S := fun w' => True) (ds := []) #[false, false, false, false, false, false] (by kernel_rfl) rfl rfl trivial (fun hHeld => ?_)
         generalize w18.drew = w19 at HB HR194 HR195 hHeld ⊢
         refine pure_ (i := 0) (N := some 27) (v := ?_) (a' := ?_) #[true, false, false, false, false, false] rfl rfl (by kernel_rfl) (fun _ _ _ h => h) (Or.inl ⟨by rfl, ?_⟩) ?_ ?_
         rotate_left
         ·intro w'
          go_simp
          with_reducible rfl
         rotate_left
         ·simp only [Act.put, List.setIfInBounds_toArray, List.set_cons_zero, List.set_cons_succ, i64_w, i32_w]
          rfl
         refine pure_ (i := 1) (N := some 28) (v := ?_) (a' := ?_) #[true, true, false, false, false, false] rfl rfl (by kernel_rfl) (fun _ _ _ h => h) (Or.inl ⟨by rfl, ?_⟩) ?_ ?_
         rotate_left
         ·intro w'
          go_simp
          with_reducible rfl
         rotate_left
         ·simp only [Act.put, List.setIfInBounds_toArray, List.set_cons_zero, List.set_cons_succ, i64_w, i32_w]
          rfl
         refine pure_ (i := 2) (N := some 29) (v := ?_) (a' := ?_) #[true, true, true, false, false, false] rfl rfl (by kernel_rfl) (fun _ _ _ h => h) (Or.inl ⟨by rfl, ?_⟩) ?_ ?_
         rotate_left
         ·intro w'
          go_simp
          with_reducible rfl
         rotate_left
         ·simp only [Act.put, List.setIfInBounds_toArray, List.set_cons_zero, List.set_cons_succ, i64_w, i32_w]
          rfl
         refine pure_ (i := 3) (N := some 30) (v := ?_) (a' := ?_) #[true, true, true, true, false, false] rfl rfl (by kernel_rfl) (fun _ _ _ h => h) (Or.inl ⟨by rfl, ?_⟩) ?_ ?_
         rotate_left
         ·intro w'
          go_simp
          with_reducible rfl
         rotate_left
         ·simp only [Act.put, List.setIfInBounds_toArray, List.set_cons_zero, List.set_cons_succ, i64_w, i32_w]
          rfl
         refine one_ (i := 4) (N := some 31) #[true, true, true, true, true, false] rfl rfl (by kernel_rfl) (by decide) (fun K hK => ?_)
         refine goes_ Try.func40 (by kernel_rfl) rfl #[.slice A20 (l0.drop 1).length (c0 - 1), .slice A21 (l1.drop 1).length (c1 - 1)] (by rfl) rfl rfl (by (try simp only [List.map_toArray, List.map_cons, List.map_nil]); first | done | (rw [show (l0.drop 1).length = (l0.length - 1) from List.length_drop] <;> rfl) | (rw [show (l1.drop 1).length = (l1.length - 1) from List.length_drop] <;> rfl) | rfl | (simp only [List.length_drop, List.length_take]; rfl)) ?_
         with_reducible refine (ih k (by omega) _ _ (l0.drop 1) _ _ (l1.drop 1) t196 _ ?side1 ?side2 ?side3 ?side4 A16.out).mono ?_
         (case side1 => repeat (first | exact (Kd.C_below HR194.out HB.out) | (with_reducible refine Kd.C_alloc ?_ _) | (with_reducible refine Kd.C_drewN ?_ _) | (with_reducible refine Kd.C_drew ?_)))
         (case side2 => exact HC194.out)
         (case side3 => repeat (first | exact (Kd.C_below HR195.out HB.out) | (with_reducible refine Kd.C_alloc ?_ _) | (with_reducible refine Kd.C_drewN ?_ _) | (with_reducible refine Kd.C_drew ?_)))
         (case side4 => exact HC195.out)
         rintro e w22 ⟨rfl, hb⟩
         refine ⟨_, rfl, ?_⟩
         have n0_ := Aside0.mk (below_step (by repeat (first | (with_reducible first | exact HB.out | apply below_alloc | apply pw_below_drewN | apply below_drew1) | exact HB.out)) hb)
         clear HB
         have HB := n0_
         clear n0_
         (try clear hb)
         (try clear hb2)
         (try clear hk)
         (try clear hi)
         refine hK.out _ _ trivial (fun hHeld => ?_)
         clear hK K
         refine norm_ (a' := ?_) ?_ ?_
         rotate_left
         ·show Act.put _ (some 31) _ = _
          simp only [Act.put, List.setIfInBounds_toArray, List.set_cons_zero, List.set_cons_succ, i64_w, i32_w]
          rfl
         refine pure_ (i := 5) (N := some 4) (v := ?_) (a' := ?_) #[true, true, true, true, true, true] rfl rfl (by kernel_rfl) (fun _ _ _ h => h) (Or.inl ⟨by rfl, ?_⟩) ?_ ?_
         rotate_left
         ·intro w'
          go_simp
          with_reducible rfl
         rotate_left
         ·simp only [Act.put, List.setIfInBounds_toArray, List.set_cons_zero, List.set_cons_succ, i64_w, i32_w]
          rfl
         refine done_ (by kernel_rfl) ?_
         try go_wp2
         go_ret
         exact ⟨by first | rfl | (simp [errW_none, errW_some] <;> rfl) | (simp [*, errW_none, errW_some] <;> rfl), by repeat (first | (with_reducible first | exact HB.out | apply below_alloc | apply pw_below_drewN | apply below_drew1) | exact HB.out)⟩
        ·rw [if_neg c15] at H
         exact absurd H (by simp)
       ·rw [if_neg c14] at H
        exact absurd H (by simp)
      ·rw [if_neg c13] at H
       have c13b0 : (t193 == 0) = false := beq_eq_false_iff_ne.mpr c13
       have c13b1 : (t193 != 0) = true := bne_iff_ne.mpr c13
       by_cases c23 : ((rdOf ByteArray.empty l1 0).size : Int) = 1
       ·rw [if_pos c23] at H
        have c23b0 : (((rdOf ByteArray.empty l1 0).size : Int) == 1) = true := beq_iff_eq.mpr c23
        have c23b1 : (((rdOf ByteArray.empty l1 0).size : Int) != 1) = false := bne_eq_false_iff_eq.mpr c23
        clear c23
        obtain rfl := Option.some.inj H
        have p188 : 0 ≤ (0 : Int) := (by omega)
        have q188 : 0 < (l0.length : Int) := of_decide_eq_true (by first | (with_reducible assumption) | assumption)
        obtain ⟨ad188, e188, hx188_0⟩ := Kd.at_string HR0.out 0 p188 q188
        cases e188
        have qi188 : (0 < l0.length) = True := eq_true (by omega)
        (try rw [show ((0 : Int)).toNat = 0 from rfl] at hx188_0)
        (try rw [Addr.add_zero'] at hx188_0)
        replace p188 := eq_true p188
        replace q188 := eq_true q188
        go_enter Try.func40, Try.ntmps40
        try go_wp2
        have n0_ := Aside0.mk (below_drew1 HB.out)
        clear HB
        have HB := n0_
        clear n0_
        have p191 : 0 ≤ (0 : Int) := (by omega)
        have q191 : 0 < (l0.length : Int) := of_decide_eq_true (by first | (with_reducible assumption) | assumption)
        obtain ⟨ad191, e191, hx191_0⟩ := Kd.at_string HR0.out 0 p191 q191
        have hw191_0 := hx191_0
        (try rw [show ((0 : Int)).toNat = 0 from rfl] at hw191_0)
        (try rw [show 0 * 1 = 0 from rfl] at hw191_0)
        (try rw [Addr.add_zero'] at hw191_0)
        obtain rfl : ad188 = ad191 := (by injection e191)
        have qi191 : (0 < l0.length) = True := eq_true (by omega)
        (try rw [show ((0 : Int)).toNat = 0 from rfl] at hx191_0)
        (try rw [Addr.add_zero'] at hx191_0)
        replace hx191_0 := (HB.out.cell (World.block_lt_of_cell? w _ hx191_0)).trans hx191_0
        replace p191 := eq_true p191
        replace q191 := eq_true q191
        have p192 : 0 ≤ (0 : Int) := (by omega)
        have q192 : 0 < (l1.length : Int) := of_decide_eq_true (by first | (with_reducible assumption) | assumption)
        obtain ⟨ad192, e192, hx192_0⟩ := Kd.at_string HR1.out 0 p192 q192
        have hw192_0 := hx192_0
        (try rw [show ((0 : Int)).toNat = 0 from rfl] at hw192_0)
        (try rw [show 0 * 1 = 0 from rfl] at hw192_0)
        (try rw [Addr.add_zero'] at hw192_0)
        cases e192
        have qi192 : (0 < l1.length) = True := eq_true (by omega)
        (try rw [show ((0 : Int)).toNat = 0 from rfl] at hx192_0)
        (try rw [Addr.add_zero'] at hx192_0)
        replace hx192_0 := (HB.out.cell (World.block_lt_of_cell? w _ hx192_0)).trans hx192_0
        replace p192 := eq_true p192
        replace q192 := eq_true q192
        refine start_ (n := 8) (S := fun w' => w'.cell? ad188 = some (.string (rdOf ByteArray.empty l0 0)) ∧ w'.cell? ad192 = some (.string (rdOf ByteArray.empty l1 0))) (ds := []) #[false, false, false, false, false, false, false, false] (by kernel_rfl) rfl rfl ⟨((HB.out.cell (World.block_lt_of_cell? w _ hw191_0)).trans hw191_0), ((HB.out.cell (World.block_lt_of_cell? w _ hw192_0)).trans hw192_0)⟩ (fun hHeld => ?_); refine with_tabW isoglossref20_walk.tab7 isoglossref20_walk.bits7 (fun HT_ HW_ => ?_)
        generalize w.drew = w24 at HB hx191_0 hx192_0 hHeld ⊢
        refine pure_ (i := 0) (N := some 19) (v := ?_) (a' := ?_) #[true, false, false, false, false, false, false, false] rfl rfl (any_of HT_.out (by kernel_rfl)) (fun _ _ _ h => h) (Or.inl ⟨by rfl, ?_⟩) ?_ ?_
        rotate_left
        ·intro w'
         go_simp
         with_reducible rfl
        rotate_left
        ·simp only [Act.put, List.setIfInBounds_toArray, List.set_cons_zero, List.set_cons_succ, i64_w, i32_w]
         rfl
        refine pure_ (i := 1) (N := some 20) (v := ?_) (a' := ?_) #[true, true, false, false, false, false, false, false] rfl rfl (any_of HT_.out (by kernel_rfl)) (fun _ _ _ h => h) (Or.inl ⟨by rfl, ?_⟩) ?_ ?_
        rotate_left
        ·intro w'
         go_simp
         with_reducible rfl
        rotate_left
        ·simp only [Act.put, List.setIfInBounds_toArray, List.set_cons_zero, List.set_cons_succ, i64_w, i32_w]
         rfl
        refine pure_ (i := 3) (N := some 22) (v := ?_) (a' := ?_) #[true, true, false, true, false, false, false, false] rfl rfl (any_of HT_.out (by kernel_rfl)) (fun _ _ _ h => h) (Or.inl ⟨by rfl, ?_⟩) ?_ ?_
        rotate_left
        ·intro w'
         go_simp
         with_reducible rfl
        rotate_left
        ·simp only [Act.put, List.setIfInBounds_toArray, List.set_cons_zero, List.set_cons_succ, i64_w, i32_w]
         rfl
        refine pure_ (i := 4) (N := some 23) (v := ?_) (a' := ?_) #[true, true, false, true, true, false, false, false] rfl rfl (any_of HT_.out (by kernel_rfl)) (fun _ _ _ h => h) (Or.inl ⟨by rfl, ?_⟩) ?_ ?_
        rotate_left
        ·intro w'
         go_simp
         with_reducible rfl
        rotate_left
        ·simp only [Act.put, List.setIfInBounds_toArray, List.set_cons_zero, List.set_cons_succ, i64_w, i32_w]
         rfl
        refine take_ (i := 2) (N := some 21) (v := ?_) (a' := ?_) #[true, true, true, true, true, false, false, false] rfl rfl (take_ofW HT_.out HW_.out (by kernel_rfl)) (fun _ _ _ h => h) (Or.inl ⟨by rfl, ?_⟩) hHeld ?_ ?_
        rotate_left
        ·rintro w' ⟨s0, s1⟩
         go_simp
         with_reducible rfl
        rotate_left
        ·simp only [Act.put, List.setIfInBounds_toArray, List.set_cons_zero, List.set_cons_succ, i64_w, i32_w]
         rfl
        refine take_ (i := 5) (N := some 24) (v := ?_) (a' := ?_) #[true, true, true, true, true, true, false, false] rfl rfl (take_ofW HT_.out HW_.out (by kernel_rfl)) (fun _ _ _ h => h) (Or.inl ⟨by rfl, ?_⟩) hHeld ?_ ?_
        rotate_left
        ·rintro w' ⟨s0, s1⟩
         go_simp
         with_reducible rfl
        rotate_left
        ·simp only [Act.put, List.setIfInBounds_toArray, List.set_cons_zero, List.set_cons_succ, i64_w, i32_w]
         rfl
        refine one_ (i := 6) (N := some 25) #[true, true, true, true, true, true, true, false] rfl rfl (one_of HT_.out (by kernel_rfl)) (by decide) (fun K hK => ?_)
        refine goes_ Try.func39 (by kernel_rfl) rfl #[.string (rdOf ByteArray.empty l0 0), .string (rdOf ByteArray.empty l1 0)] (by rfl) rfl rfl (by (try simp only [List.map_toArray, List.map_cons, List.map_nil]); first | done | rfl | (simp only [List.length_drop, List.length_take]; rfl)) ?_
        with_reducible refine (isoglossref02_Compare.calls k (rdOf ByteArray.empty l0 0) (rdOf ByteArray.empty l1 0) t193 _ A12.out).mono ?_
        rintro e w25 ⟨rfl, hb⟩
        refine ⟨_, rfl, ?_⟩
        have n0_ := Aside0.mk (below_step (by repeat (first | (with_reducible first | exact HB.out | apply below_alloc | apply pw_below_drewN | apply below_drew1) | exact HB.out)) hb)
        clear HB
        have HB := n0_
        clear n0_
        (try clear hb)
        (try clear hb2)
        (try clear hk)
        (try clear hi)
        refine hK.out _ _ ⟨((HB.out.cell (World.block_lt_of_cell? w _ hw191_0)).trans hw191_0), ((HB.out.cell (World.block_lt_of_cell? w _ hw192_0)).trans hw192_0)⟩ (fun hHeld => ?_)
        clear hK K
        refine norm_ (a' := ?_) ?_ ?_
        rotate_left
        ·show Act.put _ (some 25) _ = _
         simp only [Act.put, List.setIfInBounds_toArray, List.set_cons_zero, List.set_cons_succ, i64_w, i32_w]
         rfl
        refine pure_ (i := 7) (N := some 26) (v := ?_) (a' := ?_) #[true, true, true, true, true, true, true, true] rfl rfl (any_of HT_.out (by kernel_rfl)) (fun _ _ _ h => h) (Or.inl ⟨by rfl, ?_⟩) ?_ ?_
        rotate_left
        ·intro w'
         go_simp
         with_reducible rfl
        rotate_left
        ·simp only [Act.put, List.setIfInBounds_toArray, List.set_cons_zero, List.set_cons_succ, i64_w, i32_w]
         rfl
        refine done_ (done_of HT_.out (by kernel_rfl)) ?_
        have p197 : 0 ≤ (0 : Int) := (by omega)
        have q197 : 0 < (l1.length : Int) := of_decide_eq_true (by first | (with_reducible assumption) | assumption)
        obtain ⟨ad197, e197, hx197_0⟩ := Kd.at_string HR1.out 0 p197 q197
        obtain rfl : ad192 = ad197 := (by injection e197)
        have qi197 : (0 < l1.length) = True := eq_true (by omega)
        (try rw [show ((0 : Int)).toNat = 0 from rfl] at hx197_0)
        (try rw [Addr.add_zero'] at hx197_0)
        replace hx197_0 := (HB.out.cell (World.block_lt_of_cell? w _ hx197_0)).trans hx197_0
        replace p197 := eq_true p197
        replace q197 := eq_true q197
        try go_wp2
        go_ret
        exact ⟨by first | rfl | (simp [errW_none, errW_some] <;> rfl) | (simp [*, errW_none, errW_some] <;> rfl), by repeat (first | (with_reducible first | exact HB.out | apply below_alloc | apply pw_below_drewN | apply below_drew1) | exact HB.out)⟩
       ·rw [if_neg c23] at H
        have c23b0 : (((rdOf ByteArray.empty l1 0).size : Int) == 1) = false := beq_eq_false_iff_ne.mpr c23
        have c23b1 : (((rdOf ByteArray.empty l1 0).size : Int) != 1) = true := bne_iff_ne.mpr c23
        by_cases c26 : 1 ≤ (l1.length : Int)
        ·rw [if_pos c26] at H
         have c26b0 := eq_true c26
         have c26b1 : decide (1 ≤ (l1.length : Int)) = true := decide_eq_true c26
         clear c26
         replace H := Option.bind_eq_some_iff.mp H
         obtain ⟨t199, A270, H⟩ := H
         replace H : (some t199) = some r := H
         have A27 := Aside0.mk A270
         clear A270
         obtain rfl := Option.some.inj H
         have p188 : 0 ≤ (0 : Int) := (by omega)
         have q188 : 0 < (l0.length : Int) := of_decide_eq_true (by first | (with_reducible assumption) | assumption)
         obtain ⟨ad188, e188, hx188_0⟩ := Kd.at_string HR0.out 0 p188 q188
         cases e188
         have qi188 : (0 < l0.length) = True := eq_true (by omega)
         (try rw [show ((0 : Int)).toNat = 0 from rfl] at hx188_0)
         (try rw [Addr.add_zero'] at hx188_0)
         replace p188 := eq_true p188
         replace q188 := eq_true q188
         go_enter Try.func40, Try.ntmps40
         try go_wp2
         have n0_ := Aside0.mk (below_drew1 HB.out)
         clear HB
         have HB := n0_
         clear n0_
         have p191 : 0 ≤ (0 : Int) := (by omega)
         have q191 : 0 < (l0.length : Int) := of_decide_eq_true (by first | (with_reducible assumption) | assumption)
         obtain ⟨ad191, e191, hx191_0⟩ := Kd.at_string HR0.out 0 p191 q191
         have hw191_0 := hx191_0
         (try rw [show ((0 : Int)).toNat = 0 from rfl] at hw191_0)
         (try rw [show 0 * 1 = 0 from rfl] at hw191_0)
         (try rw [Addr.add_zero'] at hw191_0)
         obtain rfl : ad188 = ad191 := (by injection e191)
         have qi191 : (0 < l0.length) = True := eq_true (by omega)
         (try rw [show ((0 : Int)).toNat = 0 from rfl] at hx191_0)
         (try rw [Addr.add_zero'] at hx191_0)
         replace hx191_0 := (HB.out.cell (World.block_lt_of_cell? w _ hx191_0)).trans hx191_0
         replace p191 := eq_true p191
         replace q191 := eq_true q191
         have p192 : 0 ≤ (0 : Int) := (by omega)
         have q192 : 0 < (l1.length : Int) := of_decide_eq_true (by first | (with_reducible assumption) | assumption)
         obtain ⟨ad192, e192, hx192_0⟩ := Kd.at_string HR1.out 0 p192 q192
         have hw192_0 := hx192_0
         (try rw [show ((0 : Int)).toNat = 0 from rfl] at hw192_0)
         (try rw [show 0 * 1 = 0 from rfl] at hw192_0)
         (try rw [Addr.add_zero'] at hw192_0)
         cases e192
         have qi192 : (0 < l1.length) = True := eq_true (by omega)
         (try rw [show ((0 : Int)).toNat = 0 from rfl] at hx192_0)
         (try rw [Addr.add_zero'] at hx192_0)
         replace hx192_0 := (HB.out.cell (World.block_lt_of_cell? w _ hx192_0)).trans hx192_0
         replace p192 := eq_true p192
         replace q192 := eq_true q192
         refine start_ (n := 8) (S := fun w' => w'.cell? ad188 = some (.string (rdOf ByteArray.empty l0 0)) ∧ w'.cell? ad192 = some (.string (rdOf ByteArray.empty l1 0))) (ds := []) #[false, false, false, false, false, false, false, false] (by kernel_rfl) rfl rfl ⟨((HB.out.cell (World.block_lt_of_cell? w _ hw191_0)).trans hw191_0), ((HB.out.cell (World.block_lt_of_cell? w _ hw192_0)).trans hw192_0)⟩ (fun hHeld => ?_); refine with_tabW isoglossref20_walk.tab7 isoglossref20_walk.bits7 (fun HT_ HW_ => ?_)
         generalize w.drew = w28 at HB hx191_0 hx192_0 hHeld ⊢
         refine pure_ (i := 0) (N := some 19) (v := ?_) (a' := ?_) #[true, false, false, false, false, false, false, false] rfl rfl (any_of HT_.out (by kernel_rfl)) (fun _ _ _ h => h) (Or.inl ⟨by rfl, ?_⟩) ?_ ?_
         rotate_left
         ·intro w'
          go_simp
          with_reducible rfl
         rotate_left
         ·simp only [Act.put, List.setIfInBounds_toArray, List.set_cons_zero, List.set_cons_succ, i64_w, i32_w]
          rfl
         refine pure_ (i := 1) (N := some 20) (v := ?_) (a' := ?_) #[true, true, false, false, false, false, false, false] rfl rfl (any_of HT_.out (by kernel_rfl)) (fun _ _ _ h => h) (Or.inl ⟨by rfl, ?_⟩) ?_ ?_
         rotate_left
         ·intro w'
          go_simp
          with_reducible rfl
         rotate_left
         ·simp only [Act.put, List.setIfInBounds_toArray, List.set_cons_zero, List.set_cons_succ, i64_w, i32_w]
          rfl
         refine pure_ (i := 3) (N := some 22) (v := ?_) (a' := ?_) #[true, true, false, true, false, false, false, false] rfl rfl (any_of HT_.out (by kernel_rfl)) (fun _ _ _ h => h) (Or.inl ⟨by rfl, ?_⟩) ?_ ?_
         rotate_left
         ·intro w'
          go_simp
          with_reducible rfl
         rotate_left
         ·simp only [Act.put, List.setIfInBounds_toArray, List.set_cons_zero, List.set_cons_succ, i64_w, i32_w]
          rfl
         refine pure_ (i := 4) (N := some 23) (v := ?_) (a' := ?_) #[true, true, false, true, true, false, false, false] rfl rfl (any_of HT_.out (by kernel_rfl)) (fun _ _ _ h => h) (Or.inl ⟨by rfl, ?_⟩) ?_ ?_
         rotate_left
         ·intro w'
          go_simp
          with_reducible rfl
         rotate_left
         ·simp only [Act.put, List.setIfInBounds_toArray, List.set_cons_zero, List.set_cons_succ, i64_w, i32_w]
          rfl
         refine take_ (i := 2) (N := some 21) (v := ?_) (a' := ?_) #[true, true, true, true, true, false, false, false] rfl rfl (take_ofW HT_.out HW_.out (by kernel_rfl)) (fun _ _ _ h => h) (Or.inl ⟨by rfl, ?_⟩) hHeld ?_ ?_
         rotate_left
         ·rintro w' ⟨s0, s1⟩
          go_simp
          with_reducible rfl
         rotate_left
         ·simp only [Act.put, List.setIfInBounds_toArray, List.set_cons_zero, List.set_cons_succ, i64_w, i32_w]
          rfl
         refine take_ (i := 5) (N := some 24) (v := ?_) (a' := ?_) #[true, true, true, true, true, true, false, false] rfl rfl (take_ofW HT_.out HW_.out (by kernel_rfl)) (fun _ _ _ h => h) (Or.inl ⟨by rfl, ?_⟩) hHeld ?_ ?_
         rotate_left
         ·rintro w' ⟨s0, s1⟩
          go_simp
          with_reducible rfl
         rotate_left
         ·simp only [Act.put, List.setIfInBounds_toArray, List.set_cons_zero, List.set_cons_succ, i64_w, i32_w]
          rfl
         refine one_ (i := 6) (N := some 25) #[true, true, true, true, true, true, true, false] rfl rfl (one_of HT_.out (by kernel_rfl)) (by decide) (fun K hK => ?_)
         refine goes_ Try.func39 (by kernel_rfl) rfl #[.string (rdOf ByteArray.empty l0 0), .string (rdOf ByteArray.empty l1 0)] (by rfl) rfl rfl (by (try simp only [List.map_toArray, List.map_cons, List.map_nil]); first | done | rfl | (simp only [List.length_drop, List.length_take]; rfl)) ?_
         with_reducible refine (isoglossref02_Compare.calls k (rdOf ByteArray.empty l0 0) (rdOf ByteArray.empty l1 0) t193 _ A12.out).mono ?_
         rintro e w29 ⟨rfl, hb⟩
         refine ⟨_, rfl, ?_⟩
         have n0_ := Aside0.mk (below_step (by repeat (first | (with_reducible first | exact HB.out | apply below_alloc | apply pw_below_drewN | apply below_drew1) | exact HB.out)) hb)
         clear HB
         have HB := n0_
         clear n0_
         (try clear hb)
         (try clear hb2)
         (try clear hk)
         (try clear hi)
         refine hK.out _ _ ⟨((HB.out.cell (World.block_lt_of_cell? w _ hw191_0)).trans hw191_0), ((HB.out.cell (World.block_lt_of_cell? w _ hw192_0)).trans hw192_0)⟩ (fun hHeld => ?_)
         clear hK K
         refine norm_ (a' := ?_) ?_ ?_
         rotate_left
         ·show Act.put _ (some 25) _ = _
          simp only [Act.put, List.setIfInBounds_toArray, List.set_cons_zero, List.set_cons_succ, i64_w, i32_w]
          rfl
         refine pure_ (i := 7) (N := some 26) (v := ?_) (a' := ?_) #[true, true, true, true, true, true, true, true] rfl rfl (any_of HT_.out (by kernel_rfl)) (fun _ _ _ h => h) (Or.inl ⟨by rfl, ?_⟩) ?_ ?_
         rotate_left
         ·intro w'
          go_simp
          with_reducible rfl
         rotate_left
         ·simp only [Act.put, List.setIfInBounds_toArray, List.set_cons_zero, List.set_cons_succ, i64_w, i32_w]
          rfl
         refine done_ (done_of HT_.out (by kernel_rfl)) ?_
         have p197 : 0 ≤ (0 : Int) := (by omega)
         have q197 : 0 < (l1.length : Int) := of_decide_eq_true (by first | (with_reducible assumption) | assumption)
         obtain ⟨ad197, e197, hx197_0⟩ := Kd.at_string HR1.out 0 p197 q197
         obtain rfl : ad192 = ad197 := (by injection e197)
         have qi197 : (0 < l1.length) = True := eq_true (by omega)
         (try rw [show ((0 : Int)).toNat = 0 from rfl] at hx197_0)
         (try rw [Addr.add_zero'] at hx197_0)
         replace hx197_0 := (HB.out.cell (World.block_lt_of_cell? w _ hx197_0)).trans hx197_0
         replace p197 := eq_true p197
         replace q197 := eq_true q197
         obtain ⟨i030, hi030, _, hsz30, _⟩ := info_parts info9
         obtain ⟨A30, hcut30, hA30, hC30⟩ := print_drop_of (P := Try.prog) Value.string (⟨#[]⟩ : ByteArray) 25 9 .i64 Try.underlying25 hi030 hsz30 (some ad192) c1 l1 1 (by omega) (of_decide_eq_true (by first | (with_reducible assumption) | assumption)) HC1.out
         have HR198 := Aside0.mk (Kd.C_of_reads (h1 := fun _ => rfl) (hA30 _ (Kd.reads_of_C HR1.out)))
         have HC198 := Aside0.mk hC30
         clear hA30 hC30 hi030 hsz30
         try go_wp2_with (first | ((with_reducible refine gate_callee (f := 40) rfl ?_); refine goesL_ (some 40) rfl rfl Try.func40 (by kernel_rfl) rfl #[.slice (some ad188) l0.length c0, .slice A30 (l1.drop 1).length (c1 - 1)] rfl (by (try simp only [List.map_toArray, List.map_cons, List.map_nil]); first | done | (rw [show (l1.drop 1).length = (l1.length - 1) from List.length_drop] <;> rfl) | rfl | (simp only [List.length_drop, List.length_take]; rfl)) ?_; (with_reducible refine (ih k (by omega) _ _ l0 _ _ (l1.drop 1) t199 _ ?side1 ?side2 ?side3 ?side4 A27.out).mono ?_); (case side1 => repeat (first | exact (Kd.C_below HR0.out HB.out) | (with_reducible refine Kd.C_alloc ?_ _) | (with_reducible refine Kd.C_drewN ?_ _) | (with_reducible refine Kd.C_drew ?_))); (case side2 => exact HC0.out); (case side3 => repeat (first | exact (Kd.C_below HR198.out HB.out) | (with_reducible refine Kd.C_alloc ?_ _) | (with_reducible refine Kd.C_drewN ?_ _) | (with_reducible refine Kd.C_drew ?_))); (case side4 => exact HC198.out); rintro e w31 ⟨rfl, hb⟩; refine ⟨_, rfl, ?_⟩; have n0_ := Aside0.mk (below_step (by repeat (first | (with_reducible first | exact HB.out | apply below_alloc | apply pw_below_drewN | apply below_drew1) | exact HB.out)) hb); clear HB; have HB := n0_; clear n0_; (try clear hb); (try clear hb2); (try clear hk); (try clear hi)))
         go_ret
         exact ⟨by first | rfl | (simp [errW_none, errW_some] <;> rfl) | (simp [*, errW_none, errW_some] <;> rfl), by repeat (first | (with_reducible first | exact HB.out | apply below_alloc | apply pw_below_drewN | apply below_drew1) | exact HB.out)⟩
        ·rw [if_neg c26] at H
         exact absurd H (by simp)
     ·rw [if_neg c11] at H
      exact absurd H (by simp)
  ·rw [if_neg c4] at H
   exact absurd H (by simp)

end Go.Proofs.Ytanahbcdilcmoaa.P
