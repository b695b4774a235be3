-- Written for this claim by the session's own run of the print, functions proved by hand put in.
import Derived.Test.YtejnfbfikadpdaaGreatDoorSq
import Derived.Test.YtejnfbfikadpdaaGreatDoorPx0
namespace Go.Proofs.YtejnfbfikadpdaaGreatDoor.P
open Go.RowKit Go.Proofs.YtejnfbfikadpdaaGreatDoorW.PrintWords Go.Proofs.YtejnfbfikadpdaaGreatDoorW.PrintLast Go.Proofs.YtejnfbfikadpdaaGreatDoorW.PrintMore
open List renaming setIfInBounds_toArray → sA_, set_cons_zero → sB_, set_cons_succ → sC_
open Go.Proofs.YtejnfbfikadpdaaGreatDoorW.PrintWords renaming below_alloc → wA_, pw_below_drewN → wN_, below_drew1 → wD_
open Go.Proofs.YtejnfbfikadpdaaGreatDoorW.PrintWords.Kd renaming R_alloc → rA_, R_drewN → rN_, R_drew → rD_
attribute [local go_sem] max2_int min2_int max_two min_two max_three min_three max_four min_four   -- for this text's walks alone
set_option linter.unusedVariables false
set_option linter.unusedSimpArgs false
def r2_upper.f (a0 : Int) : Option (Int) := if a0 ≥ 97 then (if a0 ≤ 122 then (some ((((a0 - 97) % 256) + 65) % 256)) else (some a0)) else (some a0)
set_option maxHeartbeats 8000000 in
set_option maxRecDepth 100000 in
theorem r2_upper.calls (a0 : Int) (r : Int) (w : World) (h : r2_upper.f a0 = some r) :
  Calls Tryz.prog 46 #[.int .u8 a0] w fun e w' => e = .returned (.int .u8 r) ∧ Drawn0 w w' := by
 have H := h; unfold r2_upper.f at H
 clear h
 by_cases c2 : a0 ≥ 97
 ·rw [if_pos c2] at H
  have af : decide (97 ≤ a0) = true := decide_eq_true c2
  clear c2
  by_cases c3 : a0 ≤ 122
  ·rw [if_pos c3] at H
   have ar : decide (a0 ≤ 122) = true := decide_eq_true c3
   clear c3
   obtain rfl := Option.some.inj H
   go_enter Tryz.func46, Tryz.ntmps46
   go_wp2
   go_ret
   exact ⟨Qs, Q0⟩
  ·rw [if_neg c3] at H
   have ar : decide (a0 ≤ 122) = false := decide_eq_false c3
   clear c3
   obtain rfl := Option.some.inj H
   go_enter Tryz.func46, Tryz.ntmps46
   go_wp2
   go_ret
   exact ⟨Qs, Q0⟩
 ·rw [if_neg c2] at H
  have af : decide (97 ≤ a0) = false := decide_eq_false c2
  clear c2
  obtain rfl := Option.some.inj H
  go_enter Tryz.func46, Tryz.ntmps46
  go_wp2
  go_ret
  exact ⟨Qs, Q0⟩
def r2_Upper.l0 : Nat → ByteArray → List Int → Int → Option (ByteArray)
 | 0, _, _, _ => none
 | k + 1, x0, x3, x4 => if x4 < (x0.size : Int) then (if 0 ≤ x4 then ((r2_upper.f (bt x0 x4)).bind fun au => (if x3.length < 140737488355328 then (r2_Upper.l0 k x0 (x3 ++ [au]) (wrap64 (x4 + 1))) else (none))) else (none)) else (some (strOfNums x3))
def r2_Upper.f (k : Nat) (a0 : ByteArray) : Option (ByteArray) := r2_Upper.l0 k a0 ([] : List Int) 0
set_option maxHeartbeats 8000000 in
set_option maxRecDepth 100000 in
theorem r2_Upper.calls (k : Nat) (a0 : ByteArray) (r : ByteArray) (w : World) (h : r2_Upper.f k a0 = some r) :
  Calls Tryz.prog 14 #[.string a0] w fun e w' => e = .returned (.string r) ∧ Below w.heap.size w w' := by
 have HB := Aside0.mk (Below.refl w.heap.size w)
 have H : (r2_Upper.l0 k a0 ([] : List Int) 0) = some r := h
 clear h
 have H' := Aside0.mk H
 clear H
 go_enter Tryz.func14, Tryz.ntmps14
 go_wp2
 go_loopg [3, 4] k (fun kq v3 v4 w' => ∃ (ab : List Int) (aa : Int), v4 = .int .i64 aa ∧ Aside0 (r2_Upper.l0 kq a0 ab aa = some r) ∧ Aside0 (kq ≤ k) ∧ Aside0 (Kd.R (Kd.int .u8) 5 w' w.heap.size (fun _ => True) v3 ab) ∧ Aside0 (Below w.heap.size w w'))
 case atStart => exact ⟨(([] : List Int)), (0), Qs, H', ⟨Nat.le_refl _⟩, ⟨by first | exact Kd.R_nil _ _ _ _ _ | exact Kd.N_nil _ _ _ _ _ | exact Kd.V_nil _ _ _ _ _ | exact Kd.Q_nil _ _ _ _ _ | exact Kd.S_nil _ _ _ _ _⟩, ⟨Qw HB.out⟩⟩
 case round =>
  clear H'
  obtain ⟨ab, aa, rfl, HA, HK1, HO_3, HB⟩ := hrel
  cases gk with
  | zero => exact absurd HA.out (by simp [r2_Upper.l0])
  | succ k1 =>
   have H := HA.out
   clear HA
   simp only [r2_Upper.l0] at H
   by_cases c2 : aa < (a0.size : Int)
   ·rw [if_pos c2] at H
    have af : decide (aa < (a0.size : Int)) = true := decide_eq_true c2
    clear c2
    by_cases c3 : 0 ≤ aa
    ·rw [if_pos c3] at H
     have ar : decide (0 ≤ aa) = true := decide_eq_true c3
     clear c3
     replace H := Option.bind_eq_some_iff.mp H
     obtain ⟨au, aw, H⟩ := H
     try dsimp only at H
     have A5 := Aside0.mk aw
     clear aw
     by_cases c6 : ab.length < 140737488355328
     ·rw [if_pos c6] at H
      have ax := Aside0.mk c6
      clear c6
      obtain ⟨az, ai⟩ : ∃ y_ : List Int, y_ = (ab ++ [au]) := ⟨_, rfl⟩
      replace H : (r2_Upper.l0 k1 a0 az (wrap64 (aa + 1))) = some r := by first | (rw [ai]; with_reducible exact H) | (have H2_ := (Option.bind_some _ _).symm.trans H; rw [ai]; with_reducible exact H2_) | (have H2_ := (Option.bind_some _ _).symm.trans H; with_reducible exact H2_) | with_reducible exact H | (rw [ai]; exact H) | exact H
      have aA := Aside0.mk ai
      clear ai
      have H' := Aside0.mk H
      clear H
      have p4 : 0 ≤ (aa : Int) := of_decide_eq_true Qa
      have q4 : aa < (a0.size : Int) := of_decide_eq_true Qa
      have hx4 := bt_at a0 aa
      replace p4 := eq_true p4
      replace q4 := eq_true q4
      go_wp2_with (first | ((with_reducible refine gate_callee (f := 46) rfl ?_); refine goesL_ (some 15) rfl rfl Tryz.func46 (by kernel_rfl) rfl #[.int .u8 (bt a0 aa)] rfl Qm ?_; (with_reducible refine (r2_upper.calls (bt a0 aa) au _ A5.out).mono ?_); rintro e w' ⟨rfl, ⟨nd, rfl⟩⟩; refine ⟨_, rfl, ?_⟩) | ((with_reducible refine gate_builtin (b := .append) (xs := #[.tmp 11, .tmp 16]) rfl ?_); at_builtin; refine Kd.R_append (Kd.int .u8) (w0 := w) w.heap.size rfl (.tmp 11) (.tmp 16) 79 5 (.int .u8 0) 1 rfl Tryz.underlying79 info5 rfl (by decide) (by omega) u3 ab au [.int .u8 au] (fun _ => True) (fun _ => False) rfl rfl ?aP (fun _ hk => hk.elim) ?aF ?aO ?aB ?aS ?aL ?_; (case aP => exact rfl); (case aB => exact (Qw HB.out)); (case aF => exact (fun _ _ => trivial)); (case aO => exact (Qr HO_3.out)); (case aS => exact (below_size (Qw HB.out))); (case aL => have := ax.out; omega); intro v182 w7 ho hb hg hat; rw [← aA.out] at ho; have aq := Aside0.mk (hb); have aC := Aside0.mk (ho); clear HB; clear HO_3; have HB := aq; have aD := aC; clear aq aC; clear ho hb hg hat))
      go_roundg k1
      case measure => have := HK1.out; omega
      case rel => exact ⟨(az), (wrap64 (aa + 1)), Qs, H', ⟨by have := HK1.out; omega⟩, ⟨Qr aD.out⟩, ⟨Qw HB.out⟩⟩
     ·rw [if_neg c6] at H
      exact absurd H (by simp)
    ·rw [if_neg c3] at H
     exact absurd H (by simp)
   ·rw [if_neg c2] at H
    have af : decide (aa < (a0.size : Int)) = false := decide_eq_false c2
    clear c2
    obtain rfl := Option.some.inj H
    have aI := own_string (P := Tryz.prog) Tryz.underlying79 Tryz.underlying5 Tryz.underlying9 (Kd.own_of_R HO_3.out)
    go_wp2
    go_ret
    exact ⟨Qe, Qw HB.out⟩
def r2_lower.f (a0 : Int) : Option (Int) := if a0 ≥ 65 then (if a0 ≤ 90 then (some ((((a0 - 65) % 256) + 97) % 256)) else (some a0)) else (some a0)
set_option maxHeartbeats 8000000 in
set_option maxRecDepth 100000 in
theorem r2_lower.calls (a0 : Int) (r : Int) (w : World) (h : r2_lower.f a0 = some r) :
  Calls Tryz.prog 57 #[.int .u8 a0] w fun e w' => e = .returned (.int .u8 r) ∧ Drawn0 w w' := by
 have H := h; unfold r2_lower.f at H
 clear h
 by_cases c2 : a0 ≥ 65
 ·rw [if_pos c2] at H
  have af : decide (65 ≤ a0) = true := decide_eq_true c2
  clear c2
  by_cases c3 : a0 ≤ 90
  ·rw [if_pos c3] at H
   have ar : decide (a0 ≤ 90) = true := decide_eq_true c3
   clear c3
   obtain rfl := Option.some.inj H
   go_enter Tryz.func57, Tryz.ntmps57
   go_wp2
   go_ret
   exact ⟨Qs, Q0⟩
  ·rw [if_neg c3] at H
   have ar : decide (a0 ≤ 90) = false := decide_eq_false c3
   clear c3
   obtain rfl := Option.some.inj H
   go_enter Tryz.func57, Tryz.ntmps57
   go_wp2
   go_ret
   exact ⟨Qs, Q0⟩
 ·rw [if_neg c2] at H
  have af : decide (65 ≤ a0) = false := decide_eq_false c2
  clear c2
  obtain rfl := Option.some.inj H
  go_enter Tryz.func57, Tryz.ntmps57
  go_wp2
  go_ret
  exact ⟨Qs, Q0⟩
def r2_Lower.l0 : Nat → ByteArray → List Int → Int → Option (ByteArray)
 | 0, _, _, _ => none
 | k + 1, x0, x3, x4 => if x4 < (x0.size : Int) then (if 0 ≤ x4 then ((r2_lower.f (bt x0 x4)).bind fun av => (if x3.length < 140737488355328 then (r2_Lower.l0 k x0 (x3 ++ [av]) (wrap64 (x4 + 1))) else (none))) else (none)) else (some (strOfNums x3))
def r2_Lower.f (k : Nat) (a0 : ByteArray) : Option (ByteArray) := r2_Lower.l0 k a0 ([] : List Int) 0
set_option maxHeartbeats 8000000 in
set_option maxRecDepth 100000 in
theorem r2_Lower.calls (k : Nat) (a0 : ByteArray) (r : ByteArray) (w : World) (h : r2_Lower.f k a0 = some r) :
  Calls Tryz.prog 24 #[.string a0] w fun e w' => e = .returned (.string r) ∧ Below w.heap.size w w' := by
 have HB := Aside0.mk (Below.refl w.heap.size w)
 have H : (r2_Lower.l0 k a0 ([] : List Int) 0) = some r := h
 clear h
 have H' := Aside0.mk H
 clear H
 go_enter Tryz.func24, Tryz.ntmps24
 go_wp2
 go_loopg [3, 4] k (fun kq v3 v4 w' => ∃ (ab : List Int) (aa : Int), v4 = .int .i64 aa ∧ Aside0 (r2_Lower.l0 kq a0 ab aa = some r) ∧ Aside0 (kq ≤ k) ∧ Aside0 (Kd.R (Kd.int .u8) 5 w' w.heap.size (fun _ => True) v3 ab) ∧ Aside0 (Below w.heap.size w w'))
 case atStart => exact ⟨(([] : List Int)), (0), Qs, H', ⟨Nat.le_refl _⟩, ⟨by first | exact Kd.R_nil _ _ _ _ _ | exact Kd.N_nil _ _ _ _ _ | exact Kd.V_nil _ _ _ _ _ | exact Kd.Q_nil _ _ _ _ _ | exact Kd.S_nil _ _ _ _ _⟩, ⟨Qw HB.out⟩⟩
 case round =>
  clear H'
  obtain ⟨ab, aa, rfl, HA, HK1, HO_3, HB⟩ := hrel
  cases gk with
  | zero => exact absurd HA.out (by simp [r2_Lower.l0])
  | succ k1 =>
   have H := HA.out
   clear HA
   simp only [r2_Lower.l0] at H
   by_cases c2 : aa < (a0.size : Int)
   ·rw [if_pos c2] at H
    have af : decide (aa < (a0.size : Int)) = true := decide_eq_true c2
    clear c2
    by_cases c3 : 0 ≤ aa
    ·rw [if_pos c3] at H
     have ar : decide (0 ≤ aa) = true := decide_eq_true c3
     clear c3
     replace H := Option.bind_eq_some_iff.mp H
     obtain ⟨av, aw, H⟩ := H
     try dsimp only at H
     have A5 := Aside0.mk aw
     clear aw
     by_cases c6 : ab.length < 140737488355328
     ·rw [if_pos c6] at H
      have ax := Aside0.mk c6
      clear c6
      obtain ⟨aE, aj⟩ : ∃ y_ : List Int, y_ = (ab ++ [av]) := ⟨_, rfl⟩
      replace H : (r2_Lower.l0 k1 a0 aE (wrap64 (aa + 1))) = some r := by first | (rw [aj]; with_reducible exact H) | (have H2_ := (Option.bind_some _ _).symm.trans H; rw [aj]; with_reducible exact H2_) | (have H2_ := (Option.bind_some _ _).symm.trans H; with_reducible exact H2_) | with_reducible exact H | (rw [aj]; exact H) | exact H
      have aG := Aside0.mk aj
      clear aj
      have H' := Aside0.mk H
      clear H
      have p4 : 0 ≤ (aa : Int) := of_decide_eq_true Qa
      have q4 : aa < (a0.size : Int) := of_decide_eq_true Qa
      have hx4 := bt_at a0 aa
      replace p4 := eq_true p4
      replace q4 := eq_true q4
      go_wp2_with (first | ((with_reducible refine gate_callee (f := 57) rfl ?_); refine goesL_ (some 15) rfl rfl Tryz.func57 (by kernel_rfl) rfl #[.int .u8 (bt a0 aa)] rfl Qm ?_; (with_reducible refine (r2_lower.calls (bt a0 aa) av _ A5.out).mono ?_); rintro e w' ⟨rfl, ⟨nd, rfl⟩⟩; refine ⟨_, rfl, ?_⟩) | ((with_reducible refine gate_builtin (b := .append) (xs := #[.tmp 11, .tmp 16]) rfl ?_); at_builtin; refine Kd.R_append (Kd.int .u8) (w0 := w) w.heap.size rfl (.tmp 11) (.tmp 16) 79 5 (.int .u8 0) 1 rfl Tryz.underlying79 info5 rfl (by decide) (by omega) u3 ab av [.int .u8 av] (fun _ => True) (fun _ => False) rfl rfl ?aP (fun _ hk => hk.elim) ?aF ?aO ?aB ?aS ?aL ?_; (case aP => exact rfl); (case aB => exact (Qw HB.out)); (case aF => exact (fun _ _ => trivial)); (case aO => exact (Qr HO_3.out)); (case aS => exact (below_size (Qw HB.out))); (case aL => have := ax.out; omega); intro v186 w7 ho hb hg hat; rw [← aG.out] at ho; have aq := Aside0.mk (hb); have aC := Aside0.mk (ho); clear HB; clear HO_3; have HB := aq; have aH := aC; clear aq aC; clear ho hb hg hat))
      go_roundg k1
      case measure => have := HK1.out; omega
      case rel => exact ⟨(aE), (wrap64 (aa + 1)), Qs, H', ⟨by have := HK1.out; omega⟩, ⟨Qr aH.out⟩, ⟨Qw HB.out⟩⟩
     ·rw [if_neg c6] at H
      exact absurd H (by simp)
    ·rw [if_neg c3] at H
     exact absurd H (by simp)
   ·rw [if_neg c2] at H
    have af : decide (aa < (a0.size : Int)) = false := decide_eq_false c2
    clear c2
    obtain rfl := Option.some.inj H
    have aI := own_string (P := Tryz.prog) Tryz.underlying79 Tryz.underlying5 Tryz.underlying9 (Kd.own_of_R HO_3.out)
    go_wp2
    go_ret
    exact ⟨Qe, Qw HB.out⟩
def r2_Title.f (k : Nat) (a0 : ByteArray) : Option (ByteArray) := if a0.toList = ([] : List UInt8) then (some (⟨#[]⟩ : ByteArray)) else (if 0 ≤ 1 then (if 1 ≤ (a0.size : Int) then ((r2_Upper.f k (a0.extract 0 1)).bind fun ao => ((r2_Lower.f k (a0.extract 1 a0.size)).bind fun ap => (if ao.size + ap.size ≤ 9223372036854775807 then (some (ao ++ ap)) else (none)))) else (none)) else (none))
def r2_Title.T3 : Bool × List (List Nat × List Nat) := (true, [([], []), ([0], [0]), ([1], [1]), ([], []), ([3], [3]), ([4, 2], [4]), ([2, 5], [2, 5]), ([6, 5, 0, 1, 2, 3, 4, 5, 6], [6])])
def r2_Title.B3 : List Nat := [0, 1, 3, 0, 8, 31, 63, 127]
theorem r2_Title.tab3 : rtab .any (opsOf Tryz.f66 3) = r2_Title.T3 := by kernel_rfl
theorem r2_Title.bits3 : waitsOk r2_Title.T3.2 r2_Title.B3 = true := by kernel_rfl
set_option maxHeartbeats 8000000 in
set_option maxRecDepth 100000 in
theorem r2_Title.calls (k : Nat) (a0 : ByteArray) (r : ByteArray) (w : World) (h : r2_Title.f k a0 = some r) :
  Calls Tryz.prog 66 #[.string a0] w fun e w' => e = .returned (.string r) ∧ Below w.heap.size w w' := by
 have HB := Aside0.mk (Below.refl w.heap.size w)
 have H := h; unfold r2_Title.f at H
 clear h
 by_cases c2 : a0.toList = ([] : List UInt8)
 ·rw [if_pos c2] at H
  have af : (a0.toList == ([] : List UInt8)) = true := beq_iff_eq.mpr c2
  have ay : a0.toList.isEmpty = true := List.isEmpty_iff.2 c2
  have aJ : (!a0.toList.isEmpty) = false := by rw [ay]; rfl
  have aK : (a0.toList != ([] : List UInt8)) = false := bne_eq_false_iff_eq.mpr c2
  clear c2
  obtain rfl := Option.some.inj H
  go_enter Tryz.func66, Tryz.ntmps66
  go_wp2
  go_ret
  exact ⟨Qe, Qw HB.out⟩
 ·rw [if_neg c2] at H
  have af : (a0.toList == ([] : List UInt8)) = false := beq_eq_false_iff_ne.mpr c2
  have ay : a0.toList.isEmpty = false := List.isEmpty_eq_false_iff.2 c2
  have aJ : (!a0.toList.isEmpty) = true := by rw [ay]; rfl
  have aK : (a0.toList != ([] : List UInt8)) = true := bne_iff_ne.mpr c2
  by_cases c3 : 0 ≤ 1
  ·rw [if_pos c3] at H
   have ar := eq_true c3
   have aN : decide (0 ≤ 1) = true := decide_eq_true c3
   clear c3
   by_cases c4 : 1 ≤ (a0.size : Int)
   ·rw [if_pos c4] at H
    have aQ := eq_true c4
    have aR : decide (1 ≤ (a0.size : Int)) = true := decide_eq_true c4
    clear c4
    replace H := Option.bind_eq_some_iff.mp H
    obtain ⟨ao, aw, H⟩ := H
    try dsimp only at H
    have A5 := Aside0.mk aw
    clear aw
    have aT := eq_true (of_decide_eq_true Qa : 1 ≤ (a0.size : Int))
    replace H := Option.bind_eq_some_iff.mp H
    obtain ⟨ap, aM, H⟩ := H
    try dsimp only at H
    have A7 := Aside0.mk aM
    clear aM
    by_cases c8 : ao.size + ap.size ≤ 9223372036854775807
    ·rw [if_pos c8] at H
     have aU := eq_true c8
     have aV : decide (ao.size + ap.size ≤ 9223372036854775807) = true := decide_eq_true c8
     try have aW : (9223372036854775807 < ao.size + ap.size) = False := eq_false (Nat.not_lt.2 c8)
     obtain rfl := Option.some.inj H
     go_enter Tryz.func66, Tryz.ntmps66
     try go_wp2
     have aq := Aside0.mk (wD_ HB.out)
     clear HB
     have HB := aq
     clear aq
     refine start_ (n := 8) (S := fun w' => True) (ds := []) #[false, false, false, false, false, false, false, false] (by kernel_rfl) rfl rfl trivial (fun hHeld => ?_); refine with_tabW r2_Title.tab3 r2_Title.bits3 (fun HT_ HW_ => ?_)
     generalize w.drew = w9 at HB hHeld ⊢
     refine pu_ (i := 0) (N := some 5) HT_ (bl_ 8 1) ?_
     refine pu_ (i := 1) (N := some 6) HT_ (bl_ 8 3) ?_
     refine pu_ (i := 3) (N := some 8) HT_ (bl_ 8 11) ?_
     refine pu_ (i := 4) (N := some 9) HT_ (bl_ 8 27) ?_
     refine on_ (i := 2) (N := some 7) HT_ (bl_ 8 31) rfl rfl (fun K hK => ?_)
     refine goes_ Tryz.func14 (by kernel_rfl) rfl #[.string (a0.extract 0 1)] (by rfl) rfl rfl Qm ?_
     with_reducible refine (r2_Upper.calls k (a0.extract 0 1) ao _ A5.out).mono ?_
     rintro e w10 ⟨rfl, hb⟩
     refine ⟨_, rfl, ?_⟩
     have aq := Aside0.mk (below_step (Qw HB.out) hb)
     clear HB
     have HB := aq
     clear aq
     (try clear hb); (try clear hb2); (try clear hk); (try clear hi)
     refine hK.out _ _ trivial (fun hHeld => ?_)
     clear hK K
     refine nm_ (some 7) ?_
     refine on_ (i := 5) (N := some 10) HT_ (bl_ 8 63) rfl rfl (fun K hK => ?_)
     refine goes_ Tryz.func24 (by kernel_rfl) rfl #[.string (a0.extract 1 a0.size)] (by rfl) rfl rfl Qm ?_
     with_reducible refine (r2_Lower.calls k (a0.extract 1 a0.size) ap _ A7.out).mono ?_
     rintro e w11 ⟨rfl, hb⟩
     refine ⟨_, rfl, ?_⟩
     have aq := Aside0.mk (below_step (Qw HB.out) hb)
     clear HB
     have HB := aq
     clear aq
     (try clear hb); (try clear hb2); (try clear hk); (try clear hi)
     refine hK.out _ _ trivial (fun hHeld => ?_)
     clear hK K
     refine nm_ (some 10) ?_
     refine pu_ (i := 6) (N := some 11) HT_ (bl_ 8 127) ?_
     refine pu_ (i := 7) (N := some 2) HT_ (bl_ 8 255) ?_
     refine done_ (done_of HT_.out (by kernel_rfl)) ?_
     try go_wp2
     go_ret
     exact ⟨Qe, Qw HB.out⟩
    ·rw [if_neg c8] at H
     exact absurd H (by simp)
   ·rw [if_neg c4] at H
    exact absurd H (by simp)
  ·rw [if_neg c3] at H
   exact absurd H (by simp)
section
set_option linter.unusedVariables false
def r6_spoilt.f (k : Nat) (ak : ByteArray) (ag : List ByteArray) (al : ByteArray) (ah : ByteArray) (ac : List ByteArray) (ad : List (S47)) (ae : List ByteArray) (am : ByteArray) (a1 : Int) : Option (ByteArray × List ByteArray × ByteArray × ByteArray × List ByteArray × (List (S47)) × List ByteArray × ByteArray) :=
  if ac.length ≤ 1000 ∧ ad.length ≤ 1000 ∧ ae.length ≤ 1000 then
    if a1 = 1 then some (ak, ag, al, ah, ac ++ [⟨#[102, 111, 110, 105, 112, 97]⟩, ⟨#[102, 111, 110, 105, 112, 97]⟩], ad, ae, am)
    else if a1 = 2 then (r2_Title.f k ak).bind fun t => some (t, ag, al, ah, ac, ad, ae, am)
    else if a1 = 3 then some (ak, ag, al, ah, ac, ad ++ [⟨⟨#[98]⟩, []⟩], ae, am)
    else if a1 = 4 then some (ak, ag, ⟨#[108, 97, 116]⟩, ah, ac, ad, ae, am)
    else if a1 = 5 then some (ak, ag, al, ah, ac, ad, ae, ⟨#[105, 45, 97, 109, 105]⟩)
    else if a1 = 6 then some (ak, ag, al, ah, ac, ad, ae ++ [⟨#[97, 98, 99, 100, 101, 102, 103, 104, 105]⟩], am)
    else if a1 = 7 then some (ak, ag, al, ah, ac, ad ++ [⟨⟨#[99]⟩, [⟨#[97, 98]⟩]⟩, ⟨⟨#[99]⟩, [⟨#[99, 100]⟩]⟩], ae, am)
    else if a1 = 8 then some (⟨#[]⟩, ag, al, ah, ac, ad, ae, am)
    else some (ak, ag, al, ah, ac, ad, ae, am)
  else none
end
end Go.Proofs.YtejnfbfikadpdaaGreatDoor.P
