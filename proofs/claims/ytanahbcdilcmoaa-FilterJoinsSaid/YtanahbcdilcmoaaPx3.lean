-- Written for this claim by the session's own run of the print, functions proved by hand put in.
import Derived.Test.YtanahbcdilcmoaaPx0
import Derived.Test.YtanahbcdilcmoaaPx1
import Derived.Test.YtanahbcdilcmoaaPx2
namespace Go.Proofs.Ytanahbcdilcmoaa.P
open Go.RowKit Go.Proofs.YtanahbcdilcmoaaW.PrintWords Go.Proofs.YtanahbcdilcmoaaW.PrintLast Go.Proofs.YtanahbcdilcmoaaW.PrintMore
attribute [local go_sem] max2_int min2_int max_two min_two max_three min_three max_four min_four   -- for this text's walks alone
set_option linter.unusedVariables false
set_option linter.unusedSimpArgs false

/-! ### isoglosslaw20_awake: function 9 -/
def isoglosslaw20_awake.f (k : Nat)  : Option (Bool) := (filter_MatchesExtended.f k (⟨#[100, 101, 45, 42, 45, 68, 69]⟩ : ByteArray) (⟨#[100, 101, 45, 76, 97, 116, 110, 45, 68, 69]⟩ : ByteArray)).bind fun t145 => (if t145 = true then ((filter_MatchesExtended.f k (⟨#[100, 101, 45, 42, 45, 68, 69]⟩ : ByteArray) (⟨#[100, 101, 45, 68, 69, 45, 120, 45, 103, 111, 101, 116, 104, 101]⟩ : ByteArray)).bind fun t146 => (if t146 = true then ((filter_MatchesExtended.f k (⟨#[100, 101, 45, 42, 45, 68, 69]⟩ : ByteArray) (⟨#[100, 101]⟩ : ByteArray)).bind fun t147 => (if t147 = true then (some false) else ((filter_MatchesExtended.f k (⟨#[100, 101, 45, 42, 45, 68, 69]⟩ : ByteArray) (⟨#[100, 101, 45, 120, 45, 68, 69]⟩ : ByteArray)).bind fun t148 => (some (!t148))))) else (some false))) else (some false))
theorem isoglosslaw20_awake.mono : ∀ k, LeO (isoglosslaw20_awake.f k ) (isoglosslaw20_awake.f (k + 1) ) := by
 intro  k
 unfold isoglosslaw20_awake.f
 repeat' first
   | (with_reducible exact filter_MatchesExtended.mono _ _ _)
   | (with_reducible exact LeO.refl _)
   | (with_reducible exact LeO.none _)
   | (with_reducible refine LeO.ite ?_ ?_)
   | (with_reducible refine LeO.bind ?_ (fun _ => ?_))
   | exact filter_MatchesExtended.mono _ _ _
   | exact LeO.none _
   | refine LeO.ite ?_ ?_
   | refine LeO.bind ?_ (fun _ => ?_)
set_option maxHeartbeats 8000000 in
set_option maxRecDepth 100000 in
theorem isoglosslaw20_awake.calls (k : Nat)  (r : Bool) (w : World) (h : isoglosslaw20_awake.f k  = some r) :
  Calls Try.prog 9 #[] w fun e w' => e = .returned (.bool r) ∧ Below w.heap.size w w' := by
 have HB := Aside0.mk (Below.refl w.heap.size w)
 have H : ((filter_MatchesExtended.f k (⟨#[100, 101, 45, 42, 45, 68, 69]⟩ : ByteArray) (⟨#[100, 101, 45, 76, 97, 116, 110, 45, 68, 69]⟩ : ByteArray)).bind fun t145 => (if t145 = true then ((filter_MatchesExtended.f k (⟨#[100, 101, 45, 42, 45, 68, 69]⟩ : ByteArray) (⟨#[100, 101, 45, 68, 69, 45, 120, 45, 103, 111, 101, 116, 104, 101]⟩ : ByteArray)).bind fun t146 => (if t146 = true then ((filter_MatchesExtended.f k (⟨#[100, 101, 45, 42, 45, 68, 69]⟩ : ByteArray) (⟨#[100, 101]⟩ : ByteArray)).bind fun t147 => (if t147 = true then (some false) else ((filter_MatchesExtended.f k (⟨#[100, 101, 45, 42, 45, 68, 69]⟩ : ByteArray) (⟨#[100, 101, 45, 120, 45, 68, 69]⟩ : ByteArray)).bind fun t148 => (some (!t148))))) else (some false))) else (some false))) = some r := h
 clear h
 replace H := Option.bind_eq_some_iff.mp H
 obtain ⟨t145, A10, H⟩ := H
 replace H : (if t145 = true then ((filter_MatchesExtended.f k (⟨#[100, 101, 45, 42, 45, 68, 69]⟩ : ByteArray) (⟨#[100, 101, 45, 68, 69, 45, 120, 45, 103, 111, 101, 116, 104, 101]⟩ : ByteArray)).bind fun t146 => (if t146 = true then ((filter_MatchesExtended.f k (⟨#[100, 101, 45, 42, 45, 68, 69]⟩ : ByteArray) (⟨#[100, 101]⟩ : ByteArray)).bind fun t147 => (if t147 = true then (some false) else ((filter_MatchesExtended.f k (⟨#[100, 101, 45, 42, 45, 68, 69]⟩ : ByteArray) (⟨#[100, 101, 45, 120, 45, 68, 69]⟩ : ByteArray)).bind fun t148 => (some (!t148))))) else (some false))) else (some false)) = some r := H
 have A1 := Aside0.mk A10
 clear A10
 by_cases c2 : t145 = true
 ·subst c2
  have H1 : ((filter_MatchesExtended.f k (⟨#[100, 101, 45, 42, 45, 68, 69]⟩ : ByteArray) (⟨#[100, 101, 45, 68, 69, 45, 120, 45, 103, 111, 101, 116, 104, 101]⟩ : ByteArray)).bind fun t146 => (if t146 = true then ((filter_MatchesExtended.f k (⟨#[100, 101, 45, 42, 45, 68, 69]⟩ : ByteArray) (⟨#[100, 101]⟩ : ByteArray)).bind fun t147 => (if t147 = true then (some false) else ((filter_MatchesExtended.f k (⟨#[100, 101, 45, 42, 45, 68, 69]⟩ : ByteArray) (⟨#[100, 101, 45, 120, 45, 68, 69]⟩ : ByteArray)).bind fun t148 => (some (!t148))))) else (some false))) = some r := by rw [if_pos rfl] at H; exact H
  clear H
  have H := H1
  clear H1
  replace H := Option.bind_eq_some_iff.mp H
  obtain ⟨t146, A30, H⟩ := H
  replace H : (if t146 = true then ((filter_MatchesExtended.f k (⟨#[100, 101, 45, 42, 45, 68, 69]⟩ : ByteArray) (⟨#[100, 101]⟩ : ByteArray)).bind fun t147 => (if t147 = true then (some false) else ((filter_MatchesExtended.f k (⟨#[100, 101, 45, 42, 45, 68, 69]⟩ : ByteArray) (⟨#[100, 101, 45, 120, 45, 68, 69]⟩ : ByteArray)).bind fun t148 => (some (!t148))))) else (some false)) = some r := H
  have A3 := Aside0.mk A30
  clear A30
  by_cases c4 : t146 = true
  ·subst c4
   have H1 : ((filter_MatchesExtended.f k (⟨#[100, 101, 45, 42, 45, 68, 69]⟩ : ByteArray) (⟨#[100, 101]⟩ : ByteArray)).bind fun t147 => (if t147 = true then (some false) else ((filter_MatchesExtended.f k (⟨#[100, 101, 45, 42, 45, 68, 69]⟩ : ByteArray) (⟨#[100, 101, 45, 120, 45, 68, 69]⟩ : ByteArray)).bind fun t148 => (some (!t148))))) = some r := by rw [if_pos rfl] at H; exact H
   clear H
   have H := H1
   clear H1
   replace H := Option.bind_eq_some_iff.mp H
   obtain ⟨t147, A50, H⟩ := H
   replace H : (if t147 = true then (some false) else ((filter_MatchesExtended.f k (⟨#[100, 101, 45, 42, 45, 68, 69]⟩ : ByteArray) (⟨#[100, 101, 45, 120, 45, 68, 69]⟩ : ByteArray)).bind fun t148 => (some (!t148)))) = some r := H
   have A5 := Aside0.mk A50
   clear A50
   by_cases c6 : t147 = true
   ·subst c6
    have H1 : (some false) = some r := by rw [if_pos rfl] at H; exact H
    clear H
    have H := H1
    clear H1
    obtain rfl := Option.some.inj H
    go_enter Try.func9, Try.ntmps9
    go_wp2_with (first | ((with_reducible refine gate_callee (f := 13) rfl ?_); refine goesL_ (some 1) rfl rfl Try.func13 (by kernel_rfl) rfl #[.string (⟨#[100, 101, 45, 42, 45, 68, 69]⟩ : ByteArray), .string (⟨#[100, 101, 45, 76, 97, 116, 110, 45, 68, 69]⟩ : ByteArray)] rfl (by (try simp only [List.map_toArray, List.map_cons, List.map_nil]); first | done | rfl | (simp only [List.length_drop, List.length_take]; rfl)) ?_; (with_reducible refine (filter_MatchesExtended.calls k (⟨#[100, 101, 45, 42, 45, 68, 69]⟩ : ByteArray) (⟨#[100, 101, 45, 76, 97, 116, 110, 45, 68, 69]⟩ : ByteArray) true _ A1.out).mono ?_); rintro e w7 ⟨rfl, hb⟩; refine ⟨_, rfl, ?_⟩; have n0_ := Aside0.mk (below_step (by repeat (first | (with_reducible first | exact HB.out | apply below_alloc | apply pw_below_drewN | apply below_drew1) | exact HB.out)) hb); clear HB; have HB := n0_; clear n0_; (try clear hb); (try clear hb2); (try clear hk); (try clear hi)) | (go_at_call 13; (with_reducible refine (filter_MatchesExtended.calls k (⟨#[100, 101, 45, 42, 45, 68, 69]⟩ : ByteArray) (⟨#[100, 101, 45, 68, 69, 45, 120, 45, 103, 111, 101, 116, 104, 101]⟩ : ByteArray) true _ A3.out).mono ?_); rintro e w8 ⟨rfl, hb⟩; have n0_ := Aside0.mk (below_step (by repeat (first | (with_reducible first | exact HB.out | apply below_alloc | apply pw_below_drewN | apply below_drew1) | exact HB.out)) hb); clear HB; have HB := n0_; clear n0_; (try clear hb); (try clear hb2); (try clear hk); (try clear hi)) | (go_at_call 13; (with_reducible refine (filter_MatchesExtended.calls k (⟨#[100, 101, 45, 42, 45, 68, 69]⟩ : ByteArray) (⟨#[100, 101]⟩ : ByteArray) true _ A5.out).mono ?_); rintro e w9 ⟨rfl, hb⟩; have n0_ := Aside0.mk (below_step (by repeat (first | (with_reducible first | exact HB.out | apply below_alloc | apply pw_below_drewN | apply below_drew1) | exact HB.out)) hb); clear HB; have HB := n0_; clear n0_; (try clear hb); (try clear hb2); (try clear hk); (try clear hi)))
    go_ret
    exact ⟨by first | rfl | (simp [errW_none, errW_some] <;> rfl) | (simp [*, errW_none, errW_some] <;> rfl), by repeat (first | (with_reducible first | exact HB.out | apply below_alloc | apply pw_below_drewN | apply below_drew1) | exact HB.out)⟩
   ·replace c6 := Bool.eq_false_iff.mpr c6
    subst c6
    have H1 : ((filter_MatchesExtended.f k (⟨#[100, 101, 45, 42, 45, 68, 69]⟩ : ByteArray) (⟨#[100, 101, 45, 120, 45, 68, 69]⟩ : ByteArray)).bind fun t148 => (some (!t148))) = some r := by rw [if_neg (show ¬ (false = true) by decide)] at H; exact H
    clear H
    have H := H1
    clear H1
    replace H := Option.bind_eq_some_iff.mp H
    obtain ⟨t148, A100, H⟩ := H
    replace H : (some (!t148)) = some r := H
    have A10 := Aside0.mk A100
    clear A100
    obtain rfl := Option.some.inj H
    go_enter Try.func9, Try.ntmps9
    go_wp2_with (first | ((with_reducible refine gate_callee (f := 13) rfl ?_); refine goesL_ (some 1) rfl rfl Try.func13 (by kernel_rfl) rfl #[.string (⟨#[100, 101, 45, 42, 45, 68, 69]⟩ : ByteArray), .string (⟨#[100, 101, 45, 76, 97, 116, 110, 45, 68, 69]⟩ : ByteArray)] rfl (by (try simp only [List.map_toArray, List.map_cons, List.map_nil]); first | done | rfl | (simp only [List.length_drop, List.length_take]; rfl)) ?_; (with_reducible refine (filter_MatchesExtended.calls k (⟨#[100, 101, 45, 42, 45, 68, 69]⟩ : ByteArray) (⟨#[100, 101, 45, 76, 97, 116, 110, 45, 68, 69]⟩ : ByteArray) true _ A1.out).mono ?_); rintro e w11 ⟨rfl, hb⟩; refine ⟨_, rfl, ?_⟩; have n0_ := Aside0.mk (below_step (by repeat (first | (with_reducible first | exact HB.out | apply below_alloc | apply pw_below_drewN | apply below_drew1) | exact HB.out)) hb); clear HB; have HB := n0_; clear n0_; (try clear hb); (try clear hb2); (try clear hk); (try clear hi)) | (go_at_call 13; (with_reducible refine (filter_MatchesExtended.calls k (⟨#[100, 101, 45, 42, 45, 68, 69]⟩ : ByteArray) (⟨#[100, 101, 45, 68, 69, 45, 120, 45, 103, 111, 101, 116, 104, 101]⟩ : ByteArray) true _ A3.out).mono ?_); rintro e w12 ⟨rfl, hb⟩; have n0_ := Aside0.mk (below_step (by repeat (first | (with_reducible first | exact HB.out | apply below_alloc | apply pw_below_drewN | apply below_drew1) | exact HB.out)) hb); clear HB; have HB := n0_; clear n0_; (try clear hb); (try clear hb2); (try clear hk); (try clear hi)) | (go_at_call 13; (with_reducible refine (filter_MatchesExtended.calls k (⟨#[100, 101, 45, 42, 45, 68, 69]⟩ : ByteArray) (⟨#[100, 101]⟩ : ByteArray) false _ A5.out).mono ?_); rintro e w13 ⟨rfl, hb⟩; have n0_ := Aside0.mk (below_step (by repeat (first | (with_reducible first | exact HB.out | apply below_alloc | apply pw_below_drewN | apply below_drew1) | exact HB.out)) hb); clear HB; have HB := n0_; clear n0_; (try clear hb); (try clear hb2); (try clear hk); (try clear hi)) | (go_at_call 13; (with_reducible refine (filter_MatchesExtended.calls k (⟨#[100, 101, 45, 42, 45, 68, 69]⟩ : ByteArray) (⟨#[100, 101, 45, 120, 45, 68, 69]⟩ : ByteArray) t148 _ A10.out).mono ?_); rintro e w14 ⟨rfl, hb⟩; have n0_ := Aside0.mk (below_step (by repeat (first | (with_reducible first | exact HB.out | apply below_alloc | apply pw_below_drewN | apply below_drew1) | exact HB.out)) hb); clear HB; have HB := n0_; clear n0_; (try clear hb); (try clear hb2); (try clear hk); (try clear hi)))
    go_ret
    exact ⟨by first | rfl | (simp [errW_none, errW_some] <;> rfl) | (simp [*, errW_none, errW_some] <;> rfl), by repeat (first | (with_reducible first | exact HB.out | apply below_alloc | apply pw_below_drewN | apply below_drew1) | exact HB.out)⟩
  ·replace c4 := Bool.eq_false_iff.mpr c4
   subst c4
   have H1 : (some false) = some r := by rw [if_neg (show ¬ (false = true) by decide)] at H; exact H
   clear H
   have H := H1
   clear H1
   obtain rfl := Option.some.inj H
   go_enter Try.func9, Try.ntmps9
   go_wp2_with (first | ((with_reducible refine gate_callee (f := 13) rfl ?_); refine goesL_ (some 1) rfl rfl Try.func13 (by kernel_rfl) rfl #[.string (⟨#[100, 101, 45, 42, 45, 68, 69]⟩ : ByteArray), .string (⟨#[100, 101, 45, 76, 97, 116, 110, 45, 68, 69]⟩ : ByteArray)] rfl (by (try simp only [List.map_toArray, List.map_cons, List.map_nil]); first | done | rfl | (simp only [List.length_drop, List.length_take]; rfl)) ?_; (with_reducible refine (filter_MatchesExtended.calls k (⟨#[100, 101, 45, 42, 45, 68, 69]⟩ : ByteArray) (⟨#[100, 101, 45, 76, 97, 116, 110, 45, 68, 69]⟩ : ByteArray) true _ A1.out).mono ?_); rintro e w15 ⟨rfl, hb⟩; refine ⟨_, rfl, ?_⟩; have n0_ := Aside0.mk (below_step (by repeat (first | (with_reducible first | exact HB.out | apply below_alloc | apply pw_below_drewN | apply below_drew1) | exact HB.out)) hb); clear HB; have HB := n0_; clear n0_; (try clear hb); (try clear hb2); (try clear hk); (try clear hi)) | (go_at_call 13; (with_reducible refine (filter_MatchesExtended.calls k (⟨#[100, 101, 45, 42, 45, 68, 69]⟩ : ByteArray) (⟨#[100, 101, 45, 68, 69, 45, 120, 45, 103, 111, 101, 116, 104, 101]⟩ : ByteArray) false _ A3.out).mono ?_); rintro e w16 ⟨rfl, hb⟩; have n0_ := Aside0.mk (below_step (by repeat (first | (with_reducible first | exact HB.out | apply below_alloc | apply pw_below_drewN | apply below_drew1) | exact HB.out)) hb); clear HB; have HB := n0_; clear n0_; (try clear hb); (try clear hb2); (try clear hk); (try clear hi)))
   go_ret
   exact ⟨by first | rfl | (simp [errW_none, errW_some] <;> rfl) | (simp [*, errW_none, errW_some] <;> rfl), by repeat (first | (with_reducible first | exact HB.out | apply below_alloc | apply pw_below_drewN | apply below_drew1) | exact HB.out)⟩
 ·replace c2 := Bool.eq_false_iff.mpr c2
  subst c2
  have H1 : (some false) = some r := by rw [if_neg (show ¬ (false = true) by decide)] at H; exact H
  clear H
  have H := H1
  clear H1
  obtain rfl := Option.some.inj H
  go_enter Try.func9, Try.ntmps9
  go_wp2_with (first | ((with_reducible refine gate_callee (f := 13) rfl ?_); refine goesL_ (some 1) rfl rfl Try.func13 (by kernel_rfl) rfl #[.string (⟨#[100, 101, 45, 42, 45, 68, 69]⟩ : ByteArray), .string (⟨#[100, 101, 45, 76, 97, 116, 110, 45, 68, 69]⟩ : ByteArray)] rfl (by (try simp only [List.map_toArray, List.map_cons, List.map_nil]); first | done | rfl | (simp only [List.length_drop, List.length_take]; rfl)) ?_; (with_reducible refine (filter_MatchesExtended.calls k (⟨#[100, 101, 45, 42, 45, 68, 69]⟩ : ByteArray) (⟨#[100, 101, 45, 76, 97, 116, 110, 45, 68, 69]⟩ : ByteArray) false _ A1.out).mono ?_); rintro e w17 ⟨rfl, hb⟩; refine ⟨_, rfl, ?_⟩; have n0_ := Aside0.mk (below_step (by repeat (first | (with_reducible first | exact HB.out | apply below_alloc | apply pw_below_drewN | apply below_drew1) | exact HB.out)) hb); clear HB; have HB := n0_; clear n0_; (try clear hb); (try clear hb2); (try clear hk); (try clear hi)))
  go_ret
  exact ⟨by first | rfl | (simp [errW_none, errW_some] <;> rfl) | (simp [*, errW_none, errW_some] <;> rfl), by repeat (first | (with_reducible first | exact HB.out | apply below_alloc | apply pw_below_drewN | apply below_drew1) | exact HB.out)⟩

/-! ### isoglosslaw20_short: function 10 -/
def isoglosslaw20_short.f (a0 : ByteArray) : Option (ByteArray) := if (a0.size : Int) > 40 then (if 0 ≤ 40 then (if 40 ≤ (a0.size : Int) then (some (a0.extract 0 40)) else (none)) else (none)) else (some a0)
set_option maxHeartbeats 8000000 in
set_option maxRecDepth 100000 in
theorem isoglosslaw20_short.calls (a0 : ByteArray) (r : ByteArray) (w : World) (h : isoglosslaw20_short.f a0 = some r) :
  Calls Try.prog 10 #[.string a0] w fun e w' => e = .returned (.string r) ∧ Drawn0 w w' := by
 have H : (if (a0.size : Int) > 40 then (if 0 ≤ 40 then (if 40 ≤ (a0.size : Int) then (some (a0.extract 0 40)) else (none)) else (none)) else (some a0)) = some r := h
 clear h
 by_cases c2 : (a0.size : Int) > 40
 ·rw [if_pos c2] at H
  have c2b0 : decide (40 < (a0.size : Int)) = true := decide_eq_true c2
  have c2b1 : decide (40 < a0.size) = true := decide_eq_true (by omega)
  clear c2
  by_cases c3 : 0 ≤ 40
  ·rw [if_pos c3] at H
   have c3b0 := eq_true c3
   have c3b1 : decide (0 ≤ 40) = true := decide_eq_true c3
   clear c3
   by_cases c4 : 40 ≤ (a0.size : Int)
   ·rw [if_pos c4] at H
    have c4b0 := eq_true c4
    have c4b1 : decide (40 ≤ (a0.size : Int)) = true := decide_eq_true c4
    clear c4
    obtain rfl := Option.some.inj H
    go_enter Try.func10, Try.ntmps10
    go_wp2
    go_ret
    exact ⟨by first | rfl | (simp; done) | (simp [*]; done), by repeat (first | exact Drawn0.refl _ | apply Drawn0.step)⟩
   ·rw [if_neg c4] at H
    exact absurd H (by simp)
  ·rw [if_neg c3] at H
   exact absurd H (by simp)
 ·rw [if_neg c2] at H
  have c2b0 : decide (40 < (a0.size : Int)) = false := decide_eq_false c2
  have c2b1 : decide (40 < a0.size) = false := decide_eq_false (by omega)
  clear c2
  obtain rfl := Option.some.inj H
  go_enter Try.func10, Try.ntmps10
  go_wp2
  go_ret
  exact ⟨by first | rfl | (simp; done) | (simp [*]; done), by repeat (first | exact Drawn0.refl _ | apply Drawn0.step)⟩

/-! ### filter_Basic: function 18 (by hand) -/
def filter_Basic.f (k : Nat) (a0 : ByteArray) : Option (Bool) := if a0.toList = ([42] : List UInt8) then some true else if a0.size < 140737488355329 then allP (fun at_ p => filter_word.f k at_ p) (eachB a0) else none
theorem filter_Basic.mono : ∀ a0 k, LeO (filter_Basic.f k a0) (filter_Basic.f (k + 1) a0) := by
  intro a0 k
  unfold filter_Basic.f
  exact LeO.ite (LeO.refl _) (LeO.ite (allP_mono (fun a s => filter_word.mono a s k) _) (LeO.none _))
set_option maxHeartbeats 8000000 in
set_option maxRecDepth 100000 in
theorem filter_Basic.calls (k : Nat) (a0 : ByteArray) (r : Bool) (w : World) (h : filter_Basic.f k a0 = some r) :
    Calls Try.prog 18 #[.string a0] w fun e w' => e = .returned (.bool r) ∧ Below w.heap.size w w' := by
  unfold filter_Basic.f at h
  by_cases c : a0.toList = ([42] : List UInt8)
  · rw [if_pos c] at h
    obtain rfl := Option.some.inj h
    have cb : (a0.toList == ([42] : List UInt8)) = true := beq_iff_eq.mpr c
    clear h c
    go_enter Try.func18, Try.ntmps18
    go_wp2
    go_ret
    exact ⟨rfl, Below.refl _ _⟩
  · rw [if_neg c] at h
    have cb : (a0.toList == ([42] : List UInt8)) = false := beq_eq_false_iff_ne.mpr c
    have hs : a0.size < 140737488355329 := by
      by_cases c2 : a0.size < 140737488355329
      · exact c2
      · rw [if_neg c2] at h; cases h
    rw [if_pos hs] at h
    have C := fun W => pieces_calls 35 (fun at_ p => filter_word.f k at_ p) (fun at_ p r W hq => (filter_word.calls k at_ p r W hq).mono fun e w' ⟨he, hd⟩ => ⟨he, hd.below⟩) (enters_of Try.func35 (by kernel_rfl) rfl) a0 (by omega) r h W
    have HC := Lib.hid C
    clear C h c
    go_enter Try.func18, Try.ntmps18
    go_wp2_with (go_at_call 34; refine (HC.out _).mono ?_; rintro e w' ⟨rfl, hb⟩)
    go_ret
    exact ⟨rfl, hb⟩

/-! ### filter_Matches: function 12 -/
def filter_Matches.j0 : Nat → ByteArray → ByteArray → Bool → Option (Bool)
 | 0, _, _, _ => none
 | k + 1, x0, x1, x12 => if x12 = true then (some (x0.toList == ([42] : List UInt8))) else ((ascii_Same.f k x0 x1).bind fun t150 => (if t150 = true then (some true) else (if (x1.size : Int) > (x0.size : Int) then (if 0 ≤ (x0.size : Int) then (if (x0.size : Int) ≤ (x1.size : Int) then ((ascii_Same.f k x0 (x1.extract 0 x0.size)).bind fun t151 => (if t151 = true then (if (x0.size : Int) < (x1.size : Int) then (some ((bt x1 (x0.size : Int)) == 45)) else (none)) else (some false))) else (none)) else (none)) else (some false))))
def filter_Matches.f (k : Nat) (a0 : ByteArray) (a1 : ByteArray) : Option (Bool) := (filter_Basic.f k a0).bind fun t149 => (if t149 = true then (filter_Matches.j0 k a0 a1 (a0.toList == ([42] : List UInt8))) else (filter_Matches.j0 k a0 a1 true))
theorem filter_Matches.mono_l : ∀ k, (∀ y0 y1 y2, LeO (filter_Matches.j0 k y0 y1 y2) (filter_Matches.j0 (k + 1) y0 y1 y2))
 | 0 => fun _ _ _ r h => by simp [filter_Matches.j0] at h
 | k + 1 => by
  have ih0 := filter_Matches.mono_l k
  ·intro y0 y1 y2
   unfold filter_Matches.j0
   repeat' first
   | (with_reducible exact ih0 _ _ _)
   | (with_reducible exact ascii_Same.mono _ _ _)
   | (with_reducible exact filter_Basic.mono _ _)
   | (with_reducible exact LeO.refl _)
   | (with_reducible exact LeO.none _)
   | (with_reducible refine LeO.ite ?_ ?_)
   | (with_reducible refine LeO.bind ?_ (fun _ => ?_))
   | exact ih0 _ _ _
   | exact ascii_Same.mono _ _ _
   | exact filter_Basic.mono _ _
   | exact LeO.none _
   | refine LeO.ite ?_ ?_
   | refine LeO.bind ?_ (fun _ => ?_)
theorem filter_Matches.mono : ∀ a0 a1 k, LeO (filter_Matches.f k a0 a1) (filter_Matches.f (k + 1) a0 a1) := by
 intro a0 a1 k
 have ih0 := filter_Matches.mono_l k
 unfold filter_Matches.f
 repeat' first
   | (with_reducible exact ih0 _ _ _)
   | (with_reducible exact ascii_Same.mono _ _ _)
   | (with_reducible exact filter_Basic.mono _ _)
   | (with_reducible exact LeO.refl _)
   | (with_reducible exact LeO.none _)
   | (with_reducible refine LeO.ite ?_ ?_)
   | (with_reducible refine LeO.bind ?_ (fun _ => ?_))
   | exact ih0 _ _ _
   | exact ascii_Same.mono _ _ _
   | exact filter_Basic.mono _ _
   | exact LeO.none _
   | refine LeO.ite ?_ ?_
   | refine LeO.bind ?_ (fun _ => ?_)
set_option maxHeartbeats 8000000 in
set_option maxRecDepth 100000 in
theorem filter_Matches.calls (k : Nat) (a0 : ByteArray) (a1 : ByteArray) (r : Bool) (w : World) (h : filter_Matches.f k a0 a1 = some r) :
  Calls Try.prog 12 #[.string a0, .string a1] w fun e w' => e = .returned (.bool r) ∧ Below w.heap.size w w' := by
 have HB := Aside0.mk (Below.refl w.heap.size w)
 have H : ((filter_Basic.f k a0).bind fun t149 => (if t149 = true then (filter_Matches.j0 k a0 a1 (a0.toList == ([42] : List UInt8))) else (filter_Matches.j0 k a0 a1 true))) = some r := h
 clear h
 have HC3 := Aside0.mk H
 clear H
 go_enter Try.func12, Try.ntmps12
 go_upto_region 1 with (fail)
 go_cut [12] (fun v12 wc => ∃ (kq : Nat) (x12_2 : Bool), v12 = .bool x12_2 ∧ Aside0 (filter_Matches.j0 kq a0 a1 x12_2 = some r) ∧ Aside0 (kq ≤ k) ∧ Aside0 (Below w.heap.size w wc))
 case first =>
  have H := HC3.out
  clear HC3
  replace H := Option.bind_eq_some_iff.mp H
  obtain ⟨t149, A40, H⟩ := H
  replace H : (if t149 = true then (filter_Matches.j0 k a0 a1 (a0.toList == ([42] : List UInt8))) else (filter_Matches.j0 k a0 a1 true)) = some r := H
  have A4 := Aside0.mk A40
  clear A40
  by_cases c5 : t149 = true
  ·subst c5
   have H1 : (filter_Matches.j0 k a0 a1 (a0.toList == ([42] : List UInt8))) = some r := by rw [if_pos rfl] at H; exact H
   clear H
   have H := H1
   clear H1
   have H' := Aside0.mk H
   clear H
   go_wp2_with (first | ((with_reducible refine gate_callee (f := 18) rfl ?_); refine goesL_ (some 7) rfl rfl Try.func18 (by kernel_rfl) rfl #[.string a0] rfl (by (try simp only [List.map_toArray, List.map_cons, List.map_nil]); first | done | rfl | (simp only [List.length_drop, List.length_take]; rfl)) ?_; (with_reducible refine (filter_Basic.calls k a0 true _ A4.out).mono ?_); rintro e w6 ⟨rfl, hb⟩; refine ⟨_, rfl, ?_⟩; have n0_ := Aside0.mk (below_step (by repeat (first | (with_reducible first | exact HB.out | apply below_alloc | apply pw_below_drewN | apply below_drew1) | exact HB.out)) hb); clear HB; have HB := n0_; clear n0_; (try clear hb); (try clear hb2); (try clear hk); (try clear hi)))
   go_meet
   case rel => exact ⟨_, ((a0.toList == ([42] : List UInt8))), (by first | rfl | (simp; done) | (simp [*]; done)), H', ⟨by first | omega | exact Nat.le_refl _⟩, ⟨by repeat (first | (with_reducible first | exact HB.out | apply below_alloc | apply pw_below_drewN | apply below_drew1) | exact HB.out)⟩⟩
  ·replace c5 := Bool.eq_false_iff.mpr c5
   subst c5
   have H1 : (filter_Matches.j0 k a0 a1 true) = some r := by rw [if_neg (show ¬ (false = true) by decide)] at H; exact H
   clear H
   have H := H1
   clear H1
   have H' := Aside0.mk H
   clear H
   go_wp2_with (first | ((with_reducible refine gate_callee (f := 18) rfl ?_); refine goesL_ (some 7) rfl rfl Try.func18 (by kernel_rfl) rfl #[.string a0] rfl (by (try simp only [List.map_toArray, List.map_cons, List.map_nil]); first | done | rfl | (simp only [List.length_drop, List.length_take]; rfl)) ?_; (with_reducible refine (filter_Basic.calls k a0 false _ A4.out).mono ?_); rintro e w7 ⟨rfl, hb⟩; refine ⟨_, rfl, ?_⟩; have n0_ := Aside0.mk (below_step (by repeat (first | (with_reducible first | exact HB.out | apply below_alloc | apply pw_below_drewN | apply below_drew1) | exact HB.out)) hb); clear HB; have HB := n0_; clear n0_; (try clear hb); (try clear hb2); (try clear hk); (try clear hi)))
   go_meet
   case rel => exact ⟨_, (true), (by first | rfl | (simp; done) | (simp [*]; done)), H', ⟨by first | omega | exact Nat.le_refl _⟩, ⟨by repeat (first | (with_reducible first | exact HB.out | apply below_alloc | apply pw_below_drewN | apply below_drew1) | exact HB.out)⟩⟩
 case rest =>
  clear HC3
  try clear c1
  try clear p2
  try clear c5
  obtain ⟨kq, x12_2, rfl, HA, HJ2, HB⟩ := hcut
  cases kq with
  | zero => exact absurd HA.out (by simp [filter_Matches.j0])
  | succ kj2 =>
   have H := HA.out
   clear HA
   simp only [filter_Matches.j0] at H
   by_cases c8 : x12_2 = true
   ·subst c8
    have H1 : (some (a0.toList == ([42] : List UInt8))) = some r := by rw [if_pos rfl] at H; exact H
    clear H
    have H := H1
    clear H1
    obtain rfl := Option.some.inj H
    go_wp2
    go_ret
    exact ⟨by first | rfl | (simp [errW_none, errW_some] <;> rfl) | (simp [*, errW_none, errW_some] <;> rfl), by repeat (first | (with_reducible first | exact HB.out | apply below_alloc | apply pw_below_drewN | apply below_drew1) | exact HB.out)⟩
   ·replace c8 := Bool.eq_false_iff.mpr c8
    subst c8
    have H1 : ((ascii_Same.f kj2 a0 a1).bind fun t150 => (if t150 = true then (some true) else (if (a1.size : Int) > (a0.size : Int) then (if 0 ≤ (a0.size : Int) then (if (a0.size : Int) ≤ (a1.size : Int) then ((ascii_Same.f kj2 a0 (a1.extract 0 a0.size)).bind fun t151 => (if t151 = true then (if (a0.size : Int) < (a1.size : Int) then (some ((bt a1 (a0.size : Int)) == 45)) else (none)) else (some false))) else (none)) else (none)) else (some false)))) = some r := by rw [if_neg (show ¬ (false = true) by decide)] at H; exact H
    clear H
    have H := H1
    clear H1
    replace H := Option.bind_eq_some_iff.mp H
    obtain ⟨t150, A90, H⟩ := H
    replace H : (if t150 = true then (some true) else (if (a1.size : Int) > (a0.size : Int) then (if 0 ≤ (a0.size : Int) then (if (a0.size : Int) ≤ (a1.size : Int) then ((ascii_Same.f kj2 a0 (a1.extract 0 a0.size)).bind fun t151 => (if t151 = true then (if (a0.size : Int) < (a1.size : Int) then (some ((bt a1 (a0.size : Int)) == 45)) else (none)) else (some false))) else (none)) else (none)) else (some false))) = some r := H
    have A9 := Aside0.mk A90
    clear A90
    by_cases c10 : t150 = true
    ·subst c10
     have H1 : (some true) = some r := by rw [if_pos rfl] at H; exact H
     clear H
     have H := H1
     clear H1
     obtain rfl := Option.some.inj H
     go_wp2_with (first | ((with_reducible refine gate_callee (f := 29) rfl ?_); refine goesL_ (some 19) rfl rfl Try.func29 (by kernel_rfl) rfl #[.string a0, .string a1] rfl (by (try simp only [List.map_toArray, List.map_cons, List.map_nil]); first | done | rfl | (simp only [List.length_drop, List.length_take]; rfl)) ?_; (with_reducible refine (ascii_Same.calls kj2 a0 a1 true _ A9.out).mono ?_); rintro e w11 ⟨rfl, hb⟩; refine ⟨_, rfl, ?_⟩; have n0_ := Aside0.mk (below_step (by repeat (first | (with_reducible first | exact HB.out | apply below_alloc | apply pw_below_drewN | apply below_drew1) | exact HB.out)) hb); clear HB; have HB := n0_; clear n0_; (try clear hb); (try clear hb2); (try clear hk); (try clear hi)))
     go_ret
     exact ⟨by first | rfl | (simp [errW_none, errW_some] <;> rfl) | (simp [*, errW_none, errW_some] <;> rfl), by repeat (first | (with_reducible first | exact HB.out | apply below_alloc | apply pw_below_drewN | apply below_drew1) | exact HB.out)⟩
    ·replace c10 := Bool.eq_false_iff.mpr c10
     subst c10
     have H1 : (if (a1.size : Int) > (a0.size : Int) then (if 0 ≤ (a0.size : Int) then (if (a0.size : Int) ≤ (a1.size : Int) then ((ascii_Same.f kj2 a0 (a1.extract 0 a0.size)).bind fun t151 => (if t151 = true then (if (a0.size : Int) < (a1.size : Int) then (some ((bt a1 (a0.size : Int)) == 45)) else (none)) else (some false))) else (none)) else (none)) else (some false)) = some r := by rw [if_neg (show ¬ (false = true) by decide)] at H; exact H
     clear H
     have H := H1
     clear H1
     by_cases c12 : (a1.size : Int) > (a0.size : Int)
     ·rw [if_pos c12] at H
      have c12b0 : decide ((a0.size : Int) < (a1.size : Int)) = true := decide_eq_true c12
      have c12b1 : decide (a0.size < a1.size) = true := decide_eq_true (Int.ofNat_lt.mp c12)
      clear c12
      by_cases c13 : 0 ≤ (a0.size : Int)
      ·rw [if_pos c13] at H
       have c13b0 := eq_true c13
       have c13b1 : decide (0 ≤ (a0.size : Int)) = true := decide_eq_true c13
       clear c13
       by_cases c14 : (a0.size : Int) ≤ (a1.size : Int)
       ·rw [if_pos c14] at H
        have c14b0 := eq_true c14
        have c14b1 : decide ((a0.size : Int) ≤ (a1.size : Int)) = true := decide_eq_true c14
        clear c14
        replace H := Option.bind_eq_some_iff.mp H
        obtain ⟨t151, A150, H⟩ := H
        replace H : (if t151 = true then (if (a0.size : Int) < (a1.size : Int) then (some ((bt a1 (a0.size : Int)) == 45)) else (none)) else (some false)) = some r := H
        have A15 := Aside0.mk A150
        clear A150
        by_cases c16 : t151 = true
        ·subst c16
         have H1 : (if (a0.size : Int) < (a1.size : Int) then (some ((bt a1 (a0.size : Int)) == 45)) else (none)) = some r := by rw [if_pos rfl] at H; exact H
         clear H
         have H := H1
         clear H1
         by_cases c17 : (a0.size : Int) < (a1.size : Int)
         ·rw [if_pos c17] at H
          have c17b0 : decide ((a0.size : Int) < (a1.size : Int)) = true := decide_eq_true c17
          have c17b1 : decide (a0.size < a1.size) = true := decide_eq_true (Int.ofNat_lt.mp c17)
          clear c17
          obtain rfl := Option.some.inj H
          go_wp2_with (first | ((with_reducible refine gate_callee (f := 29) rfl ?_); refine goesL_ (some 19) rfl rfl Try.func29 (by kernel_rfl) rfl #[.string a0, .string a1] rfl (by (try simp only [List.map_toArray, List.map_cons, List.map_nil]); first | done | rfl | (simp only [List.length_drop, List.length_take]; rfl)) ?_; (with_reducible refine (ascii_Same.calls kj2 a0 a1 false _ A9.out).mono ?_); rintro e w19 ⟨rfl, hb⟩; refine ⟨_, rfl, ?_⟩; have n0_ := Aside0.mk (below_step (by repeat (first | (with_reducible first | exact HB.out | apply below_alloc | apply pw_below_drewN | apply below_drew1) | exact HB.out)) hb); clear HB; have HB := n0_; clear n0_; (try clear hb); (try clear hb2); (try clear hk); (try clear hi)) | (go_at_call 29; (with_reducible refine (ascii_Same.calls kj2 a0 (a1.extract 0 a0.size) true _ A15.out).mono ?_); rintro e w20 ⟨rfl, hb⟩; have n0_ := Aside0.mk (below_step (by repeat (first | (with_reducible first | exact HB.out | apply below_alloc | apply pw_below_drewN | apply below_drew1) | exact HB.out)) hb); clear HB; have HB := n0_; clear n0_; (try clear hb); (try clear hb2); (try clear hk); (try clear hi); have p18 : 0 ≤ ((a0.size : Int) : Int) := of_decide_eq_true (by first | (with_reducible assumption) | assumption); have q18 : (a0.size : Int) < (a1.size : Int) := of_decide_eq_true (by first | (with_reducible assumption) | assumption); have hx18 := bt_at a1 (a0.size : Int); (try simp only [Int.toNat_natCast] at hx18); (try replace hx18 := hx18 (Int.ofNat_lt.mp q18)); replace p18 := eq_true p18; replace q18 := eq_true q18))
          go_ret
          exact ⟨by first | rfl | (simp [errW_none, errW_some] <;> rfl) | (simp [*, errW_none, errW_some] <;> rfl), by repeat (first | (with_reducible first | exact HB.out | apply below_alloc | apply pw_below_drewN | apply below_drew1) | exact HB.out)⟩
         ·rw [if_neg c17] at H
          exact absurd H (by simp)
        ·replace c16 := Bool.eq_false_iff.mpr c16
         subst c16
         have H1 : (some false) = some r := by rw [if_neg (show ¬ (false = true) by decide)] at H; exact H
         clear H
         have H := H1
         clear H1
         obtain rfl := Option.some.inj H
         go_wp2_with (first | ((with_reducible refine gate_callee (f := 29) rfl ?_); refine goesL_ (some 19) rfl rfl Try.func29 (by kernel_rfl) rfl #[.string a0, .string a1] rfl (by (try simp only [List.map_toArray, List.map_cons, List.map_nil]); first | done | rfl | (simp only [List.length_drop, List.length_take]; rfl)) ?_; (with_reducible refine (ascii_Same.calls kj2 a0 a1 false _ A9.out).mono ?_); rintro e w21 ⟨rfl, hb⟩; refine ⟨_, rfl, ?_⟩; have n0_ := Aside0.mk (below_step (by repeat (first | (with_reducible first | exact HB.out | apply below_alloc | apply pw_below_drewN | apply below_drew1) | exact HB.out)) hb); clear HB; have HB := n0_; clear n0_; (try clear hb); (try clear hb2); (try clear hk); (try clear hi)) | (go_at_call 29; (with_reducible refine (ascii_Same.calls kj2 a0 (a1.extract 0 a0.size) false _ A15.out).mono ?_); rintro e w22 ⟨rfl, hb⟩; have n0_ := Aside0.mk (below_step (by repeat (first | (with_reducible first | exact HB.out | apply below_alloc | apply pw_below_drewN | apply below_drew1) | exact HB.out)) hb); clear HB; have HB := n0_; clear n0_; (try clear hb); (try clear hb2); (try clear hk); (try clear hi)))
         go_ret
         exact ⟨by first | rfl | (simp [errW_none, errW_some] <;> rfl) | (simp [*, errW_none, errW_some] <;> rfl), by repeat (first | (with_reducible first | exact HB.out | apply below_alloc | apply pw_below_drewN | apply below_drew1) | exact HB.out)⟩
       ·rw [if_neg c14] at H
        exact absurd H (by simp)
      ·rw [if_neg c13] at H
       exact absurd H (by simp)
     ·rw [if_neg c12] at H
      have c12b0 : decide ((a0.size : Int) < (a1.size : Int)) = false := decide_eq_false c12
      have c12b1 : decide (a0.size < a1.size) = false := decide_eq_false (fun h => c12 (Int.ofNat_lt.mpr h))
      clear c12
      obtain rfl := Option.some.inj H
      go_wp2_with (first | ((with_reducible refine gate_callee (f := 29) rfl ?_); refine goesL_ (some 19) rfl rfl Try.func29 (by kernel_rfl) rfl #[.string a0, .string a1] rfl (by (try simp only [List.map_toArray, List.map_cons, List.map_nil]); first | done | rfl | (simp only [List.length_drop, List.length_take]; rfl)) ?_; (with_reducible refine (ascii_Same.calls kj2 a0 a1 false _ A9.out).mono ?_); rintro e w23 ⟨rfl, hb⟩; refine ⟨_, rfl, ?_⟩; have n0_ := Aside0.mk (below_step (by repeat (first | (with_reducible first | exact HB.out | apply below_alloc | apply pw_below_drewN | apply below_drew1) | exact HB.out)) hb); clear HB; have HB := n0_; clear n0_; (try clear hb); (try clear hb2); (try clear hk); (try clear hi)))
      go_ret
      exact ⟨by first | rfl | (simp [errW_none, errW_some] <;> rfl) | (simp [*, errW_none, errW_some] <;> rfl), by repeat (first | (with_reducible first | exact HB.out | apply below_alloc | apply pw_below_drewN | apply below_drew1) | exact HB.out)⟩

/-! ### isoglossref04_Each: function 33 -/
def isoglossref04_Each.l0 : Nat → ByteArray → List (S40) → Int → Int → Option ((List (S40)))
 | 0, _, _, _, _ => none
 | k + 1, x0, x3, x4, x5 => if x5 ≤ (x0.size : Int) then (if x5 = (x0.size : Int) then (if 0 ≤ x4 then (if x4 ≤ x5 then (if x3.length < 5864062014805 then (isoglossref04_Each.l0 k x0 (x3 ++ [(⟨x4, x0.extract (x4 : Int).toNat (x5 : Int).toNat⟩ : S40)]) (wrap64 (x5 + 1)) (wrap64 (x5 + 1))) else (none)) else (none)) else (none)) else (if 0 ≤ x5 then (if x5 < (x0.size : Int) then (if (bt x0 x5) = 45 then (if 0 ≤ x4 then (if x4 ≤ x5 then (if x3.length < 5864062014805 then (isoglossref04_Each.l0 k x0 (x3 ++ [(⟨x4, x0.extract (x4 : Int).toNat (x5 : Int).toNat⟩ : S40)]) (wrap64 (x5 + 1)) (wrap64 (x5 + 1))) else (none)) else (none)) else (none)) else (isoglossref04_Each.l0 k x0 x3 x4 (wrap64 (x5 + 1)))) else (none)) else (none))) else (some x3)
def isoglossref04_Each.f (k : Nat) (a0 : ByteArray) : Option ((List (S40))) := isoglossref04_Each.l0 k a0 ([] : List (S40)) 0 0
theorem isoglossref04_Each.mono_l : ∀ k, (∀ y0 y1 y2 y3, LeO (isoglossref04_Each.l0 k y0 y1 y2 y3) (isoglossref04_Each.l0 (k + 1) y0 y1 y2 y3))
 | 0 => fun _ _ _ _ r h => by simp [isoglossref04_Each.l0] at h
 | k + 1 => by
  have ih0 := isoglossref04_Each.mono_l k
  ·intro y0 y1 y2 y3
   unfold isoglossref04_Each.l0
   repeat' first
   | (with_reducible exact ih0 _ _ _ _)
   | (with_reducible exact LeO.refl _)
   | (with_reducible exact LeO.none _)
   | (with_reducible refine LeO.ite ?_ ?_)
   | (with_reducible refine LeO.bind ?_ (fun _ => ?_))
   | exact ih0 _ _ _ _
   | exact LeO.none _
   | refine LeO.ite ?_ ?_
   | refine LeO.bind ?_ (fun _ => ?_)
theorem isoglossref04_Each.mono : ∀ a0 k, LeO (isoglossref04_Each.f k a0) (isoglossref04_Each.f (k + 1) a0) := by
 intro a0 k
 have ih0 := isoglossref04_Each.mono_l k
 unfold isoglossref04_Each.f
 repeat' first
   | (with_reducible exact ih0 _ _ _ _)
   | (with_reducible exact LeO.refl _)
   | (with_reducible exact LeO.none _)
   | (with_reducible refine LeO.ite ?_ ?_)
   | (with_reducible refine LeO.bind ?_ (fun _ => ?_))
   | exact ih0 _ _ _ _
   | exact LeO.none _
   | refine LeO.ite ?_ ?_
   | refine LeO.bind ?_ (fun _ => ?_)
set_option maxHeartbeats 8000000 in
set_option maxRecDepth 100000 in
theorem isoglossref04_Each.calls (k : Nat) (a0 : ByteArray) (r : List (S40)) (w : World) (h : isoglossref04_Each.f k a0 = some r) :
  Calls Try.prog 33 #[.string a0] w fun e w' => ∃ v0_ : Value, e = .returned (v0_) ∧ Kd.R k40 40 w' w.heap.size (fun _ => True) v0_ r ∧ Below w.heap.size w w' := by
 have hu40 := Try.underlying40
 have HB := Aside0.mk (Below.refl w.heap.size w)
 have H : (isoglossref04_Each.l0 k a0 ([] : List (S40)) 0 0) = some r := h
 clear h
 have H' := Aside0.mk H
 clear H
 go_enter Try.func33, Try.ntmps33
 go_wp2
 go_loopg [3, 4, 5] k (fun kq v3 v4 v5 w' => ∃ (x3_1 : List (S40)) (x4_1 : Int) (x5_1 : Int), v4 = .int .i64 x4_1 ∧ v5 = .int .i64 x5_1 ∧ Aside0 (isoglossref04_Each.l0 kq a0 x3_1 x4_1 x5_1 = some r) ∧ Aside0 (kq ≤ k) ∧ Aside0 (Kd.R k40 40 w' w.heap.size (fun _ => True) v3 x3_1) ∧ Aside0 (Below w.heap.size w w'))
 case atStart => exact ⟨(([] : List (S40))), (0), (0), (by first | rfl | (simp; done) | (simp [*]; done)), (by first | rfl | (simp; done) | (simp [*]; done)), H', ⟨Nat.le_refl _⟩, ⟨by first | exact Kd.R_nil _ _ _ _ _ | exact Kd.N_nil _ _ _ _ _ | exact Kd.V_nil _ _ _ _ _ | exact Kd.Q_nil _ _ _ _ _ | exact Kd.S_nil _ _ _ _ _⟩, ⟨by repeat (first | (with_reducible first | exact HB.out | apply below_alloc | apply pw_below_drewN | apply below_drew1) | exact HB.out)⟩⟩
 case round =>
  clear H'
  obtain ⟨x3_1, x4_1, x5_1, rfl, rfl, HA, HK1, HO_3, HB⟩ := hrel
  cases gk with
  | zero => exact absurd HA.out (by simp [isoglossref04_Each.l0])
  | succ k1 =>
   have H := HA.out
   clear HA
   simp only [isoglossref04_Each.l0] at H
   by_cases c2 : x5_1 ≤ (a0.size : Int)
   ·rw [if_pos c2] at H
    have c2b0 : decide (x5_1 ≤ (a0.size : Int)) = true := decide_eq_true c2
    clear c2
    by_cases c3 : x5_1 = (a0.size : Int)
    ·rw [if_pos c3] at H
     have c3b0 : (x5_1 == (a0.size : Int)) = true := beq_iff_eq.mpr c3
     have c3b1 : (x5_1 != (a0.size : Int)) = false := bne_eq_false_iff_eq.mpr c3
     clear c3
     by_cases c4 : 0 ≤ x4_1
     ·rw [if_pos c4] at H
      have c4b0 := eq_true c4
      have c4b1 : decide (0 ≤ x4_1) = true := decide_eq_true c4
      clear c4
      by_cases c5 : x4_1 ≤ x5_1
      ·rw [if_pos c5] at H
       have c5b0 := eq_true c5
       have c5b1 : decide (x4_1 ≤ x5_1) = true := decide_eq_true c5
       clear c5
       have c6b0 := eq_true (of_decide_eq_true (by first | (with_reducible assumption) | assumption) : x5_1 ≤ (a0.size : Int))
       by_cases c7 : x3_1.length < 5864062014805
       ·rw [if_pos c7] at H
        have LMc7 := Aside0.mk c7
        clear c7
        obtain ⟨y152, hy152⟩ : ∃ y_ : List (S40), y_ = (x3_1 ++ [(⟨x4_1, a0.extract (x4_1 : Int).toNat (x5_1 : Int).toNat⟩ : S40)]) := ⟨_, rfl⟩
        replace H : (isoglossref04_Each.l0 k1 a0 y152 (wrap64 (x5_1 + 1)) (wrap64 (x5_1 + 1))) = some r := by first | (rw [hy152]; with_reducible exact H) | (have H2_ := (Option.bind_some _ _).symm.trans H; rw [hy152]; with_reducible exact H2_) | (have H2_ := (Option.bind_some _ _).symm.trans H; with_reducible exact H2_) | with_reducible exact H | (rw [hy152]; exact H) | exact H
        have Ny152 := Aside0.mk hy152
        clear hy152
        have H' := Aside0.mk H
        clear H
        go_wp2_with (first | ((with_reducible refine gate_builtin (b := .append) (xs := #[.tmp 22, .tmp 29]) rfl ?_); at_builtin; refine Kd.R_append k40 (w0 := w) w.heap.size rfl (.tmp 22) (.tmp 29) 37 40 (.agg #[(.int .i64 0), (.string ⟨#[]⟩)]) 24 rfl Try.underlying37 info40 rfl (by decide) (by omega) u3 x3_1 (⟨x4_1, a0.extract (x4_1 : Int).toNat (x5_1 : Int).toNat⟩ : S40) [.int .i64 x4_1, .string (a0.extract (x4_1 : Int).toNat (x5_1 : Int).toNat)] (fun _ => True) (fun _ => False) rfl rfl ?aP (fun _ hk => hk.elim) ?aF ?aO ?aB ?aS ?aL ?_; (case aP => exact k40_mkM _ _ _ (⟨x4_1, a0.extract (x4_1 : Int).toNat (x5_1 : Int).toNat⟩ : S40)); (case aB => exact (by repeat (first | (with_reducible first | exact HB.out | apply below_alloc | apply pw_below_drewN | apply below_drew1) | exact HB.out))); (case aF => exact (fun _ _ => trivial)); (case aO => exact (by (with_reducible repeat (first | apply Kd.R_alloc | apply Kd.R_drewN | apply Kd.R_drew)); exact HO_3.out)); (case aS => exact (below_size (by repeat (first | (with_reducible first | exact HB.out | apply below_alloc | apply pw_below_drewN | apply below_drew1) | exact HB.out)))); (case aL => have := LMc7.out; omega); intro v153 w8 ho hb hg hat; rw [← Ny152.out] at ho; have n0_ := Aside0.mk (hb); have n1_ := Aside0.mk (ho); clear HB; clear HO_3; have HB := n0_; have HO154 := n1_; clear n0_ n1_; clear ho hb hg hat))
        go_roundg k1
        case measure => have := HK1.out; omega
        case rel => exact ⟨(y152), (wrap64 (x5_1 + 1)), (wrap64 (x5_1 + 1)), (by first | rfl | (simp; done) | (simp [*]; done)), (by first | rfl | (simp; done) | (simp [*]; done)), H', ⟨by have := HK1.out; omega⟩, ⟨by (with_reducible repeat (first | apply Kd.R_alloc | apply Kd.R_drewN | apply Kd.R_drew)); exact HO154.out⟩, ⟨by repeat (first | (with_reducible first | exact HB.out | apply below_alloc | apply pw_below_drewN | apply below_drew1) | exact HB.out)⟩⟩
       ·rw [if_neg c7] at H
        exact absurd H (by simp)
      ·rw [if_neg c5] at H
       exact absurd H (by simp)
     ·rw [if_neg c4] at H
      exact absurd H (by simp)
    ·rw [if_neg c3] at H
     have c3b0 : (x5_1 == (a0.size : Int)) = false := beq_eq_false_iff_ne.mpr c3
     have c3b1 : (x5_1 != (a0.size : Int)) = true := bne_iff_ne.mpr c3
     by_cases c9 : 0 ≤ x5_1
     ·rw [if_pos c9] at H
      have c9b0 : decide (0 ≤ x5_1) = true := decide_eq_true c9
      clear c9
      by_cases c10 : x5_1 < (a0.size : Int)
      ·rw [if_pos c10] at H
       have c10b0 : decide (x5_1 < (a0.size : Int)) = true := decide_eq_true c10
       clear c10
       by_cases c12 : (bt a0 x5_1) = 45
       ·rw [if_pos c12] at H
        have c12b0 : ((bt a0 x5_1) == 45) = true := beq_iff_eq.mpr c12
        have c12b1 : ((bt a0 x5_1) != 45) = false := bne_eq_false_iff_eq.mpr c12
        clear c12
        by_cases c13 : 0 ≤ x4_1
        ·rw [if_pos c13] at H
         have c13b0 := eq_true c13
         have c13b1 : decide (0 ≤ x4_1) = true := decide_eq_true c13
         clear c13
         by_cases c14 : x4_1 ≤ x5_1
         ·rw [if_pos c14] at H
          have c14b0 := eq_true c14
          have c14b1 : decide (x4_1 ≤ x5_1) = true := decide_eq_true c14
          clear c14
          have c15b0 := eq_true (of_decide_eq_true (by first | (with_reducible assumption) | assumption) : x5_1 ≤ (a0.size : Int))
          by_cases c16 : x3_1.length < 5864062014805
          ·rw [if_pos c16] at H
           have LMc16 := Aside0.mk c16
           clear c16
           obtain ⟨y155, hy155⟩ : ∃ y_ : List (S40), y_ = (x3_1 ++ [(⟨x4_1, a0.extract (x4_1 : Int).toNat (x5_1 : Int).toNat⟩ : S40)]) := ⟨_, rfl⟩
           replace H : (isoglossref04_Each.l0 k1 a0 y155 (wrap64 (x5_1 + 1)) (wrap64 (x5_1 + 1))) = some r := by first | (rw [hy155]; with_reducible exact H) | (have H2_ := (Option.bind_some _ _).symm.trans H; rw [hy155]; with_reducible exact H2_) | (have H2_ := (Option.bind_some _ _).symm.trans H; with_reducible exact H2_) | with_reducible exact H | (rw [hy155]; exact H) | exact H
           have Ny155 := Aside0.mk hy155
           clear hy155
           have H' := Aside0.mk H
           clear H
           have p11 : 0 ≤ (x5_1 : Int) := of_decide_eq_true (by first | (with_reducible assumption) | assumption)
           have q11 : x5_1 < (a0.size : Int) := of_decide_eq_true (by first | (with_reducible assumption) | assumption)
           have hx11 := bt_at a0 x5_1
           replace p11 := eq_true p11
           replace q11 := eq_true q11
           go_wp2_with (first | ((with_reducible refine gate_builtin (b := .append) (xs := #[.tmp 22, .tmp 29]) rfl ?_); at_builtin; refine Kd.R_append k40 (w0 := w) w.heap.size rfl (.tmp 22) (.tmp 29) 37 40 (.agg #[(.int .i64 0), (.string ⟨#[]⟩)]) 24 rfl Try.underlying37 info40 rfl (by decide) (by omega) u3 x3_1 (⟨x4_1, a0.extract (x4_1 : Int).toNat (x5_1 : Int).toNat⟩ : S40) [.int .i64 x4_1, .string (a0.extract (x4_1 : Int).toNat (x5_1 : Int).toNat)] (fun _ => True) (fun _ => False) rfl rfl ?aP (fun _ hk => hk.elim) ?aF ?aO ?aB ?aS ?aL ?_; (case aP => exact k40_mkM _ _ _ (⟨x4_1, a0.extract (x4_1 : Int).toNat (x5_1 : Int).toNat⟩ : S40)); (case aB => exact (by repeat (first | (with_reducible first | exact HB.out | apply below_alloc | apply pw_below_drewN | apply below_drew1) | exact HB.out))); (case aF => exact (fun _ _ => trivial)); (case aO => exact (by (with_reducible repeat (first | apply Kd.R_alloc | apply Kd.R_drewN | apply Kd.R_drew)); exact HO_3.out)); (case aS => exact (below_size (by repeat (first | (with_reducible first | exact HB.out | apply below_alloc | apply pw_below_drewN | apply below_drew1) | exact HB.out)))); (case aL => have := LMc16.out; omega); intro v156 w17 ho hb hg hat; rw [← Ny155.out] at ho; have n0_ := Aside0.mk (hb); have n1_ := Aside0.mk (ho); clear HB; clear HO_3; have HB := n0_; have HO157 := n1_; clear n0_ n1_; clear ho hb hg hat))
           go_roundg k1
           case measure => have := HK1.out; omega
           case rel => exact ⟨(y155), (wrap64 (x5_1 + 1)), (wrap64 (x5_1 + 1)), (by first | rfl | (simp; done) | (simp [*]; done)), (by first | rfl | (simp; done) | (simp [*]; done)), H', ⟨by have := HK1.out; omega⟩, ⟨by (with_reducible repeat (first | apply Kd.R_alloc | apply Kd.R_drewN | apply Kd.R_drew)); exact HO157.out⟩, ⟨by repeat (first | (with_reducible first | exact HB.out | apply below_alloc | apply pw_below_drewN | apply below_drew1) | exact HB.out)⟩⟩
          ·rw [if_neg c16] at H
           exact absurd H (by simp)
         ·rw [if_neg c14] at H
          exact absurd H (by simp)
        ·rw [if_neg c13] at H
         exact absurd H (by simp)
       ·rw [if_neg c12] at H
        have c12b0 : ((bt a0 x5_1) == 45) = false := beq_eq_false_iff_ne.mpr c12
        have c12b1 : ((bt a0 x5_1) != 45) = true := bne_iff_ne.mpr c12
        have H' := Aside0.mk H
        clear H
        have p11 : 0 ≤ (x5_1 : Int) := of_decide_eq_true (by first | (with_reducible assumption) | assumption)
        have q11 : x5_1 < (a0.size : Int) := of_decide_eq_true (by first | (with_reducible assumption) | assumption)
        have hx11 := bt_at a0 x5_1
        replace p11 := eq_true p11
        replace q11 := eq_true q11
        go_wp2
        go_roundg k1
        case measure => have := HK1.out; omega
        case rel => exact ⟨(x3_1), (x4_1), (wrap64 (x5_1 + 1)), (by first | rfl | (simp; done) | (simp [*]; done)), (by first | rfl | (simp; done) | (simp [*]; done)), H', ⟨by have := HK1.out; omega⟩, ⟨by (with_reducible repeat (first | apply Kd.R_alloc | apply Kd.R_drewN | apply Kd.R_drew)); exact HO_3.out⟩, ⟨by repeat (first | (with_reducible first | exact HB.out | apply below_alloc | apply pw_below_drewN | apply below_drew1) | exact HB.out)⟩⟩
      ·rw [if_neg c10] at H
       exact absurd H (by simp)
     ·rw [if_neg c9] at H
      exact absurd H (by simp)
   ·rw [if_neg c2] at H
    have c2b0 : decide (x5_1 ≤ (a0.size : Int)) = false := decide_eq_false c2
    clear c2
    obtain rfl := Option.some.inj H
    go_wp2
    go_ret
    exact ⟨_, by first | rfl | (simp [errW_none, errW_some] <;> rfl) | (simp [*, errW_none, errW_some] <;> rfl), by (with_reducible repeat (first | apply Kd.R_alloc | apply Kd.R_drewN | apply Kd.R_drew)); exact HO_3.out, by repeat (first | (with_reducible first | exact HB.out | apply below_alloc | apply pw_below_drewN | apply below_drew1) | exact HB.out)⟩

/-! ### isoglossref04_Split: function 16 -/
def isoglossref04_Split.l0 : Nat → List ByteArray → List (S40) → Int → Option (List ByteArray)
 | 0, _, _, _ => none
 | k + 1, x3, x4, x5 => if x5 < (x4.length : Int) then (if 0 ≤ x5 then (if x3.length < 8796093022208 then (isoglossref04_Split.l0 k (x3 ++ [(rd_T40 x4 x5).f1]) x4 (wrap64 (x5 + 1))) else (none)) else (none)) else (some x3)
def isoglossref04_Split.f (k : Nat) (a0 : ByteArray) : Option (List ByteArray) := (isoglossref04_Each.f k a0).bind fun t158 => (isoglossref04_Split.l0 k ([] : List ByteArray) t158 0)
theorem isoglossref04_Split.mono_l : ∀ k, (∀ y0 y1 y2, LeO (isoglossref04_Split.l0 k y0 y1 y2) (isoglossref04_Split.l0 (k + 1) y0 y1 y2))
 | 0 => fun _ _ _ r h => by simp [isoglossref04_Split.l0] at h
 | k + 1 => by
  have ih0 := isoglossref04_Split.mono_l k
  ·intro y0 y1 y2
   unfold isoglossref04_Split.l0
   repeat' first
   | (with_reducible exact ih0 _ _ _)
   | (with_reducible exact isoglossref04_Each.mono _ _)
   | (with_reducible exact LeO.refl _)
   | (with_reducible exact LeO.none _)
   | (with_reducible refine LeO.ite ?_ ?_)
   | (with_reducible refine LeO.bind ?_ (fun _ => ?_))
   | exact ih0 _ _ _
   | exact isoglossref04_Each.mono _ _
   | exact LeO.none _
   | refine LeO.ite ?_ ?_
   | refine LeO.bind ?_ (fun _ => ?_)
theorem isoglossref04_Split.mono : ∀ a0 k, LeO (isoglossref04_Split.f k a0) (isoglossref04_Split.f (k + 1) a0) := by
 intro a0 k
 have ih0 := isoglossref04_Split.mono_l k
 unfold isoglossref04_Split.f
 repeat' first
   | (with_reducible exact ih0 _ _ _)
   | (with_reducible exact isoglossref04_Each.mono _ _)
   | (with_reducible exact LeO.refl _)
   | (with_reducible exact LeO.none _)
   | (with_reducible refine LeO.ite ?_ ?_)
   | (with_reducible refine LeO.bind ?_ (fun _ => ?_))
   | exact ih0 _ _ _
   | exact isoglossref04_Each.mono _ _
   | exact LeO.none _
   | refine LeO.ite ?_ ?_
   | refine LeO.bind ?_ (fun _ => ?_)
set_option maxHeartbeats 8000000 in
set_option maxRecDepth 100000 in
theorem isoglossref04_Split.calls (k : Nat) (a0 : ByteArray) (r : List ByteArray) (w : World) (h : isoglossref04_Split.f k a0 = some r) :
  Calls Try.prog 16 #[.string a0] w fun e w' => ∃ v0_ : Value, e = .returned (v0_) ∧ Kd.R Kd.string 9 w' w.heap.size (fun _ => True) v0_ r ∧ Below w.heap.size w w' := by
 have HB := Aside0.mk (Below.refl w.heap.size w)
 have H : ((isoglossref04_Each.f k a0).bind fun t158 => (isoglossref04_Split.l0 k ([] : List ByteArray) t158 0)) = some r := h
 clear h
 replace H := Option.bind_eq_some_iff.mp H
 obtain ⟨t158, A20, H⟩ := H
 replace H : (isoglossref04_Split.l0 k ([] : List ByteArray) t158 0) = some r := H
 have A2 := Aside0.mk A20
 clear A20
 have H' := Aside0.mk H
 clear H
 go_enter Try.func16, Try.ntmps16
 go_wp2_with (first | ((with_reducible refine gate_callee (f := 33) rfl ?_); refine goesL_ (some 7) rfl rfl Try.func33 (by kernel_rfl) rfl #[.string a0] rfl (by (try simp only [List.map_toArray, List.map_cons, List.map_nil]); first | done | rfl | (simp only [List.length_drop, List.length_take]; rfl)) ?_; (with_reducible refine (isoglossref04_Each.calls k a0 t158 _ A2.out).mono ?_); rintro e w3 ⟨v159, rfl, ho0, hb⟩; refine ⟨_, rfl, ?_⟩; have n0_ := Aside0.mk (Kd.R_lower ho0 (below_size (by repeat (first | (with_reducible first | exact HB.out | apply below_alloc | apply pw_below_drewN | apply below_drew1) | exact HB.out)))); have n1_ := Aside0.mk (below_step (by repeat (first | (with_reducible first | exact HB.out | apply below_alloc | apply pw_below_drewN | apply below_drew1) | exact HB.out)) hb); clear HB; have HO160 := n0_; have HB := n1_; clear n0_ n1_; (try clear hb); (try clear hb2); (try clear hk); (try clear hi); (try clear ho0)))
 go_loopg [3, 5] k (fun kq v3 v5 w' => ∃ (x3_1 : List ByteArray) (x5_1 : Int), v5 = .int .i64 x5_1 ∧ Aside0 (isoglossref04_Split.l0 kq x3_1 t158 x5_1 = some r) ∧ Aside0 (kq ≤ k) ∧ Aside0 (Kd.R Kd.string 9 w' w.heap.size (fun _ => True) v3 x3_1) ∧ Aside0 (Kd.R k40 40 w' w.heap.size (fun _ => True) v159 t158) ∧ Aside0 (Below w.heap.size w w'))
 case atStart => exact ⟨(([] : List ByteArray)), (0), (by first | rfl | (simp; done) | (simp [*]; done)), H', ⟨Nat.le_refl _⟩, ⟨by first | exact Kd.R_nil _ _ _ _ _ | exact Kd.N_nil _ _ _ _ _ | exact Kd.V_nil _ _ _ _ _ | exact Kd.Q_nil _ _ _ _ _ | exact Kd.S_nil _ _ _ _ _⟩, ⟨by (with_reducible repeat (first | apply Kd.R_alloc | apply Kd.R_drewN | apply Kd.R_drew)); exact HO160.out⟩, ⟨by repeat (first | (with_reducible first | exact HB.out | apply below_alloc | apply pw_below_drewN | apply below_drew1) | exact HB.out)⟩⟩
 case round =>
  clear H'
  try clear c1
  try clear p2
  try clear c3
  obtain ⟨x3_1, x5_1, rfl, HA, HK1, HO_3, HO_4, HB⟩ := hrel
  cases gk with
  | zero => exact absurd HA.out (by simp [isoglossref04_Split.l0])
  | succ k1 =>
   have H := HA.out
   clear HA
   simp only [isoglossref04_Split.l0] at H
   by_cases c4 : x5_1 < (t158.length : Int)
   ·rw [if_pos c4] at H
    have c4b0 : decide (x5_1 < (t158.length : Int)) = true := decide_eq_true c4
    clear c4
    by_cases c5 : 0 ≤ x5_1
    ·rw [if_pos c5] at H
     have c5b0 : decide (0 ≤ x5_1) = true := decide_eq_true c5
     clear c5
     by_cases c6 : x3_1.length < 8796093022208
     ·rw [if_pos c6] at H
      have LMc6 := Aside0.mk c6
      clear c6
      obtain ⟨y162, hy162⟩ : ∃ y_ : List ByteArray, y_ = (x3_1 ++ [(rd_T40 t158 x5_1).f1]) := ⟨_, rfl⟩
      replace H : (isoglossref04_Split.l0 k1 y162 t158 (wrap64 (x5_1 + 1))) = some r := by first | (rw [hy162]; with_reducible exact H) | (have H2_ := (Option.bind_some _ _).symm.trans H; rw [hy162]; with_reducible exact H2_) | (have H2_ := (Option.bind_some _ _).symm.trans H; with_reducible exact H2_) | with_reducible exact H | (rw [hy162]; exact H) | exact H
      have Ny162 := Aside0.mk hy162
      clear hy162
      have H' := Aside0.mk H
      clear H
      obtain ⟨Ao7, co7, eo7⟩ := Kd.R_slice HO_4.out
      subst eo7
      have p161 : 0 ≤ (x5_1 : Int) := of_decide_eq_true (by first | (with_reducible assumption) | assumption)
      have q161 : x5_1 < (t158.length : Int) := of_decide_eq_true (by first | (with_reducible assumption) | assumption)
      obtain ⟨ad161, e161, hx161_0, hx161_1⟩ := at_T40 (Kd.R_reads' HO_4.out).2.2 x5_1 p161 q161
      cases e161
      replace p161 := eq_true p161
      replace q161 := eq_true q161
      go_wp2_with (first | ((with_reducible refine gate_builtin (b := .append) (xs := #[.tmp 14, .tmp 20]) rfl ?_); at_builtin; refine Kd.R_append Kd.string (w0 := w) w.heap.size rfl (.tmp 14) (.tmp 20) 25 9 (.string ⟨#[]⟩) 16 rfl Try.underlying25 info9 rfl (by decide) (by omega) u3 x3_1 ((rd_T40 t158 x5_1).f1) [.string ((rd_T40 t158 x5_1).f1)] (fun _ => True) (fun _ => False) rfl rfl ?aP (fun _ hk => hk.elim) ?aF ?aO ?aB ?aS ?aL ?_; (case aP => exact rfl); (case aB => exact (by repeat (first | (with_reducible first | exact HB.out | apply below_alloc | apply pw_below_drewN | apply below_drew1) | exact HB.out))); (case aF => exact (fun _ _ => trivial)); (case aO => exact (by (with_reducible repeat (first | apply Kd.R_alloc | apply Kd.R_drewN | apply Kd.R_drew)); exact HO_3.out)); (case aS => exact (below_size (by repeat (first | (with_reducible first | exact HB.out | apply below_alloc | apply pw_below_drewN | apply below_drew1) | exact HB.out)))); (case aL => have := LMc6.out; omega); intro v163 w8 ho hb hg hat; rw [← Ny162.out] at ho; have n0_ := Aside0.mk (Kd.R_over' (by (with_reducible repeat (first | apply Kd.R_alloc | apply Kd.R_drewN | apply Kd.R_drew)); exact HO_4.out) (Kd.R_typed (by (with_reducible repeat (first | apply Kd.R_alloc | apply Kd.R_drewN | apply Kd.R_drew)); exact HO_3.out)) (by decide) hg); have n1_ := Aside0.mk (hb); have n2_ := Aside0.mk (ho); clear HO_4; clear HB; clear HO_3; have HO_4 := n0_; have HB := n1_; have HO164 := n2_; clear n0_ n1_ n2_; clear ho hb hg hat))
      go_roundg k1
      case measure => have := HK1.out; omega
      case rel => exact ⟨(y162), (wrap64 (x5_1 + 1)), (by first | rfl | (simp; done) | (simp [*]; done)), H', ⟨by have := HK1.out; omega⟩, ⟨by (with_reducible repeat (first | apply Kd.R_alloc | apply Kd.R_drewN | apply Kd.R_drew)); exact HO164.out⟩, ⟨by (with_reducible repeat (first | apply Kd.R_alloc | apply Kd.R_drewN | apply Kd.R_drew)); exact HO_4.out⟩, ⟨by repeat (first | (with_reducible first | exact HB.out | apply below_alloc | apply pw_below_drewN | apply below_drew1) | exact HB.out)⟩⟩
     ·rw [if_neg c6] at H
      exact absurd H (by simp)
    ·rw [if_neg c5] at H
     exact absurd H (by simp)
   ·rw [if_neg c4] at H
    have c4b0 : decide (x5_1 < (t158.length : Int)) = false := decide_eq_false c4
    clear c4
    obtain rfl := Option.some.inj H
    obtain ⟨Ao9, co9, eo9⟩ := Kd.R_slice HO_4.out
    subst eo9
    go_wp2
    go_ret
    exact ⟨_, by first | rfl | (simp [errW_none, errW_some] <;> rfl) | (simp [*, errW_none, errW_some] <;> rfl), by (with_reducible repeat (first | apply Kd.R_alloc | apply Kd.R_drewN | apply Kd.R_drew)); exact HO_3.out, by repeat (first | (with_reducible first | exact HB.out | apply below_alloc | apply pw_below_drewN | apply below_drew1) | exact HB.out)⟩

/-! ### isoglossref02_letter: function 52 -/
def isoglossref02_letter.f (a0 : Int) : Option (Bool) := if a0 ≥ 97 then (if a0 ≤ 122 then (some true) else (if a0 ≥ 65 then (some (decide (a0 ≤ 90))) else (some false))) else (if a0 ≥ 65 then (some (decide (a0 ≤ 90))) else (some false))
set_option maxHeartbeats 8000000 in
set_option maxRecDepth 100000 in
theorem isoglossref02_letter.calls (a0 : Int) (r : Bool) (w : World) (h : isoglossref02_letter.f a0 = some r) :
  Calls Try.prog 52 #[.int .u8 a0] w fun e w' => e = .returned (.bool r) ∧ Drawn0 w w' := by
 have H : (if a0 ≥ 97 then (if a0 ≤ 122 then (some true) else (if a0 ≥ 65 then (some (decide (a0 ≤ 90))) else (some false))) else (if a0 ≥ 65 then (some (decide (a0 ≤ 90))) else (some false))) = some r := h
 clear h
 by_cases c2 : a0 ≥ 97
 ·rw [if_pos c2] at H
  have c2b0 : decide (97 ≤ a0) = true := decide_eq_true c2
  clear c2
  by_cases c3 : a0 ≤ 122
  ·rw [if_pos c3] at H
   have c3b0 : decide (a0 ≤ 122) = true := decide_eq_true c3
   clear c3
   obtain rfl := Option.some.inj H
   go_enter Try.func52, Try.ntmps52
   go_wp2
   go_ret
   exact ⟨by first | rfl | (simp; done) | (simp [*]; done), by repeat (first | exact Drawn0.refl _ | apply Drawn0.step)⟩
  ·rw [if_neg c3] at H
   have c3b0 : decide (a0 ≤ 122) = false := decide_eq_false c3
   clear c3
   by_cases c4 : a0 ≥ 65
   ·rw [if_pos c4] at H
    have c4b0 : decide (65 ≤ a0) = true := decide_eq_true c4
    clear c4
    obtain rfl := Option.some.inj H
    go_enter Try.func52, Try.ntmps52
    go_wp2
    go_ret
    exact ⟨by first | rfl | (simp; done) | (simp [*]; done), by repeat (first | exact Drawn0.refl _ | apply Drawn0.step)⟩
   ·rw [if_neg c4] at H
    have c4b0 : decide (65 ≤ a0) = false := decide_eq_false c4
    clear c4
    obtain rfl := Option.some.inj H
    go_enter Try.func52, Try.ntmps52
    go_wp2
    go_ret
    exact ⟨by first | rfl | (simp; done) | (simp [*]; done), by repeat (first | exact Drawn0.refl _ | apply Drawn0.step)⟩
 ·rw [if_neg c2] at H
  have c2b0 : decide (97 ≤ a0) = false := decide_eq_false c2
  clear c2
  by_cases c5 : a0 ≥ 65
  ·rw [if_pos c5] at H
   have c5b0 : decide (65 ≤ a0) = true := decide_eq_true c5
   clear c5
   obtain rfl := Option.some.inj H
   go_enter Try.func52, Try.ntmps52
   go_wp2
   go_ret
   exact ⟨by first | rfl | (simp; done) | (simp [*]; done), by repeat (first | exact Drawn0.refl _ | apply Drawn0.step)⟩
  ·rw [if_neg c5] at H
   have c5b0 : decide (65 ≤ a0) = false := decide_eq_false c5
   clear c5
   obtain rfl := Option.some.inj H
   go_enter Try.func52, Try.ntmps52
   go_wp2
   go_ret
   exact ⟨by first | rfl | (simp; done) | (simp [*]; done), by repeat (first | exact Drawn0.refl _ | apply Drawn0.step)⟩

/-! ### isoglossref02_digit: function 53 -/
def isoglossref02_digit.f (a0 : Int) : Option (Bool) := if a0 ≥ 48 then (some (decide (a0 ≤ 57))) else (some false)
set_option maxHeartbeats 8000000 in
set_option maxRecDepth 100000 in
theorem isoglossref02_digit.calls (a0 : Int) (r : Bool) (w : World) (h : isoglossref02_digit.f a0 = some r) :
  Calls Try.prog 53 #[.int .u8 a0] w fun e w' => e = .returned (.bool r) ∧ Drawn0 w w' := by
 have H : (if a0 ≥ 48 then (some (decide (a0 ≤ 57))) else (some false)) = some r := h
 clear h
 by_cases c2 : a0 ≥ 48
 ·rw [if_pos c2] at H
  have c2b0 : decide (48 ≤ a0) = true := decide_eq_true c2
  clear c2
  obtain rfl := Option.some.inj H
  go_enter Try.func53, Try.ntmps53
  go_wp2
  go_ret
  exact ⟨by first | rfl | (simp; done) | (simp [*]; done), by repeat (first | exact Drawn0.refl _ | apply Drawn0.step)⟩
 ·rw [if_neg c2] at H
  have c2b0 : decide (48 ≤ a0) = false := decide_eq_false c2
  clear c2
  obtain rfl := Option.some.inj H
  go_enter Try.func53, Try.ntmps53
  go_wp2
  go_ret
  exact ⟨by first | rfl | (simp; done) | (simp [*]; done), by repeat (first | exact Drawn0.refl _ | apply Drawn0.step)⟩

/-! ### isoglossref02_Class: function 45 -/
mutual
def isoglossref02_Class.l0 : Nat → ByteArray → Int → Int → Int → Option (Int)
 | 0, _, _, _, _ => none
 | k + 1, x0, x3, x4, x5 => if x5 < (x0.size : Int) then (if 0 ≤ x5 then ((isoglossref02_letter.f (bt x0 x5)).bind fun t165 => ((isoglossref02_digit.f (bt x0 x5)).bind fun t166 => (if t165 = true then (if t166 = true then (isoglossref02_Class.l0 k x0 (wrap64 (x3 + 1)) (wrap64 (x4 + 1)) (wrap64 (x5 + 1))) else (isoglossref02_Class.l0 k x0 (wrap64 (x3 + 1)) x4 (wrap64 (x5 + 1)))) else (if t166 = true then (isoglossref02_Class.l0 k x0 x3 (wrap64 (x4 + 1)) (wrap64 (x5 + 1))) else (isoglossref02_Class.l0 k x0 x3 x4 (wrap64 (x5 + 1))))))) else (none)) else (if x0.toList = ([] : List UInt8) then (isoglossref02_Class.j1 k x3 x4 true) else (isoglossref02_Class.j1 k x3 x4 (decide ((wrap64 (x3 + x4)) < (x0.size : Int)))))
def isoglossref02_Class.j1 : Nat → Int → Int → Bool → Option (Int)
 | 0, _, _, _ => none
 | k + 1, x3, x4, x37 => if x37 = true then (some 0) else (if x4 = 0 then (some 1) else (if x3 = 0 then (some 2) else (some 3)))
end
def isoglossref02_Class.f (k : Nat) (a0 : ByteArray) : Option (Int) := isoglossref02_Class.l0 k a0 0 0 0
theorem isoglossref02_Class.mono_l : ∀ k, (∀ y0 y1 y2 y3, LeO (isoglossref02_Class.l0 k y0 y1 y2 y3) (isoglossref02_Class.l0 (k + 1) y0 y1 y2 y3)) ∧ (∀ y0 y1 y2, LeO (isoglossref02_Class.j1 k y0 y1 y2) (isoglossref02_Class.j1 (k + 1) y0 y1 y2))
 | 0 => ⟨fun _ _ _ _ r h => by simp [isoglossref02_Class.l0] at h, fun _ _ _ r h => by simp [isoglossref02_Class.j1] at h⟩
 | k + 1 => by
  obtain ⟨ih0, ih1⟩ := isoglossref02_Class.mono_l k
  refine ⟨?_, ?_⟩
  ·intro y0 y1 y2 y3
   unfold isoglossref02_Class.l0
   repeat' first
   | (with_reducible exact ih0 _ _ _ _)
   | (with_reducible exact ih1 _ _ _)
   | (with_reducible exact LeO.refl _)
   | (with_reducible exact LeO.none _)
   | (with_reducible refine LeO.ite ?_ ?_)
   | (with_reducible refine LeO.bind ?_ (fun _ => ?_))
   | exact ih0 _ _ _ _
   | exact ih1 _ _ _
   | exact LeO.none _
   | refine LeO.ite ?_ ?_
   | refine LeO.bind ?_ (fun _ => ?_)
  ·intro y0 y1 y2
   unfold isoglossref02_Class.j1
   repeat' first
   | (with_reducible exact ih0 _ _ _ _)
   | (with_reducible exact ih1 _ _ _)
   | (with_reducible exact LeO.refl _)
   | (with_reducible exact LeO.none _)
   | (with_reducible refine LeO.ite ?_ ?_)
   | (with_reducible refine LeO.bind ?_ (fun _ => ?_))
   | exact ih0 _ _ _ _
   | exact ih1 _ _ _
   | exact LeO.none _
   | refine LeO.ite ?_ ?_
   | refine LeO.bind ?_ (fun _ => ?_)
theorem isoglossref02_Class.mono : ∀ a0 k, LeO (isoglossref02_Class.f k a0) (isoglossref02_Class.f (k + 1) a0) := by
 intro a0 k
 obtain ⟨ih0, ih1⟩ := isoglossref02_Class.mono_l k
 unfold isoglossref02_Class.f
 repeat' first
   | (with_reducible exact ih0 _ _ _ _)
   | (with_reducible exact ih1 _ _ _)
   | (with_reducible exact LeO.refl _)
   | (with_reducible exact LeO.none _)
   | (with_reducible refine LeO.ite ?_ ?_)
   | (with_reducible refine LeO.bind ?_ (fun _ => ?_))
   | exact ih0 _ _ _ _
   | exact ih1 _ _ _
   | exact LeO.none _
   | refine LeO.ite ?_ ?_
   | refine LeO.bind ?_ (fun _ => ?_)
set_option maxHeartbeats 8000000 in
set_option maxRecDepth 100000 in
theorem isoglossref02_Class.calls (k : Nat) (a0 : ByteArray) (r : Int) (w : World) (h : isoglossref02_Class.f k a0 = some r) :
  Calls Try.prog 45 #[.string a0] w fun e w' => e = .returned (.int .i64 r) ∧ Drawn0 w w' := by
 have H : (isoglossref02_Class.l0 k a0 0 0 0) = some r := h
 clear h
 have H' := Aside0.mk H
 clear H
 go_enter Try.func45, Try.ntmps45
 go_wp2
 go_loopg [3, 4, 5] k (fun kq v3 v4 v5 w' => ∃ (x3_1 : Int) (x4_1 : Int) (x5_1 : Int), v3 = .int .i64 x3_1 ∧ v4 = .int .i64 x4_1 ∧ v5 = .int .i64 x5_1 ∧ Aside0 (isoglossref02_Class.l0 kq a0 x3_1 x4_1 x5_1 = some r) ∧ Aside0 (kq ≤ k) ∧ Drawn0 w w')
 case atStart => exact ⟨(0), (0), (0), (by first | rfl | (simp; done) | (simp [*]; done)), (by first | rfl | (simp; done) | (simp [*]; done)), (by first | rfl | (simp; done) | (simp [*]; done)), H', ⟨Nat.le_refl _⟩, by repeat (first | exact Drawn0.refl _ | apply Drawn0.step)⟩
 case round =>
  clear H'
  obtain ⟨x3_1, x4_1, x5_1, rfl, rfl, rfl, HA, HK1, ⟨m1, rfl⟩⟩ := hrel
  cases gk with
  | zero => exact absurd HA.out (by simp [isoglossref02_Class.l0])
  | succ k1 =>
   have H := HA.out
   clear HA
   simp only [isoglossref02_Class.l0] at H
   by_cases c2 : x5_1 < (a0.size : Int)
   ·rw [if_pos c2] at H
    have c2b0 : decide (x5_1 < (a0.size : Int)) = true := decide_eq_true c2
    clear c2
    by_cases c3 : 0 ≤ x5_1
    ·rw [if_pos c3] at H
     have c3b0 : decide (0 ≤ x5_1) = true := decide_eq_true c3
     clear c3
     replace H := Option.bind_eq_some_iff.mp H
     obtain ⟨t165, A50, H⟩ := H
     replace H : ((isoglossref02_digit.f (bt a0 x5_1)).bind fun t166 => (if t165 = true then (if t166 = true then (isoglossref02_Class.l0 k1 a0 (wrap64 (x3_1 + 1)) (wrap64 (x4_1 + 1)) (wrap64 (x5_1 + 1))) else (isoglossref02_Class.l0 k1 a0 (wrap64 (x3_1 + 1)) x4_1 (wrap64 (x5_1 + 1)))) else (if t166 = true then (isoglossref02_Class.l0 k1 a0 x3_1 (wrap64 (x4_1 + 1)) (wrap64 (x5_1 + 1))) else (isoglossref02_Class.l0 k1 a0 x3_1 x4_1 (wrap64 (x5_1 + 1)))))) = some r := H
     have A5 := Aside0.mk A50
     clear A50
     replace H := Option.bind_eq_some_iff.mp H
     obtain ⟨t166, A70, H⟩ := H
     replace H : (if t165 = true then (if t166 = true then (isoglossref02_Class.l0 k1 a0 (wrap64 (x3_1 + 1)) (wrap64 (x4_1 + 1)) (wrap64 (x5_1 + 1))) else (isoglossref02_Class.l0 k1 a0 (wrap64 (x3_1 + 1)) x4_1 (wrap64 (x5_1 + 1)))) else (if t166 = true then (isoglossref02_Class.l0 k1 a0 x3_1 (wrap64 (x4_1 + 1)) (wrap64 (x5_1 + 1))) else (isoglossref02_Class.l0 k1 a0 x3_1 x4_1 (wrap64 (x5_1 + 1))))) = some r := H
     have A7 := Aside0.mk A70
     clear A70
     by_cases c8 : t165 = true
     ·subst c8
      have H1 : (if t166 = true then (isoglossref02_Class.l0 k1 a0 (wrap64 (x3_1 + 1)) (wrap64 (x4_1 + 1)) (wrap64 (x5_1 + 1))) else (isoglossref02_Class.l0 k1 a0 (wrap64 (x3_1 + 1)) x4_1 (wrap64 (x5_1 + 1)))) = some r := by rw [if_pos rfl] at H; exact H
      clear H
      have H := H1
      clear H1
      by_cases c9 : t166 = true
      ·subst c9
       have H1 : (isoglossref02_Class.l0 k1 a0 (wrap64 (x3_1 + 1)) (wrap64 (x4_1 + 1)) (wrap64 (x5_1 + 1))) = some r := by rw [if_pos rfl] at H; exact H
       clear H
       have H := H1
       clear H1
       have H' := Aside0.mk H
       clear H
       have p4 : 0 ≤ (x5_1 : Int) := of_decide_eq_true (by first | (with_reducible assumption) | assumption)
       have q4 : x5_1 < (a0.size : Int) := of_decide_eq_true (by first | (with_reducible assumption) | assumption)
       have hx4 := bt_at a0 x5_1
       replace p4 := eq_true p4
       replace q4 := eq_true q4
       go_wp2_with (first | ((with_reducible refine gate_callee (f := 52) rfl ?_); refine goesL_ (some 17) rfl rfl Try.func52 (by kernel_rfl) rfl #[.int .u8 (bt a0 x5_1)] rfl (by (try simp only [List.map_toArray, List.map_cons, List.map_nil]); first | done | rfl | (simp only [List.length_drop, List.length_take]; rfl)) ?_; (with_reducible refine (isoglossref02_letter.calls (bt a0 x5_1) true _ A5.out).mono ?_); rintro e w' ⟨rfl, ⟨nd, rfl⟩⟩; refine ⟨_, rfl, ?_⟩; have p6 : 0 ≤ (x5_1 : Int) := of_decide_eq_true (by first | (with_reducible assumption) | assumption); have q6 : x5_1 < (a0.size : Int) := of_decide_eq_true (by first | (with_reducible assumption) | assumption); have hx6 := bt_at a0 x5_1; replace p6 := eq_true p6; replace q6 := eq_true q6) | ((with_reducible refine gate_callee (f := 53) rfl ?_); refine goesL_ (some 21) rfl rfl Try.func53 (by kernel_rfl) rfl #[.int .u8 (bt a0 x5_1)] rfl (by (try simp only [List.map_toArray, List.map_cons, List.map_nil]); first | done | rfl | (simp only [List.length_drop, List.length_take]; rfl)) ?_; (with_reducible refine (isoglossref02_digit.calls (bt a0 x5_1) true _ A7.out).mono ?_); rintro e w' ⟨rfl, ⟨nd, rfl⟩⟩; refine ⟨_, rfl, ?_⟩))
       go_roundg k1
       case measure => have := HK1.out; omega
       case rel => exact ⟨(wrap64 (x3_1 + 1)), (wrap64 (x4_1 + 1)), (wrap64 (x5_1 + 1)), (by first | rfl | (simp; done) | (simp [*]; done)), (by first | rfl | (simp; done) | (simp [*]; done)), (by first | rfl | (simp; done) | (simp [*]; done)), H', ⟨by have := HK1.out; omega⟩, by repeat (first | exact Drawn0.refl _ | apply Drawn0.step)⟩
      ·replace c9 := Bool.eq_false_iff.mpr c9
       subst c9
       have H1 : (isoglossref02_Class.l0 k1 a0 (wrap64 (x3_1 + 1)) x4_1 (wrap64 (x5_1 + 1))) = some r := by rw [if_neg (show ¬ (false = true) by decide)] at H; exact H
       clear H
       have H := H1
       clear H1
       have H' := Aside0.mk H
       clear H
       have p4 : 0 ≤ (x5_1 : Int) := of_decide_eq_true (by first | (with_reducible assumption) | assumption)
       have q4 : x5_1 < (a0.size : Int) := of_decide_eq_true (by first | (with_reducible assumption) | assumption)
       have hx4 := bt_at a0 x5_1
       replace p4 := eq_true p4
       replace q4 := eq_true q4
       go_wp2_with (first | ((with_reducible refine gate_callee (f := 52) rfl ?_); refine goesL_ (some 17) rfl rfl Try.func52 (by kernel_rfl) rfl #[.int .u8 (bt a0 x5_1)] rfl (by (try simp only [List.map_toArray, List.map_cons, List.map_nil]); first | done | rfl | (simp only [List.length_drop, List.length_take]; rfl)) ?_; (with_reducible refine (isoglossref02_letter.calls (bt a0 x5_1) true _ A5.out).mono ?_); rintro e w' ⟨rfl, ⟨nd, rfl⟩⟩; refine ⟨_, rfl, ?_⟩; have p6 : 0 ≤ (x5_1 : Int) := of_decide_eq_true (by first | (with_reducible assumption) | assumption); have q6 : x5_1 < (a0.size : Int) := of_decide_eq_true (by first | (with_reducible assumption) | assumption); have hx6 := bt_at a0 x5_1; replace p6 := eq_true p6; replace q6 := eq_true q6) | ((with_reducible refine gate_callee (f := 53) rfl ?_); refine goesL_ (some 21) rfl rfl Try.func53 (by kernel_rfl) rfl #[.int .u8 (bt a0 x5_1)] rfl (by (try simp only [List.map_toArray, List.map_cons, List.map_nil]); first | done | rfl | (simp only [List.length_drop, List.length_take]; rfl)) ?_; (with_reducible refine (isoglossref02_digit.calls (bt a0 x5_1) false _ A7.out).mono ?_); rintro e w' ⟨rfl, ⟨nd, rfl⟩⟩; refine ⟨_, rfl, ?_⟩))
       go_roundg k1
       case measure => have := HK1.out; omega
       case rel => exact ⟨(wrap64 (x3_1 + 1)), (x4_1), (wrap64 (x5_1 + 1)), (by first | rfl | (simp; done) | (simp [*]; done)), (by first | rfl | (simp; done) | (simp [*]; done)), (by first | rfl | (simp; done) | (simp [*]; done)), H', ⟨by have := HK1.out; omega⟩, by repeat (first | exact Drawn0.refl _ | apply Drawn0.step)⟩
     ·replace c8 := Bool.eq_false_iff.mpr c8
      subst c8
      have H1 : (if t166 = true then (isoglossref02_Class.l0 k1 a0 x3_1 (wrap64 (x4_1 + 1)) (wrap64 (x5_1 + 1))) else (isoglossref02_Class.l0 k1 a0 x3_1 x4_1 (wrap64 (x5_1 + 1)))) = some r := by rw [if_neg (show ¬ (false = true) by decide)] at H; exact H
      clear H
      have H := H1
      clear H1
      by_cases c10 : t166 = true
      ·subst c10
       have H1 : (isoglossref02_Class.l0 k1 a0 x3_1 (wrap64 (x4_1 + 1)) (wrap64 (x5_1 + 1))) = some r := by rw [if_pos rfl] at H; exact H
       clear H
       have H := H1
       clear H1
       have H' := Aside0.mk H
       clear H
       have p4 : 0 ≤ (x5_1 : Int) := of_decide_eq_true (by first | (with_reducible assumption) | assumption)
       have q4 : x5_1 < (a0.size : Int) := of_decide_eq_true (by first | (with_reducible assumption) | assumption)
       have hx4 := bt_at a0 x5_1
       replace p4 := eq_true p4
       replace q4 := eq_true q4
       go_wp2_with (first | ((with_reducible refine gate_callee (f := 52) rfl ?_); refine goesL_ (some 17) rfl rfl Try.func52 (by kernel_rfl) rfl #[.int .u8 (bt a0 x5_1)] rfl (by (try simp only [List.map_toArray, List.map_cons, List.map_nil]); first | done | rfl | (simp only [List.length_drop, List.length_take]; rfl)) ?_; (with_reducible refine (isoglossref02_letter.calls (bt a0 x5_1) false _ A5.out).mono ?_); rintro e w' ⟨rfl, ⟨nd, rfl⟩⟩; refine ⟨_, rfl, ?_⟩; have p6 : 0 ≤ (x5_1 : Int) := of_decide_eq_true (by first | (with_reducible assumption) | assumption); have q6 : x5_1 < (a0.size : Int) := of_decide_eq_true (by first | (with_reducible assumption) | assumption); have hx6 := bt_at a0 x5_1; replace p6 := eq_true p6; replace q6 := eq_true q6) | ((with_reducible refine gate_callee (f := 53) rfl ?_); refine goesL_ (some 21) rfl rfl Try.func53 (by kernel_rfl) rfl #[.int .u8 (bt a0 x5_1)] rfl (by (try simp only [List.map_toArray, List.map_cons, List.map_nil]); first | done | rfl | (simp only [List.length_drop, List.length_take]; rfl)) ?_; (with_reducible refine (isoglossref02_digit.calls (bt a0 x5_1) true _ A7.out).mono ?_); rintro e w' ⟨rfl, ⟨nd, rfl⟩⟩; refine ⟨_, rfl, ?_⟩))
       go_roundg k1
       case measure => have := HK1.out; omega
       case rel => exact ⟨(x3_1), (wrap64 (x4_1 + 1)), (wrap64 (x5_1 + 1)), (by first | rfl | (simp; done) | (simp [*]; done)), (by first | rfl | (simp; done) | (simp [*]; done)), (by first | rfl | (simp; done) | (simp [*]; done)), H', ⟨by have := HK1.out; omega⟩, by repeat (first | exact Drawn0.refl _ | apply Drawn0.step)⟩
      ·replace c10 := Bool.eq_false_iff.mpr c10
       subst c10
       have H1 : (isoglossref02_Class.l0 k1 a0 x3_1 x4_1 (wrap64 (x5_1 + 1))) = some r := by rw [if_neg (show ¬ (false = true) by decide)] at H; exact H
       clear H
       have H := H1
       clear H1
       have H' := Aside0.mk H
       clear H
       have p4 : 0 ≤ (x5_1 : Int) := of_decide_eq_true (by first | (with_reducible assumption) | assumption)
       have q4 : x5_1 < (a0.size : Int) := of_decide_eq_true (by first | (with_reducible assumption) | assumption)
       have hx4 := bt_at a0 x5_1
       replace p4 := eq_true p4
       replace q4 := eq_true q4
       go_wp2_with (first | ((with_reducible refine gate_callee (f := 52) rfl ?_); refine goesL_ (some 17) rfl rfl Try.func52 (by kernel_rfl) rfl #[.int .u8 (bt a0 x5_1)] rfl (by (try simp only [List.map_toArray, List.map_cons, List.map_nil]); first | done | rfl | (simp only [List.length_drop, List.length_take]; rfl)) ?_; (with_reducible refine (isoglossref02_letter.calls (bt a0 x5_1) false _ A5.out).mono ?_); rintro e w' ⟨rfl, ⟨nd, rfl⟩⟩; refine ⟨_, rfl, ?_⟩; have p6 : 0 ≤ (x5_1 : Int) := of_decide_eq_true (by first | (with_reducible assumption) | assumption); have q6 : x5_1 < (a0.size : Int) := of_decide_eq_true (by first | (with_reducible assumption) | assumption); have hx6 := bt_at a0 x5_1; replace p6 := eq_true p6; replace q6 := eq_true q6) | ((with_reducible refine gate_callee (f := 53) rfl ?_); refine goesL_ (some 21) rfl rfl Try.func53 (by kernel_rfl) rfl #[.int .u8 (bt a0 x5_1)] rfl (by (try simp only [List.map_toArray, List.map_cons, List.map_nil]); first | done | rfl | (simp only [List.length_drop, List.length_take]; rfl)) ?_; (with_reducible refine (isoglossref02_digit.calls (bt a0 x5_1) false _ A7.out).mono ?_); rintro e w' ⟨rfl, ⟨nd, rfl⟩⟩; refine ⟨_, rfl, ?_⟩))
       go_roundg k1
       case measure => have := HK1.out; omega
       case rel => exact ⟨(x3_1), (x4_1), (wrap64 (x5_1 + 1)), (by first | rfl | (simp; done) | (simp [*]; done)), (by first | rfl | (simp; done) | (simp [*]; done)), (by first | rfl | (simp; done) | (simp [*]; done)), H', ⟨by have := HK1.out; omega⟩, by repeat (first | exact Drawn0.refl _ | apply Drawn0.step)⟩
    ·rw [if_neg c3] at H
     exact absurd H (by simp)
   ·rw [if_neg c2] at H
    have c2b0 : decide (x5_1 < (a0.size : Int)) = false := decide_eq_false c2
    clear c2
    have HC11 := Aside0.mk H
    clear H
    go_upto_region 12 with (fail)
    go_cut [37] (fun v37 wc => ∃ (kq : Nat) (x37_10 : Bool), v37 = .bool x37_10 ∧ Aside0 (isoglossref02_Class.j1 kq x3_1 x4_1 x37_10 = some r) ∧ Aside0 (kq ≤ k1) ∧ Drawn0 w wc)
    case first =>
     have H := HC11.out
     clear HC11
     by_cases c12 : a0.toList = ([] : List UInt8)
     ·rw [if_pos c12] at H
      have c12b0 : (a0.toList == ([] : List UInt8)) = true := beq_iff_eq.mpr c12
      have c12e0 : a0.toList.isEmpty = true := List.isEmpty_iff.2 c12
      have c12e1 : (!a0.toList.isEmpty) = false := by rw [c12e0]; rfl
      have c12b1 : (a0.toList != ([] : List UInt8)) = false := bne_eq_false_iff_eq.mpr c12
      clear c12
      (first | rw [c12e1] | rw [c12e0] | rw [c12b0] | rw [c12b1] | (simp only [i64_w, i32_w]; rw [c12b0]) | skip)
      have H' := Aside0.mk H
      clear H
      go_wp2
      go_meet
      case rel => exact ⟨_, (true), (by first | rfl | (simp; done) | (simp [*]; done)), H', ⟨by have := HK1.out; first | omega | exact Nat.le_refl _⟩, by repeat (first | exact Drawn0.refl _ | apply Drawn0.step)⟩
     ·rw [if_neg c12] at H
      have c12b0 : (a0.toList == ([] : List UInt8)) = false := beq_eq_false_iff_ne.mpr c12
      have c12e0 : a0.toList.isEmpty = false := List.isEmpty_eq_false_iff.2 c12
      have c12e1 : (!a0.toList.isEmpty) = true := by rw [c12e0]; rfl
      have c12b1 : (a0.toList != ([] : List UInt8)) = true := bne_iff_ne.mpr c12
      (first | rw [c12e1] | rw [c12e0] | rw [c12b0] | rw [c12b1] | (simp only [i64_w, i32_w]; rw [c12b0]) | skip)
      have H' := Aside0.mk H
      clear H
      go_wp2
      go_meet
      case rel => exact ⟨_, (decide ((wrap64 (x3_1 + x4_1)) < (a0.size : Int))), (by first | rfl | (simp; done) | (simp [*]; done)), H', ⟨by have := HK1.out; first | omega | exact Nat.le_refl _⟩, by repeat (first | exact Drawn0.refl _ | apply Drawn0.step)⟩
    case rest =>
     clear HC11
     try clear c1
     try clear c2
     try clear c2b0
     try clear p2
     try clear c3
     try clear c3b0
     try clear c4
     try clear p4
     try clear q4
     try clear hx4
     try clear c5
     try clear p6
     try clear q6
     try clear hx6
     try clear c8
     try clear c9
     try clear c10
     try clear c12
     try clear c12b0
     try clear c12b1
     try clear p4
     try clear p6
     try clear q4
     try clear q6
     obtain ⟨kq, x37_10, rfl, HA, HJ10, ⟨mc10, rfl⟩⟩ := hcut
     cases kq with
     | zero => exact absurd HA.out (by simp [isoglossref02_Class.j1])
     | succ kj10 =>
      have H := HA.out
      clear HA
      simp only [isoglossref02_Class.j1] at H
      by_cases c13 : x37_10 = true
      ·subst c13
       have H1 : (some 0) = some r := by rw [if_pos rfl] at H; exact H
       clear H
       have H := H1
       clear H1
       obtain rfl := Option.some.inj H
       go_wp2
       go_ret
       exact ⟨by first | rfl | (simp; done) | (simp [*]; done), by repeat (first | exact Drawn0.refl _ | apply Drawn0.step)⟩
      ·replace c13 := Bool.eq_false_iff.mpr c13
       subst c13
       have H1 : (if x4_1 = 0 then (some 1) else (if x3_1 = 0 then (some 2) else (some 3))) = some r := by rw [if_neg (show ¬ (false = true) by decide)] at H; exact H
       clear H
       have H := H1
       clear H1
       by_cases c14 : x4_1 = 0
       ·rw [if_pos c14] at H
        have c14b0 : (x4_1 == 0) = true := beq_iff_eq.mpr c14
        have c14b1 : (x4_1 != 0) = false := bne_eq_false_iff_eq.mpr c14
        clear c14
        obtain rfl := Option.some.inj H
        go_wp2
        go_ret
        exact ⟨by first | rfl | (simp; done) | (simp [*]; done), by repeat (first | exact Drawn0.refl _ | apply Drawn0.step)⟩
       ·rw [if_neg c14] at H
        have c14b0 : (x4_1 == 0) = false := beq_eq_false_iff_ne.mpr c14
        have c14b1 : (x4_1 != 0) = true := bne_iff_ne.mpr c14
        by_cases c15 : x3_1 = 0
        ·rw [if_pos c15] at H
         have c15b0 : (x3_1 == 0) = true := beq_iff_eq.mpr c15
         have c15b1 : (x3_1 != 0) = false := bne_eq_false_iff_eq.mpr c15
         clear c15
         obtain rfl := Option.some.inj H
         go_wp2
         go_ret
         exact ⟨by first | rfl | (simp; done) | (simp [*]; done), by repeat (first | exact Drawn0.refl _ | apply Drawn0.step)⟩
        ·rw [if_neg c15] at H
         have c15b0 : (x3_1 == 0) = false := beq_eq_false_iff_ne.mpr c15
         have c15b1 : (x3_1 != 0) = true := bne_iff_ne.mpr c15
         obtain rfl := Option.some.inj H
         go_wp2
         go_ret
         exact ⟨by first | rfl | (simp; done) | (simp [*]; done), by repeat (first | exact Drawn0.refl _ | apply Drawn0.step)⟩

/-! ### isoglossref20_word: function 38 -/
def isoglossref20_word.f (k : Nat) (a0 : ByteArray) (a1 : Bool) : Option (Bool) := (isoglossref02_Class.f k a0).bind fun t167 => (if (a0.size : Int) ≤ 8 then (if t167 = 1 then (some true) else (if t167 > 0 then (some (!a1)) else (some false))) else (some false))
theorem isoglossref20_word.mono : ∀ a0 a1 k, LeO (isoglossref20_word.f k a0 a1) (isoglossref20_word.f (k + 1) a0 a1) := by
 intro a0 a1 k
 unfold isoglossref20_word.f
 repeat' first
   | (with_reducible exact isoglossref02_Class.mono _ _)
   | (with_reducible exact LeO.refl _)
   | (with_reducible exact LeO.none _)
   | (with_reducible refine LeO.ite ?_ ?_)
   | (with_reducible refine LeO.bind ?_ (fun _ => ?_))
   | exact isoglossref02_Class.mono _ _
   | exact LeO.none _
   | refine LeO.ite ?_ ?_
   | refine LeO.bind ?_ (fun _ => ?_)
set_option maxHeartbeats 8000000 in
set_option maxRecDepth 100000 in
theorem isoglossref20_word.calls (k : Nat) (a0 : ByteArray) (a1 : Bool) (r : Bool) (w : World) (h : isoglossref20_word.f k a0 a1 = some r) :
  Calls Try.prog 38 #[.string a0, .bool a1] w fun e w' => e = .returned (.bool r) ∧ Drawn0 w w' := by
 have H : ((isoglossref02_Class.f k a0).bind fun t167 => (if (a0.size : Int) ≤ 8 then (if t167 = 1 then (some true) else (if t167 > 0 then (some (!a1)) else (some false))) else (some false))) = some r := h
 clear h
 replace H := Option.bind_eq_some_iff.mp H
 obtain ⟨t167, A30, H⟩ := H
 replace H : (if (a0.size : Int) ≤ 8 then (if t167 = 1 then (some true) else (if t167 > 0 then (some (!a1)) else (some false))) else (some false)) = some r := H
 have A3 := Aside0.mk A30
 clear A30
 by_cases c4 : (a0.size : Int) ≤ 8
 ·rw [if_pos c4] at H
  have c4b0 : decide ((a0.size : Int) ≤ 8) = true := decide_eq_true c4
  have c4b1 : decide (a0.size ≤ 8) = true := decide_eq_true (by omega)
  clear c4
  by_cases c5 : t167 = 1
  ·rw [if_pos c5] at H
   have c5b0 : (t167 == 1) = true := beq_iff_eq.mpr c5
   have c5b1 : (t167 != 1) = false := bne_eq_false_iff_eq.mpr c5
   clear c5
   obtain rfl := Option.some.inj H
   go_enter Try.func38, Try.ntmps38
   go_wp2_with (first | ((with_reducible refine gate_callee (f := 45) rfl ?_); refine goesL_ (some 7) rfl rfl Try.func45 (by kernel_rfl) rfl #[.string a0] rfl (by (try simp only [List.map_toArray, List.map_cons, List.map_nil]); first | done | rfl | (simp only [List.length_drop, List.length_take]; rfl)) ?_; (with_reducible refine (isoglossref02_Class.calls k a0 t167 _ A3.out).mono ?_); rintro e w' ⟨rfl, ⟨nd, rfl⟩⟩; refine ⟨_, rfl, ?_⟩))
   go_ret
   exact ⟨by first | rfl | (simp; done) | (simp [*]; done), by repeat (first | exact Drawn0.refl _ | apply Drawn0.step)⟩
  ·rw [if_neg c5] at H
   have c5b0 : (t167 == 1) = false := beq_eq_false_iff_ne.mpr c5
   have c5b1 : (t167 != 1) = true := bne_iff_ne.mpr c5
   by_cases c6 : t167 > 0
   ·rw [if_pos c6] at H
    have c6b0 : decide (0 < t167) = true := decide_eq_true c6
    clear c6
    obtain rfl := Option.some.inj H
    go_enter Try.func38, Try.ntmps38
    go_wp2_with (first | ((with_reducible refine gate_callee (f := 45) rfl ?_); refine goesL_ (some 7) rfl rfl Try.func45 (by kernel_rfl) rfl #[.string a0] rfl (by (try simp only [List.map_toArray, List.map_cons, List.map_nil]); first | done | rfl | (simp only [List.length_drop, List.length_take]; rfl)) ?_; (with_reducible refine (isoglossref02_Class.calls k a0 t167 _ A3.out).mono ?_); rintro e w' ⟨rfl, ⟨nd, rfl⟩⟩; refine ⟨_, rfl, ?_⟩))
    go_ret
    exact ⟨by first | rfl | (simp; done) | (simp [*]; done), by repeat (first | exact Drawn0.refl _ | apply Drawn0.step)⟩
   ·rw [if_neg c6] at H
    have c6b0 : decide (0 < t167) = false := decide_eq_false c6
    clear c6
    obtain rfl := Option.some.inj H
    go_enter Try.func38, Try.ntmps38
    go_wp2_with (first | ((with_reducible refine gate_callee (f := 45) rfl ?_); refine goesL_ (some 7) rfl rfl Try.func45 (by kernel_rfl) rfl #[.string a0] rfl (by (try simp only [List.map_toArray, List.map_cons, List.map_nil]); first | done | rfl | (simp only [List.length_drop, List.length_take]; rfl)) ?_; (with_reducible refine (isoglossref02_Class.calls k a0 t167 _ A3.out).mono ?_); rintro e w' ⟨rfl, ⟨nd, rfl⟩⟩; refine ⟨_, rfl, ?_⟩))
    go_ret
    exact ⟨by first | rfl | (simp; done) | (simp [*]; done), by repeat (first | exact Drawn0.refl _ | apply Drawn0.step)⟩
 ·rw [if_neg c4] at H
  have c4b0 : decide ((a0.size : Int) ≤ 8) = false := decide_eq_false c4
  have c4b1 : decide (a0.size ≤ 8) = false := decide_eq_false (by omega)
  clear c4
  obtain rfl := Option.some.inj H
  go_enter Try.func38, Try.ntmps38
  go_wp2_with (first | ((with_reducible refine gate_callee (f := 45) rfl ?_); refine goesL_ (some 7) rfl rfl Try.func45 (by kernel_rfl) rfl #[.string a0] rfl (by (try simp only [List.map_toArray, List.map_cons, List.map_nil]); first | done | rfl | (simp only [List.length_drop, List.length_take]; rfl)) ?_; (with_reducible refine (isoglossref02_Class.calls k a0 t167 _ A3.out).mono ?_); rintro e w' ⟨rfl, ⟨nd, rfl⟩⟩; refine ⟨_, rfl, ?_⟩))
  go_ret
  exact ⟨by first | rfl | (simp; done) | (simp [*]; done), by repeat (first | exact Drawn0.refl _ | apply Drawn0.step)⟩

/-! ### isoglossref20_Basic: function 25 -/
def isoglossref20_Basic.l0 : Nat → List ByteArray → Int → Option (Bool)
 | 0, _, _ => none
 | k + 1, x3, x4 => if x4 < (x3.length : Int) then (if 0 ≤ x4 then ((isoglossref20_word.f k (rdOf ByteArray.empty x3 x4) (x4 == 0)).bind fun t172 => (if t172 = true then (isoglossref20_Basic.l0 k x3 (wrap64 (x4 + 1))) else (some false))) else (none)) else (some true)
def isoglossref20_Basic.f (k : Nat) (a0 : ByteArray) : Option (Bool) := if a0.toList = ([42] : List UInt8) then (some true) else ((isoglossref04_Split.f k a0).bind fun t168 => (isoglossref20_Basic.l0 k t168 0))
theorem isoglossref20_Basic.mono_l : ∀ k, (∀ y0 y1, LeO (isoglossref20_Basic.l0 k y0 y1) (isoglossref20_Basic.l0 (k + 1) y0 y1))
 | 0 => fun _ _ r h => by simp [isoglossref20_Basic.l0] at h
 | k + 1 => by
  have ih0 := isoglossref20_Basic.mono_l k
  ·intro y0 y1
   unfold isoglossref20_Basic.l0
   repeat' first
   | (with_reducible exact ih0 _ _)
   | (with_reducible exact isoglossref04_Split.mono _ _)
   | (with_reducible exact isoglossref20_word.mono _ _ _)
   | (with_reducible exact LeO.refl _)
   | (with_reducible exact LeO.none _)
   | (with_reducible refine LeO.ite ?_ ?_)
   | (with_reducible refine LeO.bind ?_ (fun _ => ?_))
   | exact ih0 _ _
   | exact isoglossref04_Split.mono _ _
   | exact isoglossref20_word.mono _ _ _
   | exact LeO.none _
   | refine LeO.ite ?_ ?_
   | refine LeO.bind ?_ (fun _ => ?_)
theorem isoglossref20_Basic.mono : ∀ a0 k, LeO (isoglossref20_Basic.f k a0) (isoglossref20_Basic.f (k + 1) a0) := by
 intro a0 k
 have ih0 := isoglossref20_Basic.mono_l k
 unfold isoglossref20_Basic.f
 repeat' first
   | (with_reducible exact ih0 _ _)
   | (with_reducible exact isoglossref04_Split.mono _ _)
   | (with_reducible exact isoglossref20_word.mono _ _ _)
   | (with_reducible exact LeO.refl _)
   | (with_reducible exact LeO.none _)
   | (with_reducible refine LeO.ite ?_ ?_)
   | (with_reducible refine LeO.bind ?_ (fun _ => ?_))
   | exact ih0 _ _
   | exact isoglossref04_Split.mono _ _
   | exact isoglossref20_word.mono _ _ _
   | exact LeO.none _
   | refine LeO.ite ?_ ?_
   | refine LeO.bind ?_ (fun _ => ?_)
set_option maxHeartbeats 8000000 in
set_option maxRecDepth 100000 in
theorem isoglossref20_Basic.calls (k : Nat) (a0 : ByteArray) (r : Bool) (w : World) (h : isoglossref20_Basic.f k a0 = some r) :
  Calls Try.prog 25 #[.string a0] w fun e w' => e = .returned (.bool r) ∧ Below w.heap.size w w' := by
 have HB := Aside0.mk (Below.refl w.heap.size w)
 have H : (if a0.toList = ([42] : List UInt8) then (some true) else ((isoglossref04_Split.f k a0).bind fun t168 => (isoglossref20_Basic.l0 k t168 0))) = some r := h
 clear h
 by_cases c2 : a0.toList = ([42] : List UInt8)
 ·rw [if_pos c2] at H
  have c2b0 : (a0.toList == ([42] : List UInt8)) = true := beq_iff_eq.mpr c2
  have c2b1 : (a0.toList != ([42] : List UInt8)) = false := bne_eq_false_iff_eq.mpr c2
  clear c2
  obtain rfl := Option.some.inj H
  go_enter Try.func25, Try.ntmps25
  go_wp2
  go_ret
  exact ⟨by first | rfl | (simp [errW_none, errW_some] <;> rfl) | (simp [*, errW_none, errW_some] <;> rfl), by repeat (first | (with_reducible first | exact HB.out | apply below_alloc | apply pw_below_drewN | apply below_drew1) | exact HB.out)⟩
 ·rw [if_neg c2] at H
  have c2b0 : (a0.toList == ([42] : List UInt8)) = false := beq_eq_false_iff_ne.mpr c2
  have c2b1 : (a0.toList != ([42] : List UInt8)) = true := bne_iff_ne.mpr c2
  replace H := Option.bind_eq_some_iff.mp H
  obtain ⟨t168, A30, H⟩ := H
  replace H : (isoglossref20_Basic.l0 k t168 0) = some r := H
  have A3 := Aside0.mk A30
  clear A30
  have H' := Aside0.mk H
  clear H
  go_enter Try.func25, Try.ntmps25
  go_wp2_with (first | ((with_reducible refine gate_callee (f := 16) rfl ?_); refine goesL_ (some 9) rfl rfl Try.func16 (by kernel_rfl) rfl #[.string a0] rfl (by (try simp only [List.map_toArray, List.map_cons, List.map_nil]); first | done | rfl | (simp only [List.length_drop, List.length_take]; rfl)) ?_; (with_reducible refine (isoglossref04_Split.calls k a0 t168 _ A3.out).mono ?_); rintro e w4 ⟨v169, rfl, ho0, hb⟩; refine ⟨_, rfl, ?_⟩; have n0_ := Aside0.mk (Kd.R_lower ho0 (below_size (by repeat (first | (with_reducible first | exact HB.out | apply below_alloc | apply pw_below_drewN | apply below_drew1) | exact HB.out)))); have n1_ := Aside0.mk (below_step (by repeat (first | (with_reducible first | exact HB.out | apply below_alloc | apply pw_below_drewN | apply below_drew1) | exact HB.out)) hb); clear HB; have HO170 := n0_; have HB := n1_; clear n0_ n1_; (try clear hb); (try clear hb2); (try clear hk); (try clear hi); (try clear ho0)))
  go_loopg [4] k (fun kq v4 w' => ∃ (x4_1 : Int), v4 = .int .i64 x4_1 ∧ Aside0 (isoglossref20_Basic.l0 kq t168 x4_1 = some r) ∧ Aside0 (kq ≤ k) ∧ Aside0 (Kd.R Kd.string 9 w' w.heap.size (fun _ => True) v169 t168) ∧ Aside0 (Below w.heap.size w w'))
  case atStart => exact ⟨(0), (by first | rfl | (simp; done) | (simp [*]; done)), H', ⟨Nat.le_refl _⟩, ⟨by (with_reducible repeat (first | apply Kd.R_alloc | apply Kd.R_drewN | apply Kd.R_drew)); exact HO170.out⟩, ⟨by repeat (first | (with_reducible first | exact HB.out | apply below_alloc | apply pw_below_drewN | apply below_drew1) | exact HB.out)⟩⟩
  case round =>
   clear H'
   try clear c1
   try clear c2
   try clear c2b0
   try clear c2b1
   try clear p2
   obtain ⟨x4_1, rfl, HA, HK1, HO_3, HB⟩ := hrel
   cases gk with
   | zero => exact absurd HA.out (by simp [isoglossref20_Basic.l0])
   | succ k1 =>
    have H := HA.out
    clear HA
    simp only [isoglossref20_Basic.l0] at H
    by_cases c5 : x4_1 < (t168.length : Int)
    ·rw [if_pos c5] at H
     have c5b0 : decide (x4_1 < (t168.length : Int)) = true := decide_eq_true c5
     clear c5
     by_cases c6 : 0 ≤ x4_1
     ·rw [if_pos c6] at H
      have c6b0 : decide (0 ≤ x4_1) = true := decide_eq_true c6
      clear c6
      replace H := Option.bind_eq_some_iff.mp H
      obtain ⟨t172, A70, H⟩ := H
      replace H : (if t172 = true then (isoglossref20_Basic.l0 k1 t168 (wrap64 (x4_1 + 1))) else (some false)) = some r := H
      have A7 := Aside0.mk A70
      clear A70
      by_cases c8 : t172 = true
      ·subst c8
       have H1 : (isoglossref20_Basic.l0 k1 t168 (wrap64 (x4_1 + 1))) = some r := by rw [if_pos rfl] at H; exact H
       clear H
       have H := H1
       clear H1
       have H' := Aside0.mk H
       clear H
       obtain ⟨Ao9, co9, eo9⟩ := Kd.R_slice HO_3.out
       subst eo9
       have p171 : 0 ≤ (x4_1 : Int) := of_decide_eq_true (by first | (with_reducible assumption) | assumption)
       have q171 : x4_1 < (t168.length : Int) := of_decide_eq_true (by first | (with_reducible assumption) | assumption)
       obtain ⟨ad171, e171, hx171_0⟩ := Kd.at_string (Kd.R_reads' HO_3.out).2.2 x4_1 p171 q171
       cases e171
       replace p171 := eq_true p171
       replace q171 := eq_true q171
       go_wp2_with (first | ((with_reducible refine gate_callee (f := 38) rfl ?_); refine goesL_ (some 22) rfl rfl Try.func38 (by kernel_rfl) rfl #[.string (rdOf ByteArray.empty t168 x4_1), .bool (x4_1 == 0)] rfl (by (try simp only [List.map_toArray, List.map_cons, List.map_nil]); first | done | rfl | (simp only [List.length_drop, List.length_take]; rfl)) ?_; (with_reducible refine (isoglossref20_word.calls k1 (rdOf ByteArray.empty t168 x4_1) (x4_1 == 0) true _ A7.out).mono ?_); rintro e w' ⟨rfl, ⟨nd, rfl⟩⟩; refine ⟨_, rfl, ?_⟩))
       go_roundg k1
       case measure => have := HK1.out; omega
       case rel => exact ⟨(wrap64 (x4_1 + 1)), (by first | rfl | (simp; done) | (simp [*]; done)), H', ⟨by have := HK1.out; omega⟩, ⟨by (with_reducible repeat (first | apply Kd.R_alloc | apply Kd.R_drewN | apply Kd.R_drew)); exact HO_3.out⟩, ⟨by repeat (first | (with_reducible first | exact HB.out | apply below_alloc | apply pw_below_drewN | apply below_drew1) | exact HB.out)⟩⟩
      ·replace c8 := Bool.eq_false_iff.mpr c8
       subst c8
       have H1 : (some false) = some r := by rw [if_neg (show ¬ (false = true) by decide)] at H; exact H
       clear H
       have H := H1
       clear H1
       obtain rfl := Option.some.inj H
       obtain ⟨Ao10, co10, eo10⟩ := Kd.R_slice HO_3.out
       subst eo10
       have p171 : 0 ≤ (x4_1 : Int) := of_decide_eq_true (by first | (with_reducible assumption) | assumption)
       have q171 : x4_1 < (t168.length : Int) := of_decide_eq_true (by first | (with_reducible assumption) | assumption)
       obtain ⟨ad171, e171, hx171_0⟩ := Kd.at_string (Kd.R_reads' HO_3.out).2.2 x4_1 p171 q171
       cases e171
       replace p171 := eq_true p171
       replace q171 := eq_true q171
       go_wp2_with (first | ((with_reducible refine gate_callee (f := 38) rfl ?_); refine goesL_ (some 22) rfl rfl Try.func38 (by kernel_rfl) rfl #[.string (rdOf ByteArray.empty t168 x4_1), .bool (x4_1 == 0)] rfl (by (try simp only [List.map_toArray, List.map_cons, List.map_nil]); first | done | rfl | (simp only [List.length_drop, List.length_take]; rfl)) ?_; (with_reducible refine (isoglossref20_word.calls k1 (rdOf ByteArray.empty t168 x4_1) (x4_1 == 0) false _ A7.out).mono ?_); rintro e w' ⟨rfl, ⟨nd, rfl⟩⟩; refine ⟨_, rfl, ?_⟩))
       go_ret
       exact ⟨by first | rfl | (simp [errW_none, errW_some] <;> rfl) | (simp [*, errW_none, errW_some] <;> rfl), by repeat (first | (with_reducible first | exact HB.out | apply below_alloc | apply pw_below_drewN | apply below_drew1) | exact HB.out)⟩
     ·rw [if_neg c6] at H
      exact absurd H (by simp)
    ·rw [if_neg c5] at H
     have c5b0 : decide (x4_1 < (t168.length : Int)) = false := decide_eq_false c5
     clear c5
     obtain rfl := Option.some.inj H
     obtain ⟨Ao11, co11, eo11⟩ := Kd.R_slice HO_3.out
     subst eo11
     go_wp2
     go_ret
     exact ⟨by first | rfl | (simp [errW_none, errW_some] <;> rfl) | (simp [*, errW_none, errW_some] <;> rfl), by repeat (first | (with_reducible first | exact HB.out | apply below_alloc | apply pw_below_drewN | apply below_drew1) | exact HB.out)⟩

/-! ### isoglossref20_Extended: function 26 -/
def isoglossref20_Extended.l0 : Nat → List ByteArray → Int → Option (Bool)
 | 0, _, _ => none
 | k + 1, x3, x4 => if x4 < (x3.length : Int) then (if 0 ≤ x4 then (if (rdOf ByteArray.empty x3 x4).toList = ([42] : List UInt8) then (isoglossref20_Extended.l0 k x3 (wrap64 (x4 + 1))) else ((isoglossref20_word.f k (rdOf ByteArray.empty x3 x4) (x4 == 0)).bind fun t178 => (if t178 = true then (isoglossref20_Extended.l0 k x3 (wrap64 (x4 + 1))) else (some false)))) else (none)) else (some true)
def isoglossref20_Extended.f (k : Nat) (a0 : ByteArray) : Option (Bool) := (isoglossref04_Split.f k a0).bind fun t173 => (isoglossref20_Extended.l0 k t173 0)
theorem isoglossref20_Extended.mono_l : ∀ k, (∀ y0 y1, LeO (isoglossref20_Extended.l0 k y0 y1) (isoglossref20_Extended.l0 (k + 1) y0 y1))
 | 0 => fun _ _ r h => by simp [isoglossref20_Extended.l0] at h
 | k + 1 => by
  have ih0 := isoglossref20_Extended.mono_l k
  ·intro y0 y1
   unfold isoglossref20_Extended.l0
   repeat' first
   | (with_reducible exact ih0 _ _)
   | (with_reducible exact isoglossref04_Split.mono _ _)
   | (with_reducible exact isoglossref20_word.mono _ _ _)
   | (with_reducible exact LeO.refl _)
   | (with_reducible exact LeO.none _)
   | (with_reducible refine LeO.ite ?_ ?_)
   | (with_reducible refine LeO.bind ?_ (fun _ => ?_))
   | exact ih0 _ _
   | exact isoglossref04_Split.mono _ _
   | exact isoglossref20_word.mono _ _ _
   | exact LeO.none _
   | refine LeO.ite ?_ ?_
   | refine LeO.bind ?_ (fun _ => ?_)
theorem isoglossref20_Extended.mono : ∀ a0 k, LeO (isoglossref20_Extended.f k a0) (isoglossref20_Extended.f (k + 1) a0) := by
 intro a0 k
 have ih0 := isoglossref20_Extended.mono_l k
 unfold isoglossref20_Extended.f
 repeat' first
   | (with_reducible exact ih0 _ _)
   | (with_reducible exact isoglossref04_Split.mono _ _)
   | (with_reducible exact isoglossref20_word.mono _ _ _)
   | (with_reducible exact LeO.refl _)
   | (with_reducible exact LeO.none _)
   | (with_reducible refine LeO.ite ?_ ?_)
   | (with_reducible refine LeO.bind ?_ (fun _ => ?_))
   | exact ih0 _ _
   | exact isoglossref04_Split.mono _ _
   | exact isoglossref20_word.mono _ _ _
   | exact LeO.none _
   | refine LeO.ite ?_ ?_
   | refine LeO.bind ?_ (fun _ => ?_)
set_option maxHeartbeats 8000000 in
set_option maxRecDepth 100000 in
theorem isoglossref20_Extended.calls (k : Nat) (a0 : ByteArray) (r : Bool) (w : World) (h : isoglossref20_Extended.f k a0 = some r) :
  Calls Try.prog 26 #[.string a0] w fun e w' => e = .returned (.bool r) ∧ Below w.heap.size w w' := by
 have HB := Aside0.mk (Below.refl w.heap.size w)
 have H : ((isoglossref04_Split.f k a0).bind fun t173 => (isoglossref20_Extended.l0 k t173 0)) = some r := h
 clear h
 replace H := Option.bind_eq_some_iff.mp H
 obtain ⟨t173, A20, H⟩ := H
 replace H : (isoglossref20_Extended.l0 k t173 0) = some r := H
 have A2 := Aside0.mk A20
 clear A20
 have H' := Aside0.mk H
 clear H
 go_enter Try.func26, Try.ntmps26
 go_wp2_with (first | ((with_reducible refine gate_callee (f := 16) rfl ?_); refine goesL_ (some 7) rfl rfl Try.func16 (by kernel_rfl) rfl #[.string a0] rfl (by (try simp only [List.map_toArray, List.map_cons, List.map_nil]); first | done | rfl | (simp only [List.length_drop, List.length_take]; rfl)) ?_; (with_reducible refine (isoglossref04_Split.calls k a0 t173 _ A2.out).mono ?_); rintro e w3 ⟨v174, rfl, ho0, hb⟩; refine ⟨_, rfl, ?_⟩; have n0_ := Aside0.mk (Kd.R_lower ho0 (below_size (by repeat (first | (with_reducible first | exact HB.out | apply below_alloc | apply pw_below_drewN | apply below_drew1) | exact HB.out)))); have n1_ := Aside0.mk (below_step (by repeat (first | (with_reducible first | exact HB.out | apply below_alloc | apply pw_below_drewN | apply below_drew1) | exact HB.out)) hb); clear HB; have HO175 := n0_; have HB := n1_; clear n0_ n1_; (try clear hb); (try clear hb2); (try clear hk); (try clear hi); (try clear ho0)))
 go_loopg [4] k (fun kq v4 w' => ∃ (x4_1 : Int), v4 = .int .i64 x4_1 ∧ Aside0 (isoglossref20_Extended.l0 kq t173 x4_1 = some r) ∧ Aside0 (kq ≤ k) ∧ Aside0 (Kd.R Kd.string 9 w' w.heap.size (fun _ => True) v174 t173) ∧ Aside0 (Below w.heap.size w w'))
 case atStart => exact ⟨(0), (by first | rfl | (simp; done) | (simp [*]; done)), H', ⟨Nat.le_refl _⟩, ⟨by (with_reducible repeat (first | apply Kd.R_alloc | apply Kd.R_drewN | apply Kd.R_drew)); exact HO175.out⟩, ⟨by repeat (first | (with_reducible first | exact HB.out | apply below_alloc | apply pw_below_drewN | apply below_drew1) | exact HB.out)⟩⟩
 case round =>
  clear H'
  try clear c1
  try clear c2
  try clear p2
  obtain ⟨x4_1, rfl, HA, HK1, HO_3, HB⟩ := hrel
  cases gk with
  | zero => exact absurd HA.out (by simp [isoglossref20_Extended.l0])
  | succ k1 =>
   have H := HA.out
   clear HA
   simp only [isoglossref20_Extended.l0] at H
   by_cases c4 : x4_1 < (t173.length : Int)
   ·rw [if_pos c4] at H
    have c4b0 : decide (x4_1 < (t173.length : Int)) = true := decide_eq_true c4
    clear c4
    by_cases c5 : 0 ≤ x4_1
    ·rw [if_pos c5] at H
     have c5b0 : decide (0 ≤ x4_1) = true := decide_eq_true c5
     clear c5
     by_cases c6 : (rdOf ByteArray.empty t173 x4_1).toList = ([42] : List UInt8)
     ·rw [if_pos c6] at H
      have c6b0 : ((rdOf ByteArray.empty t173 x4_1).toList == ([42] : List UInt8)) = true := beq_iff_eq.mpr c6
      have c6b1 : ((rdOf ByteArray.empty t173 x4_1).toList != ([42] : List UInt8)) = false := bne_eq_false_iff_eq.mpr c6
      clear c6
      have H' := Aside0.mk H
      clear H
      obtain ⟨Ao7, co7, eo7⟩ := Kd.R_slice HO_3.out
      subst eo7
      have p176 : 0 ≤ (x4_1 : Int) := of_decide_eq_true (by first | (with_reducible assumption) | assumption)
      have q176 : x4_1 < (t173.length : Int) := of_decide_eq_true (by first | (with_reducible assumption) | assumption)
      obtain ⟨ad176, e176, hx176_0⟩ := Kd.at_string (Kd.R_reads' HO_3.out).2.2 x4_1 p176 q176
      cases e176
      replace p176 := eq_true p176
      replace q176 := eq_true q176
      go_wp2
      go_roundg k1
      case measure => have := HK1.out; omega
      case rel => exact ⟨(wrap64 (x4_1 + 1)), (by first | rfl | (simp; done) | (simp [*]; done)), H', ⟨by have := HK1.out; omega⟩, ⟨by (with_reducible repeat (first | apply Kd.R_alloc | apply Kd.R_drewN | apply Kd.R_drew)); exact HO_3.out⟩, ⟨by repeat (first | (with_reducible first | exact HB.out | apply below_alloc | apply pw_below_drewN | apply below_drew1) | exact HB.out)⟩⟩
     ·rw [if_neg c6] at H
      have c6b0 : ((rdOf ByteArray.empty t173 x4_1).toList == ([42] : List UInt8)) = false := beq_eq_false_iff_ne.mpr c6
      have c6b1 : ((rdOf ByteArray.empty t173 x4_1).toList != ([42] : List UInt8)) = true := bne_iff_ne.mpr c6
      replace H := Option.bind_eq_some_iff.mp H
      obtain ⟨t178, A80, H⟩ := H
      replace H : (if t178 = true then (isoglossref20_Extended.l0 k1 t173 (wrap64 (x4_1 + 1))) else (some false)) = some r := H
      have A8 := Aside0.mk A80
      clear A80
      by_cases c9 : t178 = true
      ·subst c9
       have H1 : (isoglossref20_Extended.l0 k1 t173 (wrap64 (x4_1 + 1))) = some r := by rw [if_pos rfl] at H; exact H
       clear H
       have H := H1
       clear H1
       have H' := Aside0.mk H
       clear H
       obtain ⟨Ao10, co10, eo10⟩ := Kd.R_slice HO_3.out
       subst eo10
       have p176 : 0 ≤ (x4_1 : Int) := of_decide_eq_true (by first | (with_reducible assumption) | assumption)
       have q176 : x4_1 < (t173.length : Int) := of_decide_eq_true (by first | (with_reducible assumption) | assumption)
       obtain ⟨ad176, e176, hx176_0⟩ := Kd.at_string (Kd.R_reads' HO_3.out).2.2 x4_1 p176 q176
       cases e176
       replace p176 := eq_true p176
       replace q176 := eq_true q176
       have p177 : 0 ≤ (x4_1 : Int) := of_decide_eq_true (by first | (with_reducible assumption) | assumption)
       have q177 : x4_1 < (t173.length : Int) := of_decide_eq_true (by first | (with_reducible assumption) | assumption)
       obtain ⟨ad177, e177, hx177_0⟩ := Kd.at_string (Kd.R_reads' HO_3.out).2.2 x4_1 p177 q177
       obtain rfl : ad176 = ad177 := (by injection e177)
       replace p177 := eq_true p177
       replace q177 := eq_true q177
       go_wp2_with (first | (go_at_call 38; (with_reducible refine (isoglossref20_word.calls k1 (rdOf ByteArray.empty t173 x4_1) (x4_1 == 0) true _ A8.out).mono ?_); rintro e w' ⟨rfl, ⟨nd, rfl⟩⟩))
       go_roundg k1
       case measure => have := HK1.out; omega
       case rel => exact ⟨(wrap64 (x4_1 + 1)), (by first | rfl | (simp; done) | (simp [*]; done)), H', ⟨by have := HK1.out; omega⟩, ⟨by (with_reducible repeat (first | apply Kd.R_alloc | apply Kd.R_drewN | apply Kd.R_drew)); exact HO_3.out⟩, ⟨by repeat (first | (with_reducible first | exact HB.out | apply below_alloc | apply pw_below_drewN | apply below_drew1) | exact HB.out)⟩⟩
      ·replace c9 := Bool.eq_false_iff.mpr c9
       subst c9
       have H1 : (some false) = some r := by rw [if_neg (show ¬ (false = true) by decide)] at H; exact H
       clear H
       have H := H1
       clear H1
       obtain rfl := Option.some.inj H
       obtain ⟨Ao11, co11, eo11⟩ := Kd.R_slice HO_3.out
       subst eo11
       have p176 : 0 ≤ (x4_1 : Int) := of_decide_eq_true (by first | (with_reducible assumption) | assumption)
       have q176 : x4_1 < (t173.length : Int) := of_decide_eq_true (by first | (with_reducible assumption) | assumption)
       obtain ⟨ad176, e176, hx176_0⟩ := Kd.at_string (Kd.R_reads' HO_3.out).2.2 x4_1 p176 q176
       cases e176
       replace p176 := eq_true p176
       replace q176 := eq_true q176
       have p177 : 0 ≤ (x4_1 : Int) := of_decide_eq_true (by first | (with_reducible assumption) | assumption)
       have q177 : x4_1 < (t173.length : Int) := of_decide_eq_true (by first | (with_reducible assumption) | assumption)
       obtain ⟨ad177, e177, hx177_0⟩ := Kd.at_string (Kd.R_reads' HO_3.out).2.2 x4_1 p177 q177
       obtain rfl : ad176 = ad177 := (by injection e177)
       replace p177 := eq_true p177
       replace q177 := eq_true q177
       go_wp2_with (first | (go_at_call 38; (with_reducible refine (isoglossref20_word.calls k1 (rdOf ByteArray.empty t173 x4_1) (x4_1 == 0) false _ A8.out).mono ?_); rintro e w' ⟨rfl, ⟨nd, rfl⟩⟩))
       go_ret
       exact ⟨by first | rfl | (simp [errW_none, errW_some] <;> rfl) | (simp [*, errW_none, errW_some] <;> rfl), by repeat (first | (with_reducible first | exact HB.out | apply below_alloc | apply pw_below_drewN | apply below_drew1) | exact HB.out)⟩
    ·rw [if_neg c5] at H
     exact absurd H (by simp)
   ·rw [if_neg c4] at H
    have c4b0 : decide (x4_1 < (t173.length : Int)) = false := decide_eq_false c4
    clear c4
    obtain rfl := Option.some.inj H
    obtain ⟨Ao12, co12, eo12⟩ := Kd.R_slice HO_3.out
    subst eo12
    go_wp2
    go_ret
    exact ⟨by first | rfl | (simp [errW_none, errW_some] <;> rfl) | (simp [*, errW_none, errW_some] <;> rfl), by repeat (first | (with_reducible first | exact HB.out | apply below_alloc | apply pw_below_drewN | apply below_drew1) | exact HB.out)⟩

/-! ### isoglossref02_lower: function 32 -/
def isoglossref02_lower.f (a0 : Int) : Option (Int) := if a0 ≥ 65 then (if a0 ≤ 90 then (some ((((a0 - 65) % 256) + 97) % 256)) else (some a0)) else (some a0)
set_option maxHeartbeats 8000000 in
set_option maxRecDepth 100000 in
theorem isoglossref02_lower.calls (a0 : Int) (r : Int) (w : World) (h : isoglossref02_lower.f a0 = some r) :
  Calls Try.prog 32 #[.int .u8 a0] w fun e w' => e = .returned (.int .u8 r) ∧ Drawn0 w w' := by
 have H : (if a0 ≥ 65 then (if a0 ≤ 90 then (some ((((a0 - 65) % 256) + 97) % 256)) else (some a0)) else (some a0)) = some r := h
 clear h
 by_cases c2 : a0 ≥ 65
 ·rw [if_pos c2] at H
  have c2b0 : decide (65 ≤ a0) = true := decide_eq_true c2
  clear c2
  by_cases c3 : a0 ≤ 90
  ·rw [if_pos c3] at H
   have c3b0 : decide (a0 ≤ 90) = true := decide_eq_true c3
   clear c3
   obtain rfl := Option.some.inj H
   go_enter Try.func32, Try.ntmps32
   go_wp2
   go_ret
   exact ⟨by first | rfl | (simp; done) | (simp [*]; done), by repeat (first | exact Drawn0.refl _ | apply Drawn0.step)⟩
  ·rw [if_neg c3] at H
   have c3b0 : decide (a0 ≤ 90) = false := decide_eq_false c3
   clear c3
   obtain rfl := Option.some.inj H
   go_enter Try.func32, Try.ntmps32
   go_wp2
   go_ret
   exact ⟨by first | rfl | (simp; done) | (simp [*]; done), by repeat (first | exact Drawn0.refl _ | apply Drawn0.step)⟩
 ·rw [if_neg c2] at H
  have c2b0 : decide (65 ≤ a0) = false := decide_eq_false c2
  clear c2
  obtain rfl := Option.some.inj H
  go_enter Try.func32, Try.ntmps32
  go_wp2
  go_ret
  exact ⟨by first | rfl | (simp; done) | (simp [*]; done), by repeat (first | exact Drawn0.refl _ | apply Drawn0.step)⟩

end Go.Proofs.Ytanahbcdilcmoaa.P
