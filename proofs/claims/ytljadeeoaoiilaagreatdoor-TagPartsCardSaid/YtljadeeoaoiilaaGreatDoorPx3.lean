-- Written for this claim by the session's own run of the print, functions proved by hand put in.
import Derived.Test.YtljadeeoaoiilaaGreatDoorSq
import Derived.Test.YtljadeeoaoiilaaGreatDoorPx0
namespace Go.Proofs.YtljadeeoaoiilaaGreatDoor.P
open Go.RowKit Go.Proofs.YtljadeeoaoiilaaGreatDoorW.PrintWords Go.Proofs.YtljadeeoaoiilaaGreatDoorW.PrintLast Go.Proofs.YtljadeeoaoiilaaGreatDoorW.PrintMore
open List renaming setIfInBounds_toArray → sA_, set_cons_zero → sB_, set_cons_succ → sC_
open Go.Proofs.YtljadeeoaoiilaaGreatDoorW.PrintWords renaming below_alloc → wA_, pw_below_drewN → wN_, below_drew1 → wD_, below_size → wZ_, below_step → wT_
open Go.Proofs.YtljadeeoaoiilaaGreatDoorW.PrintWords.Kd renaming R_alloc → rA_, R_drewN → rN_, R_drew → rD_
attribute [local go_sem] max2_int min2_int max_two min_two max_three min_three max_four min_four   -- for this text's walks alone
set_option linter.unusedVariables false
set_option linter.unusedSimpArgs false
def r6_Pick.f (l0 : List ByteArray) (a1 : Int) : Option (ByteArray) := if (l0.length : Int) = 0 then (none) else (if 0 ≤ (Int.tmod (wrap64 ((Int.tmod a1 (l0.length : Int)) + (l0.length : Int))) (l0.length : Int)) then (if (Int.tmod (wrap64 ((Int.tmod a1 (l0.length : Int)) + (l0.length : Int))) (l0.length : Int)) < (l0.length : Int) then (some (rdOf ByteArray.empty l0 (Int.tmod (wrap64 ((Int.tmod a1 (l0.length : Int)) + (l0.length : Int))) (l0.length : Int)))) else (none)) else (none))
set_option maxHeartbeats 8000000 in
set_option maxRecDepth 100000 in
theorem r6_Pick.calls (A0 : Option Addr) (c0 : Nat) (l0 : List ByteArray) (a1 : Int) (r : ByteArray) (w : World) (hr0 : Kd.C Kd.string w A0 l0.length l0) (hc0 : l0.length ≤ c0) (h : r6_Pick.f l0 a1 = some r) :
  Calls Tryz.prog 17 #[.slice A0 l0.length c0, .int .i64 a1] w fun e w' => e = .returned (.string r) ∧ Drawn0 w w' := by
 have be := Aside0.mk hr0
 have bn := Aside0.mk hc0
 clear hr0 hc0
 have H := h; unfold r6_Pick.f at H
 clear h
 by_cases c3 : (l0.length : Int) = 0
 ·rw [if_pos c3] at H
  exact absurd H (by simp)
 ·rw [if_neg c3] at H
  have ax : ((l0.length : Int) == 0) = false := beq_eq_false_iff_ne.mpr c3
  have a3 : ((l0.length : Int) != 0) = true := bne_iff_ne.mpr c3
  have bf : ¬ (l0 = []) := fun h_ => c3 (by rw [h_]; rfl)
  obtain ⟨ji4, hji4⟩ : ∃ j_ : Int, (Int.tmod (wrap64 ((Int.tmod a1 (l0.length : Int)) + (l0.length : Int))) (l0.length : Int)) = j_ := ⟨_, rfl⟩
  replace H : (if 0 ≤ (ji4) then (if (ji4) < (l0.length : Int) then (some (rdOf ByteArray.empty l0 (ji4))) else (none)) else (none)) = some r := by first | (rw [hji4] at H; exact H) | (simp only [hji4] at H ⊢; exact H)
  by_cases c5 : 0 ≤ (ji4)
  ·rw [if_pos c5] at H
   have bg : decide (0 ≤ (ji4)) = true := decide_eq_true c5
   clear c5
   by_cases c6 : (ji4) < (l0.length : Int)
   ·rw [if_pos c6] at H
    have a4 : decide ((ji4) < (l0.length : Int)) = true := decide_eq_true c6
    clear c6
    obtain rfl := Option.some.inj H
    have p144 : 0 ≤ ((ji4) : Int) := of_decide_eq_true Qa
    have q144 : (ji4) < (l0.length : Int) := of_decide_eq_true Qa
    obtain ⟨ad144, e144, hx144_0⟩ := Kd.at_string be.out (ji4) p144 q144
    cases e144
    replace p144 := eq_true p144
    replace q144 := eq_true q144
    go_enter Tryz.func17, Tryz.ntmps17
    go_wp2
    go_ret
    exact ⟨by first | rfl | (simp; done) | (simp only [← hji4] <;> (first | rfl | simp)) | (simp [*]; done), Q0⟩
   ·rw [if_neg c6] at H
    exact absurd H (by simp)
  ·rw [if_neg c5] at H
   exact absurd H (by simp)
def r6_langs.f  : Option (List ByteArray) := some (([(⟨#[101, 110]⟩ : ByteArray), (⟨#[122, 104]⟩ : ByteArray), (⟨#[115, 114]⟩ : ByteArray), (⟨#[117, 110, 100]⟩ : ByteArray), (⟨#[105, 119]⟩ : ByteArray), (⟨#[110, 111]⟩ : ByteArray), (⟨#[115, 103, 110]⟩ : ByteArray), (⟨#[109, 111]⟩ : ByteArray), (⟨#[104, 97, 110, 116]⟩ : ByteArray), (⟨#[97, 98, 99, 100, 101, 102, 103, 104]⟩ : ByteArray), (⟨#[100, 101]⟩ : ByteArray), (⟨#[114, 111, 111, 116]⟩ : ByteArray)] : List ByteArray))
set_option maxHeartbeats 8000000 in
set_option maxRecDepth 100000 in
theorem r6_langs.calls  (r : List ByteArray) (w : World) (h : r6_langs.f  = some r) :
  Calls Tryz.prog 18 #[] w fun e w' => ∃ v0_ : Value, e = .returned (v0_) ∧ Kd.R Kd.string 9 w' w.heap.size (fun _ => True) v0_ r ∧ Below w.heap.size w w' := by
 have HB := Aside0.mk (Below.refl w.heap.size w)
 have H := h; unfold r6_langs.f at H
 clear h
 obtain ⟨a5, ak⟩ : ∃ y_ : List ByteArray, y_ = (([(⟨#[101, 110]⟩ : ByteArray), (⟨#[122, 104]⟩ : ByteArray), (⟨#[115, 114]⟩ : ByteArray), (⟨#[117, 110, 100]⟩ : ByteArray), (⟨#[105, 119]⟩ : ByteArray), (⟨#[110, 111]⟩ : ByteArray), (⟨#[115, 103, 110]⟩ : ByteArray), (⟨#[109, 111]⟩ : ByteArray), (⟨#[104, 97, 110, 116]⟩ : ByteArray), (⟨#[97, 98, 99, 100, 101, 102, 103, 104]⟩ : ByteArray), (⟨#[100, 101]⟩ : ByteArray), (⟨#[114, 111, 111, 116]⟩ : ByteArray)] : List ByteArray)) := ⟨_, rfl⟩
 replace H : (some a5) = some r := by first | (rw [ak]; with_reducible exact H) | (have H2_ := (Option.bind_some _ _).symm.trans H; rw [ak]; with_reducible exact H2_) | (have H2_ := (Option.bind_some _ _).symm.trans H; with_reducible exact H2_) | with_reducible exact H | (rw [ak]; exact H) | exact H
 have aD := Aside0.mk ak
 clear ak
 obtain rfl := Option.some.inj H
 go_enter Tryz.func18, Tryz.ntmps18
 go_wp2_with (first | ((with_reducible refine gate_dst (N := 1) rfl ?_); refine Kd.R_lit Kd.string _ 9 ?hg (N := 1) ?hd (xs := ([(⟨#[101, 110]⟩ : ByteArray), (⟨#[122, 104]⟩ : ByteArray), (⟨#[115, 114]⟩ : ByteArray), (⟨#[117, 110, 100]⟩ : ByteArray), (⟨#[105, 119]⟩ : ByteArray), (⟨#[110, 111]⟩ : ByteArray), (⟨#[115, 103, 110]⟩ : ByteArray), (⟨#[109, 111]⟩ : ByteArray), (⟨#[104, 97, 110, 116]⟩ : ByteArray), (⟨#[97, 98, 99, 100, 101, 102, 103, 104]⟩ : ByteArray), (⟨#[100, 101]⟩ : ByteArray), (⟨#[114, 111, 111, 116]⟩ : ByteArray)] : List ByteArray)) (inner := [.string (⟨#[101, 110]⟩ : ByteArray), .string (⟨#[122, 104]⟩ : ByteArray), .string (⟨#[115, 114]⟩ : ByteArray), .string (⟨#[117, 110, 100]⟩ : ByteArray), .string (⟨#[105, 119]⟩ : ByteArray), .string (⟨#[110, 111]⟩ : ByteArray), .string (⟨#[115, 103, 110]⟩ : ByteArray), .string (⟨#[109, 111]⟩ : ByteArray), .string (⟨#[104, 97, 110, 116]⟩ : ByteArray), .string (⟨#[97, 98, 99, 100, 101, 102, 103, 104]⟩ : ByteArray), .string (⟨#[100, 101]⟩ : ByteArray), .string (⟨#[114, 111, 111, 116]⟩ : ByteArray)]) (ok := fun _ => True) (okp := fun _ => True) ?hr ?hp (fun _ hk => hk) trivial (Below.refl _ _) (Nat.le_refl _) (by simp) ?_; (case hd => rfl); (case hg => rfl); (case hr => first | (go_simp; done) | (go_simp; rfl)); (case hp => exact (Reps.one (show Kd.M Kd.string _ _ _ (⟨#[101, 110]⟩ : ByteArray) [.string (⟨#[101, 110]⟩ : ByteArray)] from rfl) (Reps.one (show Kd.M Kd.string _ _ _ (⟨#[122, 104]⟩ : ByteArray) [.string (⟨#[122, 104]⟩ : ByteArray)] from rfl) (Reps.one (show Kd.M Kd.string _ _ _ (⟨#[115, 114]⟩ : ByteArray) [.string (⟨#[115, 114]⟩ : ByteArray)] from rfl) (Reps.one (show Kd.M Kd.string _ _ _ (⟨#[117, 110, 100]⟩ : ByteArray) [.string (⟨#[117, 110, 100]⟩ : ByteArray)] from rfl) (Reps.one (show Kd.M Kd.string _ _ _ (⟨#[105, 119]⟩ : ByteArray) [.string (⟨#[105, 119]⟩ : ByteArray)] from rfl) (Reps.one (show Kd.M Kd.string _ _ _ (⟨#[110, 111]⟩ : ByteArray) [.string (⟨#[110, 111]⟩ : ByteArray)] from rfl) (Reps.one (show Kd.M Kd.string _ _ _ (⟨#[115, 103, 110]⟩ : ByteArray) [.string (⟨#[115, 103, 110]⟩ : ByteArray)] from rfl) (Reps.one (show Kd.M Kd.string _ _ _ (⟨#[109, 111]⟩ : ByteArray) [.string (⟨#[109, 111]⟩ : ByteArray)] from rfl) (Reps.one (show Kd.M Kd.string _ _ _ (⟨#[104, 97, 110, 116]⟩ : ByteArray) [.string (⟨#[104, 97, 110, 116]⟩ : ByteArray)] from rfl) (Reps.one (show Kd.M Kd.string _ _ _ (⟨#[97, 98, 99, 100, 101, 102, 103, 104]⟩ : ByteArray) [.string (⟨#[97, 98, 99, 100, 101, 102, 103, 104]⟩ : ByteArray)] from rfl) (Reps.one (show Kd.M Kd.string _ _ _ (⟨#[100, 101]⟩ : ByteArray) [.string (⟨#[100, 101]⟩ : ByteArray)] from rfl) (Reps.one (show Kd.M Kd.string _ _ _ (⟨#[114, 111, 111, 116]⟩ : ByteArray) [.string (⟨#[114, 111, 111, 116]⟩ : ByteArray)] from rfl) (Reps.none _ _)))))))))))))); intro v146 w1 ho2 hb hg_ hnew_; clear hg_ hnew_; (first | rw [← aD.out] at ho2 | (simp only [Int.reduceToNat] at ho2; rw [← aD.out] at ho2)); have ab := Aside0.mk (Kd.R_lower ho2 (wZ_ (Qw HB.out))); have ag := Aside0.mk (wT_ (Qw HB.out) hb); clear HB; have aN := ab; have HB := ag; clear ab ag; clear hb ho2))
 go_ret
 exact ⟨_, Qe, Qr aN.out, Qw HB.out⟩
def r6_scripts.f  : Option (List ByteArray) := some (([(⟨#[]⟩ : ByteArray), (⟨#[]⟩ : ByteArray), (⟨#[108, 97, 116, 110]⟩ : ByteArray), (⟨#[99, 121, 114, 108]⟩ : ByteArray), (⟨#[104, 97, 110, 115]⟩ : ByteArray), (⟨#[113, 97, 97, 105]⟩ : ByteArray), (⟨#[104, 97, 110, 116]⟩ : ByteArray)] : List ByteArray))
set_option maxHeartbeats 8000000 in
set_option maxRecDepth 100000 in
theorem r6_scripts.calls  (r : List ByteArray) (w : World) (h : r6_scripts.f  = some r) :
  Calls Tryz.prog 19 #[] w fun e w' => ∃ v0_ : Value, e = .returned (v0_) ∧ Kd.R Kd.string 9 w' w.heap.size (fun _ => True) v0_ r ∧ Below w.heap.size w w' := by
 have HB := Aside0.mk (Below.refl w.heap.size w)
 have H := h; unfold r6_scripts.f at H
 clear h
 obtain ⟨a6, al⟩ : ∃ y_ : List ByteArray, y_ = (([(⟨#[]⟩ : ByteArray), (⟨#[]⟩ : ByteArray), (⟨#[108, 97, 116, 110]⟩ : ByteArray), (⟨#[99, 121, 114, 108]⟩ : ByteArray), (⟨#[104, 97, 110, 115]⟩ : ByteArray), (⟨#[113, 97, 97, 105]⟩ : ByteArray), (⟨#[104, 97, 110, 116]⟩ : ByteArray)] : List ByteArray)) := ⟨_, rfl⟩
 replace H : (some a6) = some r := by first | (rw [al]; with_reducible exact H) | (have H2_ := (Option.bind_some _ _).symm.trans H; rw [al]; with_reducible exact H2_) | (have H2_ := (Option.bind_some _ _).symm.trans H; with_reducible exact H2_) | with_reducible exact H | (rw [al]; exact H) | exact H
 have aE := Aside0.mk al
 clear al
 obtain rfl := Option.some.inj H
 go_enter Tryz.func19, Tryz.ntmps19
 go_wp2_with (first | ((with_reducible refine gate_dst (N := 1) rfl ?_); refine Kd.R_lit Kd.string _ 9 ?hg (N := 1) ?hd (xs := ([(⟨#[]⟩ : ByteArray), (⟨#[]⟩ : ByteArray), (⟨#[108, 97, 116, 110]⟩ : ByteArray), (⟨#[99, 121, 114, 108]⟩ : ByteArray), (⟨#[104, 97, 110, 115]⟩ : ByteArray), (⟨#[113, 97, 97, 105]⟩ : ByteArray), (⟨#[104, 97, 110, 116]⟩ : ByteArray)] : List ByteArray)) (inner := [.string (⟨#[]⟩ : ByteArray), .string (⟨#[]⟩ : ByteArray), .string (⟨#[108, 97, 116, 110]⟩ : ByteArray), .string (⟨#[99, 121, 114, 108]⟩ : ByteArray), .string (⟨#[104, 97, 110, 115]⟩ : ByteArray), .string (⟨#[113, 97, 97, 105]⟩ : ByteArray), .string (⟨#[104, 97, 110, 116]⟩ : ByteArray)]) (ok := fun _ => True) (okp := fun _ => True) ?hr ?hp (fun _ hk => hk) trivial (Below.refl _ _) (Nat.le_refl _) (by simp) ?_; (case hd => rfl); (case hg => rfl); (case hr => first | (go_simp; done) | (go_simp; rfl)); (case hp => exact (Reps.one (show Kd.M Kd.string _ _ _ (⟨#[]⟩ : ByteArray) [.string (⟨#[]⟩ : ByteArray)] from rfl) (Reps.one (show Kd.M Kd.string _ _ _ (⟨#[]⟩ : ByteArray) [.string (⟨#[]⟩ : ByteArray)] from rfl) (Reps.one (show Kd.M Kd.string _ _ _ (⟨#[108, 97, 116, 110]⟩ : ByteArray) [.string (⟨#[108, 97, 116, 110]⟩ : ByteArray)] from rfl) (Reps.one (show Kd.M Kd.string _ _ _ (⟨#[99, 121, 114, 108]⟩ : ByteArray) [.string (⟨#[99, 121, 114, 108]⟩ : ByteArray)] from rfl) (Reps.one (show Kd.M Kd.string _ _ _ (⟨#[104, 97, 110, 115]⟩ : ByteArray) [.string (⟨#[104, 97, 110, 115]⟩ : ByteArray)] from rfl) (Reps.one (show Kd.M Kd.string _ _ _ (⟨#[113, 97, 97, 105]⟩ : ByteArray) [.string (⟨#[113, 97, 97, 105]⟩ : ByteArray)] from rfl) (Reps.one (show Kd.M Kd.string _ _ _ (⟨#[104, 97, 110, 116]⟩ : ByteArray) [.string (⟨#[104, 97, 110, 116]⟩ : ByteArray)] from rfl) (Reps.none _ _))))))))); intro v149 w1 ho2 hb hg_ hnew_; clear hg_ hnew_; (first | rw [← aE.out] at ho2 | (simp only [Int.reduceToNat] at ho2; rw [← aE.out] at ho2)); have ab := Aside0.mk (Kd.R_lower ho2 (wZ_ (Qw HB.out))); have ag := Aside0.mk (wT_ (Qw HB.out) hb); clear HB; have aQ := ab; have HB := ag; clear ab ag; clear hb ho2))
 go_ret
 exact ⟨_, Qe, Qr aQ.out, Qw HB.out⟩
def r6_regions.f  : Option (List ByteArray) := some (([(⟨#[]⟩ : ByteArray), (⟨#[]⟩ : ByteArray), (⟨#[117, 115]⟩ : ByteArray), (⟨#[103, 98]⟩ : ByteArray), (⟨#[52, 49, 57]⟩ : ByteArray), (⟨#[100, 100]⟩ : ByteArray), (⟨#[99, 110]⟩ : ByteArray), (⟨#[98, 114]⟩ : ByteArray), (⟨#[115, 117]⟩ : ByteArray)] : List ByteArray))
set_option maxHeartbeats 8000000 in
set_option maxRecDepth 100000 in
theorem r6_regions.calls  (r : List ByteArray) (w : World) (h : r6_regions.f  = some r) :
  Calls Tryz.prog 20 #[] w fun e w' => ∃ v0_ : Value, e = .returned (v0_) ∧ Kd.R Kd.string 9 w' w.heap.size (fun _ => True) v0_ r ∧ Below w.heap.size w w' := by
 have HB := Aside0.mk (Below.refl w.heap.size w)
 have H := h; unfold r6_regions.f at H
 clear h
 obtain ⟨a7, am⟩ : ∃ y_ : List ByteArray, y_ = (([(⟨#[]⟩ : ByteArray), (⟨#[]⟩ : ByteArray), (⟨#[117, 115]⟩ : ByteArray), (⟨#[103, 98]⟩ : ByteArray), (⟨#[52, 49, 57]⟩ : ByteArray), (⟨#[100, 100]⟩ : ByteArray), (⟨#[99, 110]⟩ : ByteArray), (⟨#[98, 114]⟩ : ByteArray), (⟨#[115, 117]⟩ : ByteArray)] : List ByteArray)) := ⟨_, rfl⟩
 replace H : (some a7) = some r := by first | (rw [am]; with_reducible exact H) | (have H2_ := (Option.bind_some _ _).symm.trans H; rw [am]; with_reducible exact H2_) | (have H2_ := (Option.bind_some _ _).symm.trans H; with_reducible exact H2_) | with_reducible exact H | (rw [am]; exact H) | exact H
 have aG := Aside0.mk am
 clear am
 obtain rfl := Option.some.inj H
 go_enter Tryz.func20, Tryz.ntmps20
 go_wp2_with (first | ((with_reducible refine gate_dst (N := 1) rfl ?_); refine Kd.R_lit Kd.string _ 9 ?hg (N := 1) ?hd (xs := ([(⟨#[]⟩ : ByteArray), (⟨#[]⟩ : ByteArray), (⟨#[117, 115]⟩ : ByteArray), (⟨#[103, 98]⟩ : ByteArray), (⟨#[52, 49, 57]⟩ : ByteArray), (⟨#[100, 100]⟩ : ByteArray), (⟨#[99, 110]⟩ : ByteArray), (⟨#[98, 114]⟩ : ByteArray), (⟨#[115, 117]⟩ : ByteArray)] : List ByteArray)) (inner := [.string (⟨#[]⟩ : ByteArray), .string (⟨#[]⟩ : ByteArray), .string (⟨#[117, 115]⟩ : ByteArray), .string (⟨#[103, 98]⟩ : ByteArray), .string (⟨#[52, 49, 57]⟩ : ByteArray), .string (⟨#[100, 100]⟩ : ByteArray), .string (⟨#[99, 110]⟩ : ByteArray), .string (⟨#[98, 114]⟩ : ByteArray), .string (⟨#[115, 117]⟩ : ByteArray)]) (ok := fun _ => True) (okp := fun _ => True) ?hr ?hp (fun _ hk => hk) trivial (Below.refl _ _) (Nat.le_refl _) (by simp) ?_; (case hd => rfl); (case hg => rfl); (case hr => first | (go_simp; done) | (go_simp; rfl)); (case hp => exact (Reps.one (show Kd.M Kd.string _ _ _ (⟨#[]⟩ : ByteArray) [.string (⟨#[]⟩ : ByteArray)] from rfl) (Reps.one (show Kd.M Kd.string _ _ _ (⟨#[]⟩ : ByteArray) [.string (⟨#[]⟩ : ByteArray)] from rfl) (Reps.one (show Kd.M Kd.string _ _ _ (⟨#[117, 115]⟩ : ByteArray) [.string (⟨#[117, 115]⟩ : ByteArray)] from rfl) (Reps.one (show Kd.M Kd.string _ _ _ (⟨#[103, 98]⟩ : ByteArray) [.string (⟨#[103, 98]⟩ : ByteArray)] from rfl) (Reps.one (show Kd.M Kd.string _ _ _ (⟨#[52, 49, 57]⟩ : ByteArray) [.string (⟨#[52, 49, 57]⟩ : ByteArray)] from rfl) (Reps.one (show Kd.M Kd.string _ _ _ (⟨#[100, 100]⟩ : ByteArray) [.string (⟨#[100, 100]⟩ : ByteArray)] from rfl) (Reps.one (show Kd.M Kd.string _ _ _ (⟨#[99, 110]⟩ : ByteArray) [.string (⟨#[99, 110]⟩ : ByteArray)] from rfl) (Reps.one (show Kd.M Kd.string _ _ _ (⟨#[98, 114]⟩ : ByteArray) [.string (⟨#[98, 114]⟩ : ByteArray)] from rfl) (Reps.one (show Kd.M Kd.string _ _ _ (⟨#[115, 117]⟩ : ByteArray) [.string (⟨#[115, 117]⟩ : ByteArray)] from rfl) (Reps.none _ _))))))))))); intro v152 w1 ho2 hb hg_ hnew_; clear hg_ hnew_; (first | rw [← aG.out] at ho2 | (simp only [Int.reduceToNat] at ho2; rw [← aG.out] at ho2)); have ab := Aside0.mk (Kd.R_lower ho2 (wZ_ (Qw HB.out))); have ag := Aside0.mk (wT_ (Qw HB.out) hb); clear HB; have aR := ab; have HB := ag; clear ab ag; clear hb ho2))
 go_ret
 exact ⟨_, Qe, Qr aR.out, Qw HB.out⟩
def r6_variants.f  : Option (List ByteArray) := some (([(⟨#[49, 57, 57, 52]⟩ : ByteArray), (⟨#[104, 101, 112, 108, 111, 99]⟩ : ByteArray), (⟨#[102, 111, 110, 105, 112, 97]⟩ : ByteArray), (⟨#[97, 114, 101, 118, 101, 108, 97]⟩ : ByteArray), (⟨#[49, 97, 50, 98]⟩ : ByteArray), (⟨#[115, 99, 111, 117, 115, 101]⟩ : ByteArray)] : List ByteArray))
set_option maxHeartbeats 8000000 in
set_option maxRecDepth 100000 in
theorem r6_variants.calls  (r : List ByteArray) (w : World) (h : r6_variants.f  = some r) :
  Calls Tryz.prog 21 #[] w fun e w' => ∃ v0_ : Value, e = .returned (v0_) ∧ Kd.R Kd.string 9 w' w.heap.size (fun _ => True) v0_ r ∧ Below w.heap.size w w' := by
 have HB := Aside0.mk (Below.refl w.heap.size w)
 have H := h; unfold r6_variants.f at H
 clear h
 obtain ⟨a8, ao⟩ : ∃ y_ : List ByteArray, y_ = (([(⟨#[49, 57, 57, 52]⟩ : ByteArray), (⟨#[104, 101, 112, 108, 111, 99]⟩ : ByteArray), (⟨#[102, 111, 110, 105, 112, 97]⟩ : ByteArray), (⟨#[97, 114, 101, 118, 101, 108, 97]⟩ : ByteArray), (⟨#[49, 97, 50, 98]⟩ : ByteArray), (⟨#[115, 99, 111, 117, 115, 101]⟩ : ByteArray)] : List ByteArray)) := ⟨_, rfl⟩
 replace H : (some a8) = some r := by first | (rw [ao]; with_reducible exact H) | (have H2_ := (Option.bind_some _ _).symm.trans H; rw [ao]; with_reducible exact H2_) | (have H2_ := (Option.bind_some _ _).symm.trans H; with_reducible exact H2_) | with_reducible exact H | (rw [ao]; exact H) | exact H
 have aH := Aside0.mk ao
 clear ao
 obtain rfl := Option.some.inj H
 go_enter Tryz.func21, Tryz.ntmps21
 go_wp2_with (first | ((with_reducible refine gate_dst (N := 1) rfl ?_); refine Kd.R_lit Kd.string _ 9 ?hg (N := 1) ?hd (xs := ([(⟨#[49, 57, 57, 52]⟩ : ByteArray), (⟨#[104, 101, 112, 108, 111, 99]⟩ : ByteArray), (⟨#[102, 111, 110, 105, 112, 97]⟩ : ByteArray), (⟨#[97, 114, 101, 118, 101, 108, 97]⟩ : ByteArray), (⟨#[49, 97, 50, 98]⟩ : ByteArray), (⟨#[115, 99, 111, 117, 115, 101]⟩ : ByteArray)] : List ByteArray)) (inner := [.string (⟨#[49, 57, 57, 52]⟩ : ByteArray), .string (⟨#[104, 101, 112, 108, 111, 99]⟩ : ByteArray), .string (⟨#[102, 111, 110, 105, 112, 97]⟩ : ByteArray), .string (⟨#[97, 114, 101, 118, 101, 108, 97]⟩ : ByteArray), .string (⟨#[49, 97, 50, 98]⟩ : ByteArray), .string (⟨#[115, 99, 111, 117, 115, 101]⟩ : ByteArray)]) (ok := fun _ => True) (okp := fun _ => True) ?hr ?hp (fun _ hk => hk) trivial (Below.refl _ _) (Nat.le_refl _) (by simp) ?_; (case hd => rfl); (case hg => rfl); (case hr => first | (go_simp; done) | (go_simp; rfl)); (case hp => exact (Reps.one (show Kd.M Kd.string _ _ _ (⟨#[49, 57, 57, 52]⟩ : ByteArray) [.string (⟨#[49, 57, 57, 52]⟩ : ByteArray)] from rfl) (Reps.one (show Kd.M Kd.string _ _ _ (⟨#[104, 101, 112, 108, 111, 99]⟩ : ByteArray) [.string (⟨#[104, 101, 112, 108, 111, 99]⟩ : ByteArray)] from rfl) (Reps.one (show Kd.M Kd.string _ _ _ (⟨#[102, 111, 110, 105, 112, 97]⟩ : ByteArray) [.string (⟨#[102, 111, 110, 105, 112, 97]⟩ : ByteArray)] from rfl) (Reps.one (show Kd.M Kd.string _ _ _ (⟨#[97, 114, 101, 118, 101, 108, 97]⟩ : ByteArray) [.string (⟨#[97, 114, 101, 118, 101, 108, 97]⟩ : ByteArray)] from rfl) (Reps.one (show Kd.M Kd.string _ _ _ (⟨#[49, 97, 50, 98]⟩ : ByteArray) [.string (⟨#[49, 97, 50, 98]⟩ : ByteArray)] from rfl) (Reps.one (show Kd.M Kd.string _ _ _ (⟨#[115, 99, 111, 117, 115, 101]⟩ : ByteArray) [.string (⟨#[115, 99, 111, 117, 115, 101]⟩ : ByteArray)] from rfl) (Reps.none _ _)))))))); intro v155 w1 ho2 hb hg_ hnew_; clear hg_ hnew_; (first | rw [← aH.out] at ho2 | (simp only [Int.reduceToNat] at ho2; rw [← aH.out] at ho2)); have ab := Aside0.mk (Kd.R_lower ho2 (wZ_ (Qw HB.out))); have ag := Aside0.mk (wT_ (Qw HB.out) hb); clear HB; have aT := ab; have HB := ag; clear ab ag; clear hb ho2))
 go_ret
 exact ⟨_, Qe, Qr aT.out, Qw HB.out⟩
def r6_words.f  : Option (List ByteArray) := some (([(⟨#[99, 97]⟩ : ByteArray), (⟨#[98, 117, 100, 100, 104, 105, 115, 116]⟩ : ByteArray), (⟨#[99, 111]⟩ : ByteArray), (⟨#[116, 114, 117, 101]⟩ : ByteArray), (⟨#[107, 110]⟩ : ByteArray), (⟨#[112, 104, 111, 110, 101, 98, 107]⟩ : ByteArray), (⟨#[109, 48]⟩ : ByteArray), (⟨#[101, 110]⟩ : ByteArray), (⟨#[97, 98, 49]⟩ : ByteArray), (⟨#[105, 115, 108, 97, 109, 105, 99, 99]⟩ : ByteArray), (⟨#[104, 48]⟩ : ByteArray)] : List ByteArray))
set_option maxHeartbeats 8000000 in
set_option maxRecDepth 100000 in
theorem r6_words.calls  (r : List ByteArray) (w : World) (h : r6_words.f  = some r) :
  Calls Tryz.prog 22 #[] w fun e w' => ∃ v0_ : Value, e = .returned (v0_) ∧ Kd.R Kd.string 9 w' w.heap.size (fun _ => True) v0_ r ∧ Below w.heap.size w w' := by
 have HB := Aside0.mk (Below.refl w.heap.size w)
 have H := h; unfold r6_words.f at H
 clear h
 obtain ⟨a9, ap⟩ : ∃ y_ : List ByteArray, y_ = (([(⟨#[99, 97]⟩ : ByteArray), (⟨#[98, 117, 100, 100, 104, 105, 115, 116]⟩ : ByteArray), (⟨#[99, 111]⟩ : ByteArray), (⟨#[116, 114, 117, 101]⟩ : ByteArray), (⟨#[107, 110]⟩ : ByteArray), (⟨#[112, 104, 111, 110, 101, 98, 107]⟩ : ByteArray), (⟨#[109, 48]⟩ : ByteArray), (⟨#[101, 110]⟩ : ByteArray), (⟨#[97, 98, 49]⟩ : ByteArray), (⟨#[105, 115, 108, 97, 109, 105, 99, 99]⟩ : ByteArray), (⟨#[104, 48]⟩ : ByteArray)] : List ByteArray)) := ⟨_, rfl⟩
 replace H : (some a9) = some r := by first | (rw [ap]; with_reducible exact H) | (have H2_ := (Option.bind_some _ _).symm.trans H; rw [ap]; with_reducible exact H2_) | (have H2_ := (Option.bind_some _ _).symm.trans H; with_reducible exact H2_) | with_reducible exact H | (rw [ap]; exact H) | exact H
 have aI := Aside0.mk ap
 clear ap
 obtain rfl := Option.some.inj H
 go_enter Tryz.func22, Tryz.ntmps22
 go_wp2_with (first | ((with_reducible refine gate_dst (N := 1) rfl ?_); refine Kd.R_lit Kd.string _ 9 ?hg (N := 1) ?hd (xs := ([(⟨#[99, 97]⟩ : ByteArray), (⟨#[98, 117, 100, 100, 104, 105, 115, 116]⟩ : ByteArray), (⟨#[99, 111]⟩ : ByteArray), (⟨#[116, 114, 117, 101]⟩ : ByteArray), (⟨#[107, 110]⟩ : ByteArray), (⟨#[112, 104, 111, 110, 101, 98, 107]⟩ : ByteArray), (⟨#[109, 48]⟩ : ByteArray), (⟨#[101, 110]⟩ : ByteArray), (⟨#[97, 98, 49]⟩ : ByteArray), (⟨#[105, 115, 108, 97, 109, 105, 99, 99]⟩ : ByteArray), (⟨#[104, 48]⟩ : ByteArray)] : List ByteArray)) (inner := [.string (⟨#[99, 97]⟩ : ByteArray), .string (⟨#[98, 117, 100, 100, 104, 105, 115, 116]⟩ : ByteArray), .string (⟨#[99, 111]⟩ : ByteArray), .string (⟨#[116, 114, 117, 101]⟩ : ByteArray), .string (⟨#[107, 110]⟩ : ByteArray), .string (⟨#[112, 104, 111, 110, 101, 98, 107]⟩ : ByteArray), .string (⟨#[109, 48]⟩ : ByteArray), .string (⟨#[101, 110]⟩ : ByteArray), .string (⟨#[97, 98, 49]⟩ : ByteArray), .string (⟨#[105, 115, 108, 97, 109, 105, 99, 99]⟩ : ByteArray), .string (⟨#[104, 48]⟩ : ByteArray)]) (ok := fun _ => True) (okp := fun _ => True) ?hr ?hp (fun _ hk => hk) trivial (Below.refl _ _) (Nat.le_refl _) (by simp) ?_; (case hd => rfl); (case hg => rfl); (case hr => first | (go_simp; done) | (go_simp; rfl)); (case hp => exact (Reps.one (show Kd.M Kd.string _ _ _ (⟨#[99, 97]⟩ : ByteArray) [.string (⟨#[99, 97]⟩ : ByteArray)] from rfl) (Reps.one (show Kd.M Kd.string _ _ _ (⟨#[98, 117, 100, 100, 104, 105, 115, 116]⟩ : ByteArray) [.string (⟨#[98, 117, 100, 100, 104, 105, 115, 116]⟩ : ByteArray)] from rfl) (Reps.one (show Kd.M Kd.string _ _ _ (⟨#[99, 111]⟩ : ByteArray) [.string (⟨#[99, 111]⟩ : ByteArray)] from rfl) (Reps.one (show Kd.M Kd.string _ _ _ (⟨#[116, 114, 117, 101]⟩ : ByteArray) [.string (⟨#[116, 114, 117, 101]⟩ : ByteArray)] from rfl) (Reps.one (show Kd.M Kd.string _ _ _ (⟨#[107, 110]⟩ : ByteArray) [.string (⟨#[107, 110]⟩ : ByteArray)] from rfl) (Reps.one (show Kd.M Kd.string _ _ _ (⟨#[112, 104, 111, 110, 101, 98, 107]⟩ : ByteArray) [.string (⟨#[112, 104, 111, 110, 101, 98, 107]⟩ : ByteArray)] from rfl) (Reps.one (show Kd.M Kd.string _ _ _ (⟨#[109, 48]⟩ : ByteArray) [.string (⟨#[109, 48]⟩ : ByteArray)] from rfl) (Reps.one (show Kd.M Kd.string _ _ _ (⟨#[101, 110]⟩ : ByteArray) [.string (⟨#[101, 110]⟩ : ByteArray)] from rfl) (Reps.one (show Kd.M Kd.string _ _ _ (⟨#[97, 98, 49]⟩ : ByteArray) [.string (⟨#[97, 98, 49]⟩ : ByteArray)] from rfl) (Reps.one (show Kd.M Kd.string _ _ _ (⟨#[105, 115, 108, 97, 109, 105, 99, 99]⟩ : ByteArray) [.string (⟨#[105, 115, 108, 97, 109, 105, 99, 99]⟩ : ByteArray)] from rfl) (Reps.one (show Kd.M Kd.string _ _ _ (⟨#[104, 48]⟩ : ByteArray) [.string (⟨#[104, 48]⟩ : ByteArray)] from rfl) (Reps.none _ _))))))))))))); intro v158 w1 ho2 hb hg_ hnew_; clear hg_ hnew_; (first | rw [← aI.out] at ho2 | (simp only [Int.reduceToNat] at ho2; rw [← aI.out] at ho2)); have ab := Aside0.mk (Kd.R_lower ho2 (wZ_ (Qw HB.out))); have ag := Aside0.mk (wT_ (Qw HB.out) hb); clear HB; have aU := ab; have HB := ag; clear ab ag; clear hb ho2))
 go_ret
 exact ⟨_, Qe, Qr aU.out, Qw HB.out⟩
def r2_lower.f (a0 : Int) : Option (Int) := if a0 ≥ 65 then (if a0 ≤ 90 then (some ((((a0 - 65) % 256) + 97) % 256)) else (some a0)) else (some a0)
set_option maxHeartbeats 8000000 in
set_option maxRecDepth 100000 in
theorem r2_lower.calls (a0 : Int) (r : Int) (w : World) (h : r2_lower.f a0 = some r) :
  Calls Tryz.prog 97 #[.int .u8 a0] w fun e w' => e = .returned (.int .u8 r) ∧ Drawn0 w w' := by
 have H := h; unfold r2_lower.f at H
 clear h
 by_cases c2 : a0 ≥ 65
 ·rw [if_pos c2] at H
  have ah : decide (65 ≤ a0) = true := decide_eq_true c2
  clear c2
  by_cases c3 : a0 ≤ 90
  ·rw [if_pos c3] at H
   have ax : decide (a0 ≤ 90) = true := decide_eq_true c3
   clear c3
   obtain rfl := Option.some.inj H
   go_enter Tryz.func97, Tryz.ntmps97
   go_wp2
   go_ret
   exact ⟨Qs, Q0⟩
  ·rw [if_neg c3] at H
   have ax : decide (a0 ≤ 90) = false := decide_eq_false c3
   clear c3
   obtain rfl := Option.some.inj H
   go_enter Tryz.func97, Tryz.ntmps97
   go_wp2
   go_ret
   exact ⟨Qs, Q0⟩
 ·rw [if_neg c2] at H
  have ah : decide (65 ≤ a0) = false := decide_eq_false c2
  clear c2
  obtain rfl := Option.some.inj H
  go_enter Tryz.func97, Tryz.ntmps97
  go_wp2
  go_ret
  exact ⟨Qs, Q0⟩
def r2_Lower.l0 : Nat → ByteArray → List Int → Int → Option (ByteArray)
 | 0, _, _, _ => none
 | k + 1, x0, x3, x4 => if x4 < (x0.size : Int) then (if 0 ≤ x4 then ((r2_lower.f (bt x0 x4)).bind fun aA => (if x3.length < 140737488355328 then (r2_Lower.l0 k x0 (x3 ++ [aA]) (wrap64 (x4 + 1))) else (none))) else (none)) else (some (strOfNums x3))
def r2_Lower.f (k : Nat) (a0 : ByteArray) : Option (ByteArray) := r2_Lower.l0 k a0 ([] : List Int) 0
set_option maxHeartbeats 8000000 in
set_option maxRecDepth 100000 in
theorem r2_Lower.calls (k : Nat) (a0 : ByteArray) (r : ByteArray) (w : World) (h : r2_Lower.f k a0 = some r) :
  Calls Tryz.prog 74 #[.string a0] w fun e w' => e = .returned (.string r) ∧ Below w.heap.size w w' := by
 have HB := Aside0.mk (Below.refl w.heap.size w)
 have H : (r2_Lower.l0 k a0 ([] : List Int) 0) = some r := h
 clear h
 have H' := Aside0.mk H
 clear H
 go_enter Tryz.func74, Tryz.ntmps74
 go_wp2
 go_loopg [3, 4] k (fun kq v3 v4 w' => ∃ (ac : List Int) (aa : Int), v4 = .int .i64 aa ∧ Aside0 (r2_Lower.l0 kq a0 ac aa = some r) ∧ Aside0 (kq ≤ k) ∧ Aside0 (Kd.R (Kd.int .u8) 5 w' w.heap.size (fun _ => True) v3 ac) ∧ Aside0 (Below w.heap.size w w'))
 case atStart => exact ⟨(([] : List Int)), (0), Qs, H', ⟨Nat.le_refl _⟩, ⟨by first | exact Kd.R_nil _ _ _ _ _ | exact Kd.N_nil _ _ _ _ _ | exact Kd.V_nil _ _ _ _ _ | exact Kd.Q_nil _ _ _ _ _ | exact Kd.S_nil _ _ _ _ _⟩, ⟨Qw HB.out⟩⟩
 case round =>
  clear H'
  obtain ⟨ac, aa, rfl, HA, HK1, HO_3, HB⟩ := hrel
  cases gk with
  | zero => exact absurd HA.out (by simp [r2_Lower.l0])
  | succ k1 =>
   have H := HA.out
   clear HA
   simp only [r2_Lower.l0] at H
   by_cases c2 : aa < (a0.size : Int)
   ·rw [if_pos c2] at H
    have ah : decide (aa < (a0.size : Int)) = true := decide_eq_true c2
    clear c2
    by_cases c3 : 0 ≤ aa
    ·rw [if_pos c3] at H
     have ax : decide (0 ≤ aa) = true := decide_eq_true c3
     clear c3
     replace H := Option.bind_eq_some_iff.mp H
     obtain ⟨aA, aJ, H⟩ := H
     try dsimp only at H
     have A5 := Aside0.mk aJ
     clear aJ
     by_cases c6 : ac.length < 140737488355328
     ·rw [if_pos c6] at H
      have aK := Aside0.mk c6
      clear c6
      obtain ⟨aV, aq⟩ : ∃ y_ : List Int, y_ = (ac ++ [aA]) := ⟨_, rfl⟩
      replace H : (r2_Lower.l0 k1 a0 aV (wrap64 (aa + 1))) = some r := by first | (rw [aq]; with_reducible exact H) | (have H2_ := (Option.bind_some _ _).symm.trans H; rw [aq]; with_reducible exact H2_) | (have H2_ := (Option.bind_some _ _).symm.trans H; with_reducible exact H2_) | with_reducible exact H | (rw [aq]; exact H) | exact H
      have aW := Aside0.mk aq
      clear aq
      have H' := Aside0.mk H
      clear H
      have p4 : 0 ≤ (aa : Int) := of_decide_eq_true Qa
      have q4 : aa < (a0.size : Int) := of_decide_eq_true Qa
      have hx4 := bt_at a0 aa
      replace p4 := eq_true p4
      replace q4 := eq_true q4
      go_wp2_with (first | ((with_reducible refine gate_callee (f := 97) rfl ?_); refine goesL_ (some 15) rfl rfl Tryz.func97 (by kernel_rfl) rfl #[.int .u8 (bt a0 aa)] rfl Qm ?_; (with_reducible refine (r2_lower.calls (bt a0 aa) aA _ A5.out).mono ?_); rintro e w' ⟨rfl, ⟨nd, rfl⟩⟩; refine ⟨_, rfl, ?_⟩) | ((with_reducible refine gate_builtin (b := .append) (xs := #[.tmp 11, .tmp 16]) rfl ?_); at_builtin; refine Kd.R_append (Kd.int .u8) (w0 := w) w.heap.size rfl (.tmp 11) (.tmp 16) 84 5 (.int .u8 0) 1 rfl Tryz.underlying84 info5 rfl (by decide) (by omega) u3 ac aA [.int .u8 aA] (fun _ => True) (fun _ => False) rfl rfl ?aP (fun _ hk => hk.elim) ?aF ?aO ?aB ?aS ?aL ?_; (case aP => exact rfl); (case aB => exact (Qw HB.out)); (case aF => exact (fun _ _ => trivial)); (case aO => exact (Qr HO_3.out)); (case aS => exact (wZ_ (Qw HB.out))); (case aL => have := aK.out; omega); intro v162 w7 ho hb hg hat; rw [← aW.out] at ho; have ab := Aside0.mk (hb); have ag := Aside0.mk (ho); clear HB; clear HO_3; have HB := ab; have aX := ag; clear ab ag; clear ho hb hg hat))
      go_roundg k1
      case measure => have := HK1.out; omega
      case rel => exact ⟨(aV), (wrap64 (aa + 1)), Qs, H', ⟨by have := HK1.out; omega⟩, ⟨Qr aX.out⟩, ⟨Qw HB.out⟩⟩
     ·rw [if_neg c6] at H
      exact absurd H (by simp)
    ·rw [if_neg c3] at H
     exact absurd H (by simp)
   ·rw [if_neg c2] at H
    have ah : decide (aa < (a0.size : Int)) = false := decide_eq_false c2
    clear c2
    obtain rfl := Option.some.inj H
    have ba := own_string (P := Tryz.prog) Tryz.underlying84 Tryz.underlying5 Tryz.underlying9 (Kd.own_of_R HO_3.out)
    go_wp2
    go_ret
    exact ⟨Qe, Qw HB.out⟩
def r2_upper.f (a0 : Int) : Option (Int) := if a0 ≥ 97 then (if a0 ≤ 122 then (some ((((a0 - 97) % 256) + 65) % 256)) else (some a0)) else (some a0)
set_option maxHeartbeats 8000000 in
set_option maxRecDepth 100000 in
theorem r2_upper.calls (a0 : Int) (r : Int) (w : World) (h : r2_upper.f a0 = some r) :
  Calls Tryz.prog 102 #[.int .u8 a0] w fun e w' => e = .returned (.int .u8 r) ∧ Drawn0 w w' := by
 have H := h; unfold r2_upper.f at H
 clear h
 by_cases c2 : a0 ≥ 97
 ·rw [if_pos c2] at H
  have ah : decide (97 ≤ a0) = true := decide_eq_true c2
  clear c2
  by_cases c3 : a0 ≤ 122
  ·rw [if_pos c3] at H
   have ax : decide (a0 ≤ 122) = true := decide_eq_true c3
   clear c3
   obtain rfl := Option.some.inj H
   go_enter Tryz.func102, Tryz.ntmps102
   go_wp2
   go_ret
   exact ⟨Qs, Q0⟩
  ·rw [if_neg c3] at H
   have ax : decide (a0 ≤ 122) = false := decide_eq_false c3
   clear c3
   obtain rfl := Option.some.inj H
   go_enter Tryz.func102, Tryz.ntmps102
   go_wp2
   go_ret
   exact ⟨Qs, Q0⟩
 ·rw [if_neg c2] at H
  have ah : decide (97 ≤ a0) = false := decide_eq_false c2
  clear c2
  obtain rfl := Option.some.inj H
  go_enter Tryz.func102, Tryz.ntmps102
  go_wp2
  go_ret
  exact ⟨Qs, Q0⟩
def r2_Upper.l0 : Nat → ByteArray → List Int → Int → Option (ByteArray)
 | 0, _, _, _ => none
 | k + 1, x0, x3, x4 => if x4 < (x0.size : Int) then (if 0 ≤ x4 then ((r2_upper.f (bt x0 x4)).bind fun aC => (if x3.length < 140737488355328 then (r2_Upper.l0 k x0 (x3 ++ [aC]) (wrap64 (x4 + 1))) else (none))) else (none)) else (some (strOfNums x3))
def r2_Upper.f (k : Nat) (a0 : ByteArray) : Option (ByteArray) := r2_Upper.l0 k a0 ([] : List Int) 0
set_option maxHeartbeats 8000000 in
set_option maxRecDepth 100000 in
theorem r2_Upper.calls (k : Nat) (a0 : ByteArray) (r : ByteArray) (w : World) (h : r2_Upper.f k a0 = some r) :
  Calls Tryz.prog 85 #[.string a0] w fun e w' => e = .returned (.string r) ∧ Below w.heap.size w w' := by
 have HB := Aside0.mk (Below.refl w.heap.size w)
 have H : (r2_Upper.l0 k a0 ([] : List Int) 0) = some r := h
 clear h
 have H' := Aside0.mk H
 clear H
 go_enter Tryz.func85, Tryz.ntmps85
 go_wp2
 go_loopg [3, 4] k (fun kq v3 v4 w' => ∃ (ac : List Int) (aa : Int), v4 = .int .i64 aa ∧ Aside0 (r2_Upper.l0 kq a0 ac aa = some r) ∧ Aside0 (kq ≤ k) ∧ Aside0 (Kd.R (Kd.int .u8) 5 w' w.heap.size (fun _ => True) v3 ac) ∧ Aside0 (Below w.heap.size w w'))
 case atStart => exact ⟨(([] : List Int)), (0), Qs, H', ⟨Nat.le_refl _⟩, ⟨by first | exact Kd.R_nil _ _ _ _ _ | exact Kd.N_nil _ _ _ _ _ | exact Kd.V_nil _ _ _ _ _ | exact Kd.Q_nil _ _ _ _ _ | exact Kd.S_nil _ _ _ _ _⟩, ⟨Qw HB.out⟩⟩
 case round =>
  clear H'
  obtain ⟨ac, aa, rfl, HA, HK1, HO_3, HB⟩ := hrel
  cases gk with
  | zero => exact absurd HA.out (by simp [r2_Upper.l0])
  | succ k1 =>
   have H := HA.out
   clear HA
   simp only [r2_Upper.l0] at H
   by_cases c2 : aa < (a0.size : Int)
   ·rw [if_pos c2] at H
    have ah : decide (aa < (a0.size : Int)) = true := decide_eq_true c2
    clear c2
    by_cases c3 : 0 ≤ aa
    ·rw [if_pos c3] at H
     have ax : decide (0 ≤ aa) = true := decide_eq_true c3
     clear c3
     replace H := Option.bind_eq_some_iff.mp H
     obtain ⟨aC, aJ, H⟩ := H
     try dsimp only at H
     have A5 := Aside0.mk aJ
     clear aJ
     by_cases c6 : ac.length < 140737488355328
     ·rw [if_pos c6] at H
      have aK := Aside0.mk c6
      clear c6
      obtain ⟨aY, ar⟩ : ∃ y_ : List Int, y_ = (ac ++ [aC]) := ⟨_, rfl⟩
      replace H : (r2_Upper.l0 k1 a0 aY (wrap64 (aa + 1))) = some r := by first | (rw [ar]; with_reducible exact H) | (have H2_ := (Option.bind_some _ _).symm.trans H; rw [ar]; with_reducible exact H2_) | (have H2_ := (Option.bind_some _ _).symm.trans H; with_reducible exact H2_) | with_reducible exact H | (rw [ar]; exact H) | exact H
      have aZ := Aside0.mk ar
      clear ar
      have H' := Aside0.mk H
      clear H
      have p4 : 0 ≤ (aa : Int) := of_decide_eq_true Qa
      have q4 : aa < (a0.size : Int) := of_decide_eq_true Qa
      have hx4 := bt_at a0 aa
      replace p4 := eq_true p4
      replace q4 := eq_true q4
      go_wp2_with (first | ((with_reducible refine gate_callee (f := 102) rfl ?_); refine goesL_ (some 15) rfl rfl Tryz.func102 (by kernel_rfl) rfl #[.int .u8 (bt a0 aa)] rfl Qm ?_; (with_reducible refine (r2_upper.calls (bt a0 aa) aC _ A5.out).mono ?_); rintro e w' ⟨rfl, ⟨nd, rfl⟩⟩; refine ⟨_, rfl, ?_⟩) | ((with_reducible refine gate_builtin (b := .append) (xs := #[.tmp 11, .tmp 16]) rfl ?_); at_builtin; refine Kd.R_append (Kd.int .u8) (w0 := w) w.heap.size rfl (.tmp 11) (.tmp 16) 84 5 (.int .u8 0) 1 rfl Tryz.underlying84 info5 rfl (by decide) (by omega) u3 ac aC [.int .u8 aC] (fun _ => True) (fun _ => False) rfl rfl ?aP (fun _ hk => hk.elim) ?aF ?aO ?aB ?aS ?aL ?_; (case aP => exact rfl); (case aB => exact (Qw HB.out)); (case aF => exact (fun _ _ => trivial)); (case aO => exact (Qr HO_3.out)); (case aS => exact (wZ_ (Qw HB.out))); (case aL => have := aK.out; omega); intro v166 w7 ho hb hg hat; rw [← aZ.out] at ho; have ab := Aside0.mk (hb); have ag := Aside0.mk (ho); clear HB; clear HO_3; have HB := ab; have a2 := ag; clear ab ag; clear ho hb hg hat))
      go_roundg k1
      case measure => have := HK1.out; omega
      case rel => exact ⟨(aY), (wrap64 (aa + 1)), Qs, H', ⟨by have := HK1.out; omega⟩, ⟨Qr a2.out⟩, ⟨Qw HB.out⟩⟩
     ·rw [if_neg c6] at H
      exact absurd H (by simp)
    ·rw [if_neg c3] at H
     exact absurd H (by simp)
   ·rw [if_neg c2] at H
    have ah : decide (aa < (a0.size : Int)) = false := decide_eq_false c2
    clear c2
    obtain rfl := Option.some.inj H
    have ba := own_string (P := Tryz.prog) Tryz.underlying84 Tryz.underlying5 Tryz.underlying9 (Kd.own_of_R HO_3.out)
    go_wp2
    go_ret
    exact ⟨Qe, Qw HB.out⟩
def r2_Title.f (k : Nat) (a0 : ByteArray) : Option (ByteArray) := if a0.toList = ([] : List UInt8) then (some (⟨#[]⟩ : ByteArray)) else (if 0 ≤ 1 then (if 1 ≤ (a0.size : Int) then ((r2_Upper.f k (a0.extract 0 1)).bind fun ay => ((r2_Lower.f k (a0.extract 1 a0.size)).bind fun az => (if ay.size + az.size ≤ 9223372036854775807 then (some (ay ++ az)) else (none)))) else (none)) else (none))
def r2_Title.T3 : Bool × List (List Nat × List Nat) := (true, [([], []), ([0], [0]), ([1], [1]), ([], []), ([3], [3]), ([4, 2], [4]), ([2, 5], [2, 5]), ([6, 5, 0, 1, 2, 3, 4, 5, 6], [6])])
def r2_Title.B3 : List Nat := [0, 1, 3, 0, 8, 31, 63, 127]
theorem r2_Title.tab3 : rtab .any (opsOf Tryz.f53 3) = r2_Title.T3 := by kernel_rfl
theorem r2_Title.bits3 : waitsOk r2_Title.T3.2 r2_Title.B3 = true := by kernel_rfl
set_option maxHeartbeats 8000000 in
set_option maxRecDepth 100000 in
theorem r2_Title.calls (k : Nat) (a0 : ByteArray) (r : ByteArray) (w : World) (h : r2_Title.f k a0 = some r) :
  Calls Tryz.prog 53 #[.string a0] w fun e w' => e = .returned (.string r) ∧ Below w.heap.size w w' := by
 have HB := Aside0.mk (Below.refl w.heap.size w)
 have H := h; unfold r2_Title.f at H
 clear h
 by_cases c2 : a0.toList = ([] : List UInt8)
 ·rw [if_pos c2] at H
  have ah : (a0.toList == ([] : List UInt8)) = true := beq_iff_eq.mpr c2
  have aM : a0.toList.isEmpty = true := List.isEmpty_iff.2 c2
  have bb : (!a0.toList.isEmpty) = false := by rw [aM]; rfl
  have bc : (a0.toList != ([] : List UInt8)) = false := bne_eq_false_iff_eq.mpr c2
  clear c2
  obtain rfl := Option.some.inj H
  go_enter Tryz.func53, Tryz.ntmps53
  go_wp2
  go_ret
  exact ⟨Qe, Qw HB.out⟩
 ·rw [if_neg c2] at H
  have ah : (a0.toList == ([] : List UInt8)) = false := beq_eq_false_iff_ne.mpr c2
  have aM : a0.toList.isEmpty = false := List.isEmpty_eq_false_iff.2 c2
  have bb : (!a0.toList.isEmpty) = true := by rw [aM]; rfl
  have bc : (a0.toList != ([] : List UInt8)) = true := bne_iff_ne.mpr c2
  by_cases c3 : 0 ≤ 1
  ·rw [if_pos c3] at H
   have ax := eq_true c3
   have a3 : decide (0 ≤ 1) = true := decide_eq_true c3
   clear c3
   by_cases c4 : 1 ≤ (a0.size : Int)
   ·rw [if_pos c4] at H
    have bh := eq_true c4
    have bi : decide (1 ≤ (a0.size : Int)) = true := decide_eq_true c4
    clear c4
    replace H := Option.bind_eq_some_iff.mp H
    obtain ⟨ay, aJ, H⟩ := H
    try dsimp only at H
    have A5 := Aside0.mk aJ
    clear aJ
    have a4 := eq_true (of_decide_eq_true Qa : 1 ≤ (a0.size : Int))
    replace H := Option.bind_eq_some_iff.mp H
    obtain ⟨az, bd, H⟩ := H
    try dsimp only at H
    have A7 := Aside0.mk bd
    clear bd
    by_cases c8 : ay.size + az.size ≤ 9223372036854775807
    ·rw [if_pos c8] at H
     have bj := eq_true c8
     have bk : decide (ay.size + az.size ≤ 9223372036854775807) = true := decide_eq_true c8
     try have bm : (9223372036854775807 < ay.size + az.size) = False := eq_false (Nat.not_lt.2 c8)
     obtain rfl := Option.some.inj H
     go_enter Tryz.func53, Tryz.ntmps53
     try go_wp2
     have ab := Aside0.mk (wD_ HB.out)
     clear HB
     have HB := ab
     clear ab
     refine start_ (n := 8) (S := fun w' => True) (ds := []) #[false, false, false, false, false, false, false, false] (by kernel_rfl) rfl rfl trivial (fun hHeld => ?_); refine with_tabW r2_Title.tab3 r2_Title.bits3 (fun HT_ HW_ => ?_)
     generalize w.drew = w9 at HB hHeld ⊢
     refine pu_ (i := 0) (N := some 5) HT_ (bl_ 8 1) ?_
     refine pu_ (i := 1) (N := some 6) HT_ (bl_ 8 3) ?_
     refine pu_ (i := 3) (N := some 8) HT_ (bl_ 8 11) ?_
     refine pu_ (i := 4) (N := some 9) HT_ (bl_ 8 27) ?_
     refine on_ (i := 2) (N := some 7) HT_ (bl_ 8 31) rfl rfl (fun K hK => ?_)
     refine goes_ Tryz.func85 (by kernel_rfl) rfl #[.string (a0.extract 0 1)] (by rfl) rfl rfl Qm ?_
     with_reducible refine (r2_Upper.calls k (a0.extract 0 1) ay _ A5.out).mono ?_
     rintro e w10 ⟨rfl, hb⟩
     refine ⟨_, rfl, ?_⟩
     have ab := Aside0.mk (wT_ (Qw HB.out) hb)
     clear HB
     have HB := ab
     clear ab
     (try clear hb); (try clear hb2); (try clear hk); (try clear hi)
     refine hK.out _ _ trivial (fun hHeld => ?_)
     clear hK K
     refine nm_ (some 7) ?_
     refine on_ (i := 5) (N := some 10) HT_ (bl_ 8 63) rfl rfl (fun K hK => ?_)
     refine goes_ Tryz.func74 (by kernel_rfl) rfl #[.string (a0.extract 1 a0.size)] (by rfl) rfl rfl Qm ?_
     with_reducible refine (r2_Lower.calls k (a0.extract 1 a0.size) az _ A7.out).mono ?_
     rintro e w11 ⟨rfl, hb⟩
     refine ⟨_, rfl, ?_⟩
     have ab := Aside0.mk (wT_ (Qw HB.out) hb)
     clear HB
     have HB := ab
     clear ab
     (try clear hb); (try clear hb2); (try clear hk); (try clear hi)
     refine hK.out _ _ trivial (fun hHeld => ?_)
     clear hK K
     refine nm_ (some 10) ?_
     refine pu_ (i := 6) (N := some 11) HT_ (bl_ 8 127) ?_
     refine pu_ (i := 7) (N := some 2) HT_ (bl_ 8 255) ?_
     refine done_ (done_of HT_.out (by kernel_rfl)) ?_
     try go_wp2
     go_ret
     exact ⟨Qe, Qw HB.out⟩
    ·rw [if_neg c8] at H
     exact absurd H (by simp)
   ·rw [if_neg c4] at H
    exact absurd H (by simp)
  ·rw [if_neg c3] at H
   exact absurd H (by simp)
section
set_option linter.unusedVariables false
def r6_spoilt.f (k : Nat) (au : ByteArray) (ai : List ByteArray) (av : ByteArray) (aj : ByteArray) (ad : List ByteArray) (ae : List (S40)) (af : List ByteArray) (aw : ByteArray) (a1 : Int) : Option (ByteArray × List ByteArray × ByteArray × ByteArray × List ByteArray × (List (S40)) × List ByteArray × ByteArray) :=
  if ad.length ≤ 1000 ∧ ae.length ≤ 1000 ∧ af.length ≤ 1000 then
    if a1 = 1 then some (au, ai, av, aj, ad ++ [⟨#[102, 111, 110, 105, 112, 97]⟩, ⟨#[102, 111, 110, 105, 112, 97]⟩], ae, af, aw)
    else if a1 = 2 then (r2_Title.f k au).bind fun t => some (t, ai, av, aj, ad, ae, af, aw)
    else if a1 = 3 then some (au, ai, av, aj, ad, ae ++ [⟨⟨#[98]⟩, []⟩], af, aw)
    else if a1 = 4 then some (au, ai, ⟨#[108, 97, 116]⟩, aj, ad, ae, af, aw)
    else if a1 = 5 then some (au, ai, av, aj, ad, ae, af, ⟨#[105, 45, 97, 109, 105]⟩)
    else if a1 = 6 then some (au, ai, av, aj, ad, ae, af ++ [⟨#[97, 98, 99, 100, 101, 102, 103, 104, 105]⟩], aw)
    else if a1 = 7 then some (au, ai, av, aj, ad, ae ++ [⟨⟨#[99]⟩, [⟨#[97, 98]⟩]⟩, ⟨⟨#[99]⟩, [⟨#[99, 100]⟩]⟩], af, aw)
    else if a1 = 8 then some (⟨#[]⟩, ai, av, aj, ad, ae, af, aw)
    else some (au, ai, av, aj, ad, ae, af, aw)
  else none
end
end Go.Proofs.YtljadeeoaoiilaaGreatDoor.P
