-- Written for this claim by the session's own run of the print, functions proved by hand put in.
import Derived.Test.YtojglflamecnkaaSq
import Derived.Test.YtojglflamecnkaaPx0
import Derived.Test.YtojglflamecnkaaPx4
namespace Go.Proofs.Ytojglflamecnkaa.P
open Go.RowKit Go.Proofs.YtojglflamecnkaaW.PrintWords Go.Proofs.YtojglflamecnkaaW.PrintLast Go.Proofs.YtojglflamecnkaaW.PrintMore
open List renaming setIfInBounds_toArray → sA_, set_cons_zero → sB_, set_cons_succ → sC_
open Go.Proofs.YtojglflamecnkaaW.PrintWords renaming below_alloc → wA_, pw_below_drewN → wN_, below_drew1 → wD_, below_size → wZ_, below_step → wT_
open Go.Proofs.YtojglflamecnkaaW.PrintWords.Kd renaming R_alloc → rA_, R_drewN → rN_, R_drew → rD_
attribute [local go_sem] max2_int min2_int max_two min_two max_three min_three max_four min_four   -- for this text's walks alone
set_option linter.unusedVariables false
set_option linter.unusedSimpArgs false
def r6_Pick.f (l0 : List ByteArray) (a1 : Int) : Option (ByteArray) := if (l0.length : Int) = 0 then (none) else (if 0 ≤ (Int.tmod (wrap64 ((Int.tmod a1 (l0.length : Int)) + (l0.length : Int))) (l0.length : Int)) then (if (Int.tmod (wrap64 ((Int.tmod a1 (l0.length : Int)) + (l0.length : Int))) (l0.length : Int)) < (l0.length : Int) then (some (rdOf ByteArray.empty l0 (Int.tmod (wrap64 ((Int.tmod a1 (l0.length : Int)) + (l0.length : Int))) (l0.length : Int)))) else (none)) else (none))
set_option maxHeartbeats 8000000 in
set_option maxRecDepth 100000 in
theorem r6_Pick.calls (A0 : Option Addr) (c0 : Nat) (l0 : List ByteArray) (a1 : Int) (r : ByteArray) (w : World) (hr0 : Kd.C Kd.string w A0 l0.length l0) (hc0 : l0.length ≤ c0) (h : r6_Pick.f l0 a1 = some r) :
  Calls Try.prog 35 #[.slice A0 l0.length c0, .int .i64 a1] w fun e w' => e = .returned (.string r) ∧ Drawn0 w w' := by
 have aS := Aside0.mk hr0
 have a2 := Aside0.mk hc0
 clear hr0 hc0
 have H : (if (l0.length : Int) = 0 then (none) else (if 0 ≤ (Int.tmod (wrap64 ((Int.tmod a1 (l0.length : Int)) + (l0.length : Int))) (l0.length : Int)) then (if (Int.tmod (wrap64 ((Int.tmod a1 (l0.length : Int)) + (l0.length : Int))) (l0.length : Int)) < (l0.length : Int) then (some (rdOf ByteArray.empty l0 (Int.tmod (wrap64 ((Int.tmod a1 (l0.length : Int)) + (l0.length : Int))) (l0.length : Int)))) else (none)) else (none))) = some r := h
 clear h
 by_cases c3 : (l0.length : Int) = 0
 ·rw [if_pos c3] at H
  exact absurd H (by simp)
 ·rw [if_neg c3] at H
  have aF : ((l0.length : Int) == 0) = false := beq_eq_false_iff_ne.mpr c3
  have aG : ((l0.length : Int) != 0) = true := bne_iff_ne.mpr c3
  have aT : ¬ (l0 = []) := fun h_ => c3 (by rw [h_]; rfl)
  obtain ⟨ji4, hji4⟩ : ∃ j_ : Int, (Int.tmod (wrap64 ((Int.tmod a1 (l0.length : Int)) + (l0.length : Int))) (l0.length : Int)) = j_ := ⟨_, rfl⟩
  replace H : (if 0 ≤ (ji4) then (if (ji4) < (l0.length : Int) then (some (rdOf ByteArray.empty l0 (ji4))) else (none)) else (none)) = some r := by first | (rw [hji4] at H; exact H) | (simp only [hji4] at H ⊢; exact H)
  by_cases c5 : 0 ≤ (ji4)
  ·rw [if_pos c5] at H
   have aU : decide (0 ≤ (ji4)) = true := decide_eq_true c5
   clear c5
   by_cases c6 : (ji4) < (l0.length : Int)
   ·rw [if_pos c6] at H
    have aH : decide ((ji4) < (l0.length : Int)) = true := decide_eq_true c6
    clear c6
    obtain rfl := Option.some.inj H
    have p171 : 0 ≤ ((ji4) : Int) := of_decide_eq_true Qa
    have q171 : (ji4) < (l0.length : Int) := of_decide_eq_true Qa
    obtain ⟨ad171, e171, hx171_0⟩ := Kd.at_string aS.out (ji4) p171 q171
    cases e171
    replace p171 := eq_true p171
    replace q171 := eq_true q171
    go_enter Try.func35, Try.ntmps35
    go_wp2
    go_ret
    exact ⟨by first | rfl | (simp; done) | (simp only [← hji4] <;> (first | rfl | simp)) | (simp [*]; done), Q0⟩
   ·rw [if_neg c6] at H
    exact absurd H (by simp)
  ·rw [if_neg c5] at H
   exact absurd H (by simp)
def r6_langs.f  : Option (List ByteArray) := some (([(⟨#[101, 110]⟩ : ByteArray), (⟨#[122, 104]⟩ : ByteArray), (⟨#[115, 114]⟩ : ByteArray), (⟨#[117, 110, 100]⟩ : ByteArray), (⟨#[105, 119]⟩ : ByteArray), (⟨#[110, 111]⟩ : ByteArray), (⟨#[115, 103, 110]⟩ : ByteArray), (⟨#[109, 111]⟩ : ByteArray), (⟨#[104, 97, 110, 116]⟩ : ByteArray), (⟨#[97, 98, 99, 100, 101, 102, 103, 104]⟩ : ByteArray), (⟨#[100, 101]⟩ : ByteArray), (⟨#[114, 111, 111, 116]⟩ : ByteArray)] : List ByteArray))
set_option maxHeartbeats 8000000 in
set_option maxRecDepth 100000 in
theorem r6_langs.calls  (r : List ByteArray) (w : World) (h : r6_langs.f  = some r) :
  Calls Try.prog 36 #[] w fun e w' => ∃ v0_ : Value, e = .returned (v0_) ∧ Kd.R Kd.string 9 w' w.heap.size (fun _ => True) v0_ r ∧ Below w.heap.size w w' := by
 have HB := Aside0.mk (Below.refl w.heap.size w)
 have H : (some (([(⟨#[101, 110]⟩ : ByteArray), (⟨#[122, 104]⟩ : ByteArray), (⟨#[115, 114]⟩ : ByteArray), (⟨#[117, 110, 100]⟩ : ByteArray), (⟨#[105, 119]⟩ : ByteArray), (⟨#[110, 111]⟩ : ByteArray), (⟨#[115, 103, 110]⟩ : ByteArray), (⟨#[109, 111]⟩ : ByteArray), (⟨#[104, 97, 110, 116]⟩ : ByteArray), (⟨#[97, 98, 99, 100, 101, 102, 103, 104]⟩ : ByteArray), (⟨#[100, 101]⟩ : ByteArray), (⟨#[114, 111, 111, 116]⟩ : ByteArray)] : List ByteArray))) = some r := h
 clear h
 obtain ⟨aI, ai⟩ : ∃ y_ : List ByteArray, y_ = (([(⟨#[101, 110]⟩ : ByteArray), (⟨#[122, 104]⟩ : ByteArray), (⟨#[115, 114]⟩ : ByteArray), (⟨#[117, 110, 100]⟩ : ByteArray), (⟨#[105, 119]⟩ : ByteArray), (⟨#[110, 111]⟩ : ByteArray), (⟨#[115, 103, 110]⟩ : ByteArray), (⟨#[109, 111]⟩ : ByteArray), (⟨#[104, 97, 110, 116]⟩ : ByteArray), (⟨#[97, 98, 99, 100, 101, 102, 103, 104]⟩ : ByteArray), (⟨#[100, 101]⟩ : ByteArray), (⟨#[114, 111, 111, 116]⟩ : ByteArray)] : List ByteArray)) := ⟨_, rfl⟩
 replace H : (some aI) = some r := by first | (rw [ai]; with_reducible exact H) | (have H2_ := (Option.bind_some _ _).symm.trans H; rw [ai]; with_reducible exact H2_) | (have H2_ := (Option.bind_some _ _).symm.trans H; with_reducible exact H2_) | with_reducible exact H | (rw [ai]; exact H) | exact H
 have au := Aside0.mk ai
 clear ai
 obtain rfl := Option.some.inj H
 go_enter Try.func36, Try.ntmps36
 go_wp2_with (first | ((with_reducible refine gate_dst (N := 1) rfl ?_); refine Kd.R_lit Kd.string _ 9 ?hg (N := 1) ?hd (xs := ([(⟨#[101, 110]⟩ : ByteArray), (⟨#[122, 104]⟩ : ByteArray), (⟨#[115, 114]⟩ : ByteArray), (⟨#[117, 110, 100]⟩ : ByteArray), (⟨#[105, 119]⟩ : ByteArray), (⟨#[110, 111]⟩ : ByteArray), (⟨#[115, 103, 110]⟩ : ByteArray), (⟨#[109, 111]⟩ : ByteArray), (⟨#[104, 97, 110, 116]⟩ : ByteArray), (⟨#[97, 98, 99, 100, 101, 102, 103, 104]⟩ : ByteArray), (⟨#[100, 101]⟩ : ByteArray), (⟨#[114, 111, 111, 116]⟩ : ByteArray)] : List ByteArray)) (inner := [.string (⟨#[101, 110]⟩ : ByteArray), .string (⟨#[122, 104]⟩ : ByteArray), .string (⟨#[115, 114]⟩ : ByteArray), .string (⟨#[117, 110, 100]⟩ : ByteArray), .string (⟨#[105, 119]⟩ : ByteArray), .string (⟨#[110, 111]⟩ : ByteArray), .string (⟨#[115, 103, 110]⟩ : ByteArray), .string (⟨#[109, 111]⟩ : ByteArray), .string (⟨#[104, 97, 110, 116]⟩ : ByteArray), .string (⟨#[97, 98, 99, 100, 101, 102, 103, 104]⟩ : ByteArray), .string (⟨#[100, 101]⟩ : ByteArray), .string (⟨#[114, 111, 111, 116]⟩ : ByteArray)]) (ok := fun _ => True) (okp := fun _ => True) ?hr ?hp (fun _ hk => hk) trivial (Below.refl _ _) (Nat.le_refl _) (by simp) ?_; (case hd => rfl); (case hg => rfl); (case hr => first | (go_simp; done) | (go_simp; rfl)); (case hp => exact (Reps.one (show Kd.M Kd.string _ _ _ (⟨#[101, 110]⟩ : ByteArray) [.string (⟨#[101, 110]⟩ : ByteArray)] from rfl) (Reps.one (show Kd.M Kd.string _ _ _ (⟨#[122, 104]⟩ : ByteArray) [.string (⟨#[122, 104]⟩ : ByteArray)] from rfl) (Reps.one (show Kd.M Kd.string _ _ _ (⟨#[115, 114]⟩ : ByteArray) [.string (⟨#[115, 114]⟩ : ByteArray)] from rfl) (Reps.one (show Kd.M Kd.string _ _ _ (⟨#[117, 110, 100]⟩ : ByteArray) [.string (⟨#[117, 110, 100]⟩ : ByteArray)] from rfl) (Reps.one (show Kd.M Kd.string _ _ _ (⟨#[105, 119]⟩ : ByteArray) [.string (⟨#[105, 119]⟩ : ByteArray)] from rfl) (Reps.one (show Kd.M Kd.string _ _ _ (⟨#[110, 111]⟩ : ByteArray) [.string (⟨#[110, 111]⟩ : ByteArray)] from rfl) (Reps.one (show Kd.M Kd.string _ _ _ (⟨#[115, 103, 110]⟩ : ByteArray) [.string (⟨#[115, 103, 110]⟩ : ByteArray)] from rfl) (Reps.one (show Kd.M Kd.string _ _ _ (⟨#[109, 111]⟩ : ByteArray) [.string (⟨#[109, 111]⟩ : ByteArray)] from rfl) (Reps.one (show Kd.M Kd.string _ _ _ (⟨#[104, 97, 110, 116]⟩ : ByteArray) [.string (⟨#[104, 97, 110, 116]⟩ : ByteArray)] from rfl) (Reps.one (show Kd.M Kd.string _ _ _ (⟨#[97, 98, 99, 100, 101, 102, 103, 104]⟩ : ByteArray) [.string (⟨#[97, 98, 99, 100, 101, 102, 103, 104]⟩ : ByteArray)] from rfl) (Reps.one (show Kd.M Kd.string _ _ _ (⟨#[100, 101]⟩ : ByteArray) [.string (⟨#[100, 101]⟩ : ByteArray)] from rfl) (Reps.one (show Kd.M Kd.string _ _ _ (⟨#[114, 111, 111, 116]⟩ : ByteArray) [.string (⟨#[114, 111, 111, 116]⟩ : ByteArray)] from rfl) (Reps.none _ _)))))))))))))); intro v173 w1 ho2 hb hg_ hnew_; clear hg_ hnew_; (first | rw [← au.out] at ho2 | (simp only [Int.reduceToNat] at ho2; rw [← au.out] at ho2)); have ac := Aside0.mk (Kd.R_lower ho2 (wZ_ (Qw HB.out))); have ar := Aside0.mk (wT_ (Qw HB.out) hb); clear HB; have aA := ac; have HB := ar; clear ac ar; clear hb ho2))
 go_ret
 exact ⟨_, Qe, Qr aA.out, Qw HB.out⟩
def r6_scripts.f  : Option (List ByteArray) := some (([(⟨#[]⟩ : ByteArray), (⟨#[]⟩ : ByteArray), (⟨#[108, 97, 116, 110]⟩ : ByteArray), (⟨#[99, 121, 114, 108]⟩ : ByteArray), (⟨#[104, 97, 110, 115]⟩ : ByteArray), (⟨#[113, 97, 97, 105]⟩ : ByteArray), (⟨#[104, 97, 110, 116]⟩ : ByteArray)] : List ByteArray))
set_option maxHeartbeats 8000000 in
set_option maxRecDepth 100000 in
theorem r6_scripts.calls  (r : List ByteArray) (w : World) (h : r6_scripts.f  = some r) :
  Calls Try.prog 37 #[] w fun e w' => ∃ v0_ : Value, e = .returned (v0_) ∧ Kd.R Kd.string 9 w' w.heap.size (fun _ => True) v0_ r ∧ Below w.heap.size w w' := by
 have HB := Aside0.mk (Below.refl w.heap.size w)
 have H : (some (([(⟨#[]⟩ : ByteArray), (⟨#[]⟩ : ByteArray), (⟨#[108, 97, 116, 110]⟩ : ByteArray), (⟨#[99, 121, 114, 108]⟩ : ByteArray), (⟨#[104, 97, 110, 115]⟩ : ByteArray), (⟨#[113, 97, 97, 105]⟩ : ByteArray), (⟨#[104, 97, 110, 116]⟩ : ByteArray)] : List ByteArray))) = some r := h
 clear h
 obtain ⟨aJ, aj⟩ : ∃ y_ : List ByteArray, y_ = (([(⟨#[]⟩ : ByteArray), (⟨#[]⟩ : ByteArray), (⟨#[108, 97, 116, 110]⟩ : ByteArray), (⟨#[99, 121, 114, 108]⟩ : ByteArray), (⟨#[104, 97, 110, 115]⟩ : ByteArray), (⟨#[113, 97, 97, 105]⟩ : ByteArray), (⟨#[104, 97, 110, 116]⟩ : ByteArray)] : List ByteArray)) := ⟨_, rfl⟩
 replace H : (some aJ) = some r := by first | (rw [aj]; with_reducible exact H) | (have H2_ := (Option.bind_some _ _).symm.trans H; rw [aj]; with_reducible exact H2_) | (have H2_ := (Option.bind_some _ _).symm.trans H; with_reducible exact H2_) | with_reducible exact H | (rw [aj]; exact H) | exact H
 have av := Aside0.mk aj
 clear aj
 obtain rfl := Option.some.inj H
 go_enter Try.func37, Try.ntmps37
 go_wp2_with (first | ((with_reducible refine gate_dst (N := 1) rfl ?_); refine Kd.R_lit Kd.string _ 9 ?hg (N := 1) ?hd (xs := ([(⟨#[]⟩ : ByteArray), (⟨#[]⟩ : ByteArray), (⟨#[108, 97, 116, 110]⟩ : ByteArray), (⟨#[99, 121, 114, 108]⟩ : ByteArray), (⟨#[104, 97, 110, 115]⟩ : ByteArray), (⟨#[113, 97, 97, 105]⟩ : ByteArray), (⟨#[104, 97, 110, 116]⟩ : ByteArray)] : List ByteArray)) (inner := [.string (⟨#[]⟩ : ByteArray), .string (⟨#[]⟩ : ByteArray), .string (⟨#[108, 97, 116, 110]⟩ : ByteArray), .string (⟨#[99, 121, 114, 108]⟩ : ByteArray), .string (⟨#[104, 97, 110, 115]⟩ : ByteArray), .string (⟨#[113, 97, 97, 105]⟩ : ByteArray), .string (⟨#[104, 97, 110, 116]⟩ : ByteArray)]) (ok := fun _ => True) (okp := fun _ => True) ?hr ?hp (fun _ hk => hk) trivial (Below.refl _ _) (Nat.le_refl _) (by simp) ?_; (case hd => rfl); (case hg => rfl); (case hr => first | (go_simp; done) | (go_simp; rfl)); (case hp => exact (Reps.one (show Kd.M Kd.string _ _ _ (⟨#[]⟩ : ByteArray) [.string (⟨#[]⟩ : ByteArray)] from rfl) (Reps.one (show Kd.M Kd.string _ _ _ (⟨#[]⟩ : ByteArray) [.string (⟨#[]⟩ : ByteArray)] from rfl) (Reps.one (show Kd.M Kd.string _ _ _ (⟨#[108, 97, 116, 110]⟩ : ByteArray) [.string (⟨#[108, 97, 116, 110]⟩ : ByteArray)] from rfl) (Reps.one (show Kd.M Kd.string _ _ _ (⟨#[99, 121, 114, 108]⟩ : ByteArray) [.string (⟨#[99, 121, 114, 108]⟩ : ByteArray)] from rfl) (Reps.one (show Kd.M Kd.string _ _ _ (⟨#[104, 97, 110, 115]⟩ : ByteArray) [.string (⟨#[104, 97, 110, 115]⟩ : ByteArray)] from rfl) (Reps.one (show Kd.M Kd.string _ _ _ (⟨#[113, 97, 97, 105]⟩ : ByteArray) [.string (⟨#[113, 97, 97, 105]⟩ : ByteArray)] from rfl) (Reps.one (show Kd.M Kd.string _ _ _ (⟨#[104, 97, 110, 116]⟩ : ByteArray) [.string (⟨#[104, 97, 110, 116]⟩ : ByteArray)] from rfl) (Reps.none _ _))))))))); intro v176 w1 ho2 hb hg_ hnew_; clear hg_ hnew_; (first | rw [← av.out] at ho2 | (simp only [Int.reduceToNat] at ho2; rw [← av.out] at ho2)); have ac := Aside0.mk (Kd.R_lower ho2 (wZ_ (Qw HB.out))); have ar := Aside0.mk (wT_ (Qw HB.out) hb); clear HB; have aB := ac; have HB := ar; clear ac ar; clear hb ho2))
 go_ret
 exact ⟨_, Qe, Qr aB.out, Qw HB.out⟩
def r6_regions.f  : Option (List ByteArray) := some (([(⟨#[]⟩ : ByteArray), (⟨#[]⟩ : ByteArray), (⟨#[117, 115]⟩ : ByteArray), (⟨#[103, 98]⟩ : ByteArray), (⟨#[52, 49, 57]⟩ : ByteArray), (⟨#[100, 100]⟩ : ByteArray), (⟨#[99, 110]⟩ : ByteArray), (⟨#[98, 114]⟩ : ByteArray), (⟨#[115, 117]⟩ : ByteArray)] : List ByteArray))
set_option maxHeartbeats 8000000 in
set_option maxRecDepth 100000 in
theorem r6_regions.calls  (r : List ByteArray) (w : World) (h : r6_regions.f  = some r) :
  Calls Try.prog 38 #[] w fun e w' => ∃ v0_ : Value, e = .returned (v0_) ∧ Kd.R Kd.string 9 w' w.heap.size (fun _ => True) v0_ r ∧ Below w.heap.size w w' := by
 have HB := Aside0.mk (Below.refl w.heap.size w)
 have H : (some (([(⟨#[]⟩ : ByteArray), (⟨#[]⟩ : ByteArray), (⟨#[117, 115]⟩ : ByteArray), (⟨#[103, 98]⟩ : ByteArray), (⟨#[52, 49, 57]⟩ : ByteArray), (⟨#[100, 100]⟩ : ByteArray), (⟨#[99, 110]⟩ : ByteArray), (⟨#[98, 114]⟩ : ByteArray), (⟨#[115, 117]⟩ : ByteArray)] : List ByteArray))) = some r := h
 clear h
 obtain ⟨aK, ak⟩ : ∃ y_ : List ByteArray, y_ = (([(⟨#[]⟩ : ByteArray), (⟨#[]⟩ : ByteArray), (⟨#[117, 115]⟩ : ByteArray), (⟨#[103, 98]⟩ : ByteArray), (⟨#[52, 49, 57]⟩ : ByteArray), (⟨#[100, 100]⟩ : ByteArray), (⟨#[99, 110]⟩ : ByteArray), (⟨#[98, 114]⟩ : ByteArray), (⟨#[115, 117]⟩ : ByteArray)] : List ByteArray)) := ⟨_, rfl⟩
 replace H : (some aK) = some r := by first | (rw [ak]; with_reducible exact H) | (have H2_ := (Option.bind_some _ _).symm.trans H; rw [ak]; with_reducible exact H2_) | (have H2_ := (Option.bind_some _ _).symm.trans H; with_reducible exact H2_) | with_reducible exact H | (rw [ak]; exact H) | exact H
 have aw := Aside0.mk ak
 clear ak
 obtain rfl := Option.some.inj H
 go_enter Try.func38, Try.ntmps38
 go_wp2_with (first | ((with_reducible refine gate_dst (N := 1) rfl ?_); refine Kd.R_lit Kd.string _ 9 ?hg (N := 1) ?hd (xs := ([(⟨#[]⟩ : ByteArray), (⟨#[]⟩ : ByteArray), (⟨#[117, 115]⟩ : ByteArray), (⟨#[103, 98]⟩ : ByteArray), (⟨#[52, 49, 57]⟩ : ByteArray), (⟨#[100, 100]⟩ : ByteArray), (⟨#[99, 110]⟩ : ByteArray), (⟨#[98, 114]⟩ : ByteArray), (⟨#[115, 117]⟩ : ByteArray)] : List ByteArray)) (inner := [.string (⟨#[]⟩ : ByteArray), .string (⟨#[]⟩ : ByteArray), .string (⟨#[117, 115]⟩ : ByteArray), .string (⟨#[103, 98]⟩ : ByteArray), .string (⟨#[52, 49, 57]⟩ : ByteArray), .string (⟨#[100, 100]⟩ : ByteArray), .string (⟨#[99, 110]⟩ : ByteArray), .string (⟨#[98, 114]⟩ : ByteArray), .string (⟨#[115, 117]⟩ : ByteArray)]) (ok := fun _ => True) (okp := fun _ => True) ?hr ?hp (fun _ hk => hk) trivial (Below.refl _ _) (Nat.le_refl _) (by simp) ?_; (case hd => rfl); (case hg => rfl); (case hr => first | (go_simp; done) | (go_simp; rfl)); (case hp => exact (Reps.one (show Kd.M Kd.string _ _ _ (⟨#[]⟩ : ByteArray) [.string (⟨#[]⟩ : ByteArray)] from rfl) (Reps.one (show Kd.M Kd.string _ _ _ (⟨#[]⟩ : ByteArray) [.string (⟨#[]⟩ : ByteArray)] from rfl) (Reps.one (show Kd.M Kd.string _ _ _ (⟨#[117, 115]⟩ : ByteArray) [.string (⟨#[117, 115]⟩ : ByteArray)] from rfl) (Reps.one (show Kd.M Kd.string _ _ _ (⟨#[103, 98]⟩ : ByteArray) [.string (⟨#[103, 98]⟩ : ByteArray)] from rfl) (Reps.one (show Kd.M Kd.string _ _ _ (⟨#[52, 49, 57]⟩ : ByteArray) [.string (⟨#[52, 49, 57]⟩ : ByteArray)] from rfl) (Reps.one (show Kd.M Kd.string _ _ _ (⟨#[100, 100]⟩ : ByteArray) [.string (⟨#[100, 100]⟩ : ByteArray)] from rfl) (Reps.one (show Kd.M Kd.string _ _ _ (⟨#[99, 110]⟩ : ByteArray) [.string (⟨#[99, 110]⟩ : ByteArray)] from rfl) (Reps.one (show Kd.M Kd.string _ _ _ (⟨#[98, 114]⟩ : ByteArray) [.string (⟨#[98, 114]⟩ : ByteArray)] from rfl) (Reps.one (show Kd.M Kd.string _ _ _ (⟨#[115, 117]⟩ : ByteArray) [.string (⟨#[115, 117]⟩ : ByteArray)] from rfl) (Reps.none _ _))))))))))); intro v179 w1 ho2 hb hg_ hnew_; clear hg_ hnew_; (first | rw [← aw.out] at ho2 | (simp only [Int.reduceToNat] at ho2; rw [← aw.out] at ho2)); have ac := Aside0.mk (Kd.R_lower ho2 (wZ_ (Qw HB.out))); have ar := Aside0.mk (wT_ (Qw HB.out) hb); clear HB; have aC := ac; have HB := ar; clear ac ar; clear hb ho2))
 go_ret
 exact ⟨_, Qe, Qr aC.out, Qw HB.out⟩
def r6_variants.f  : Option (List ByteArray) := some (([(⟨#[49, 57, 57, 52]⟩ : ByteArray), (⟨#[104, 101, 112, 108, 111, 99]⟩ : ByteArray), (⟨#[102, 111, 110, 105, 112, 97]⟩ : ByteArray), (⟨#[97, 114, 101, 118, 101, 108, 97]⟩ : ByteArray), (⟨#[49, 97, 50, 98]⟩ : ByteArray), (⟨#[115, 99, 111, 117, 115, 101]⟩ : ByteArray)] : List ByteArray))
set_option maxHeartbeats 8000000 in
set_option maxRecDepth 100000 in
theorem r6_variants.calls  (r : List ByteArray) (w : World) (h : r6_variants.f  = some r) :
  Calls Try.prog 39 #[] w fun e w' => ∃ v0_ : Value, e = .returned (v0_) ∧ Kd.R Kd.string 9 w' w.heap.size (fun _ => True) v0_ r ∧ Below w.heap.size w w' := by
 have HB := Aside0.mk (Below.refl w.heap.size w)
 have H : (some (([(⟨#[49, 57, 57, 52]⟩ : ByteArray), (⟨#[104, 101, 112, 108, 111, 99]⟩ : ByteArray), (⟨#[102, 111, 110, 105, 112, 97]⟩ : ByteArray), (⟨#[97, 114, 101, 118, 101, 108, 97]⟩ : ByteArray), (⟨#[49, 97, 50, 98]⟩ : ByteArray), (⟨#[115, 99, 111, 117, 115, 101]⟩ : ByteArray)] : List ByteArray))) = some r := h
 clear h
 obtain ⟨aL, al⟩ : ∃ y_ : List ByteArray, y_ = (([(⟨#[49, 57, 57, 52]⟩ : ByteArray), (⟨#[104, 101, 112, 108, 111, 99]⟩ : ByteArray), (⟨#[102, 111, 110, 105, 112, 97]⟩ : ByteArray), (⟨#[97, 114, 101, 118, 101, 108, 97]⟩ : ByteArray), (⟨#[49, 97, 50, 98]⟩ : ByteArray), (⟨#[115, 99, 111, 117, 115, 101]⟩ : ByteArray)] : List ByteArray)) := ⟨_, rfl⟩
 replace H : (some aL) = some r := by first | (rw [al]; with_reducible exact H) | (have H2_ := (Option.bind_some _ _).symm.trans H; rw [al]; with_reducible exact H2_) | (have H2_ := (Option.bind_some _ _).symm.trans H; with_reducible exact H2_) | with_reducible exact H | (rw [al]; exact H) | exact H
 have ax := Aside0.mk al
 clear al
 obtain rfl := Option.some.inj H
 go_enter Try.func39, Try.ntmps39
 go_wp2_with (first | ((with_reducible refine gate_dst (N := 1) rfl ?_); refine Kd.R_lit Kd.string _ 9 ?hg (N := 1) ?hd (xs := ([(⟨#[49, 57, 57, 52]⟩ : ByteArray), (⟨#[104, 101, 112, 108, 111, 99]⟩ : ByteArray), (⟨#[102, 111, 110, 105, 112, 97]⟩ : ByteArray), (⟨#[97, 114, 101, 118, 101, 108, 97]⟩ : ByteArray), (⟨#[49, 97, 50, 98]⟩ : ByteArray), (⟨#[115, 99, 111, 117, 115, 101]⟩ : ByteArray)] : List ByteArray)) (inner := [.string (⟨#[49, 57, 57, 52]⟩ : ByteArray), .string (⟨#[104, 101, 112, 108, 111, 99]⟩ : ByteArray), .string (⟨#[102, 111, 110, 105, 112, 97]⟩ : ByteArray), .string (⟨#[97, 114, 101, 118, 101, 108, 97]⟩ : ByteArray), .string (⟨#[49, 97, 50, 98]⟩ : ByteArray), .string (⟨#[115, 99, 111, 117, 115, 101]⟩ : ByteArray)]) (ok := fun _ => True) (okp := fun _ => True) ?hr ?hp (fun _ hk => hk) trivial (Below.refl _ _) (Nat.le_refl _) (by simp) ?_; (case hd => rfl); (case hg => rfl); (case hr => first | (go_simp; done) | (go_simp; rfl)); (case hp => exact (Reps.one (show Kd.M Kd.string _ _ _ (⟨#[49, 57, 57, 52]⟩ : ByteArray) [.string (⟨#[49, 57, 57, 52]⟩ : ByteArray)] from rfl) (Reps.one (show Kd.M Kd.string _ _ _ (⟨#[104, 101, 112, 108, 111, 99]⟩ : ByteArray) [.string (⟨#[104, 101, 112, 108, 111, 99]⟩ : ByteArray)] from rfl) (Reps.one (show Kd.M Kd.string _ _ _ (⟨#[102, 111, 110, 105, 112, 97]⟩ : ByteArray) [.string (⟨#[102, 111, 110, 105, 112, 97]⟩ : ByteArray)] from rfl) (Reps.one (show Kd.M Kd.string _ _ _ (⟨#[97, 114, 101, 118, 101, 108, 97]⟩ : ByteArray) [.string (⟨#[97, 114, 101, 118, 101, 108, 97]⟩ : ByteArray)] from rfl) (Reps.one (show Kd.M Kd.string _ _ _ (⟨#[49, 97, 50, 98]⟩ : ByteArray) [.string (⟨#[49, 97, 50, 98]⟩ : ByteArray)] from rfl) (Reps.one (show Kd.M Kd.string _ _ _ (⟨#[115, 99, 111, 117, 115, 101]⟩ : ByteArray) [.string (⟨#[115, 99, 111, 117, 115, 101]⟩ : ByteArray)] from rfl) (Reps.none _ _)))))))); intro v182 w1 ho2 hb hg_ hnew_; clear hg_ hnew_; (first | rw [← ax.out] at ho2 | (simp only [Int.reduceToNat] at ho2; rw [← ax.out] at ho2)); have ac := Aside0.mk (Kd.R_lower ho2 (wZ_ (Qw HB.out))); have ar := Aside0.mk (wT_ (Qw HB.out) hb); clear HB; have aD := ac; have HB := ar; clear ac ar; clear hb ho2))
 go_ret
 exact ⟨_, Qe, Qr aD.out, Qw HB.out⟩
def r6_words.f  : Option (List ByteArray) := some (([(⟨#[99, 97]⟩ : ByteArray), (⟨#[98, 117, 100, 100, 104, 105, 115, 116]⟩ : ByteArray), (⟨#[99, 111]⟩ : ByteArray), (⟨#[116, 114, 117, 101]⟩ : ByteArray), (⟨#[107, 110]⟩ : ByteArray), (⟨#[112, 104, 111, 110, 101, 98, 107]⟩ : ByteArray), (⟨#[109, 48]⟩ : ByteArray), (⟨#[101, 110]⟩ : ByteArray), (⟨#[97, 98, 49]⟩ : ByteArray), (⟨#[105, 115, 108, 97, 109, 105, 99, 99]⟩ : ByteArray), (⟨#[104, 48]⟩ : ByteArray)] : List ByteArray))
set_option maxHeartbeats 8000000 in
set_option maxRecDepth 100000 in
theorem r6_words.calls  (r : List ByteArray) (w : World) (h : r6_words.f  = some r) :
  Calls Try.prog 40 #[] w fun e w' => ∃ v0_ : Value, e = .returned (v0_) ∧ Kd.R Kd.string 9 w' w.heap.size (fun _ => True) v0_ r ∧ Below w.heap.size w w' := by
 have HB := Aside0.mk (Below.refl w.heap.size w)
 have H : (some (([(⟨#[99, 97]⟩ : ByteArray), (⟨#[98, 117, 100, 100, 104, 105, 115, 116]⟩ : ByteArray), (⟨#[99, 111]⟩ : ByteArray), (⟨#[116, 114, 117, 101]⟩ : ByteArray), (⟨#[107, 110]⟩ : ByteArray), (⟨#[112, 104, 111, 110, 101, 98, 107]⟩ : ByteArray), (⟨#[109, 48]⟩ : ByteArray), (⟨#[101, 110]⟩ : ByteArray), (⟨#[97, 98, 49]⟩ : ByteArray), (⟨#[105, 115, 108, 97, 109, 105, 99, 99]⟩ : ByteArray), (⟨#[104, 48]⟩ : ByteArray)] : List ByteArray))) = some r := h
 clear h
 obtain ⟨aM, am⟩ : ∃ y_ : List ByteArray, y_ = (([(⟨#[99, 97]⟩ : ByteArray), (⟨#[98, 117, 100, 100, 104, 105, 115, 116]⟩ : ByteArray), (⟨#[99, 111]⟩ : ByteArray), (⟨#[116, 114, 117, 101]⟩ : ByteArray), (⟨#[107, 110]⟩ : ByteArray), (⟨#[112, 104, 111, 110, 101, 98, 107]⟩ : ByteArray), (⟨#[109, 48]⟩ : ByteArray), (⟨#[101, 110]⟩ : ByteArray), (⟨#[97, 98, 49]⟩ : ByteArray), (⟨#[105, 115, 108, 97, 109, 105, 99, 99]⟩ : ByteArray), (⟨#[104, 48]⟩ : ByteArray)] : List ByteArray)) := ⟨_, rfl⟩
 replace H : (some aM) = some r := by first | (rw [am]; with_reducible exact H) | (have H2_ := (Option.bind_some _ _).symm.trans H; rw [am]; with_reducible exact H2_) | (have H2_ := (Option.bind_some _ _).symm.trans H; with_reducible exact H2_) | with_reducible exact H | (rw [am]; exact H) | exact H
 have ay := Aside0.mk am
 clear am
 obtain rfl := Option.some.inj H
 go_enter Try.func40, Try.ntmps40
 go_wp2_with (first | ((with_reducible refine gate_dst (N := 1) rfl ?_); refine Kd.R_lit Kd.string _ 9 ?hg (N := 1) ?hd (xs := ([(⟨#[99, 97]⟩ : ByteArray), (⟨#[98, 117, 100, 100, 104, 105, 115, 116]⟩ : ByteArray), (⟨#[99, 111]⟩ : ByteArray), (⟨#[116, 114, 117, 101]⟩ : ByteArray), (⟨#[107, 110]⟩ : ByteArray), (⟨#[112, 104, 111, 110, 101, 98, 107]⟩ : ByteArray), (⟨#[109, 48]⟩ : ByteArray), (⟨#[101, 110]⟩ : ByteArray), (⟨#[97, 98, 49]⟩ : ByteArray), (⟨#[105, 115, 108, 97, 109, 105, 99, 99]⟩ : ByteArray), (⟨#[104, 48]⟩ : ByteArray)] : List ByteArray)) (inner := [.string (⟨#[99, 97]⟩ : ByteArray), .string (⟨#[98, 117, 100, 100, 104, 105, 115, 116]⟩ : ByteArray), .string (⟨#[99, 111]⟩ : ByteArray), .string (⟨#[116, 114, 117, 101]⟩ : ByteArray), .string (⟨#[107, 110]⟩ : ByteArray), .string (⟨#[112, 104, 111, 110, 101, 98, 107]⟩ : ByteArray), .string (⟨#[109, 48]⟩ : ByteArray), .string (⟨#[101, 110]⟩ : ByteArray), .string (⟨#[97, 98, 49]⟩ : ByteArray), .string (⟨#[105, 115, 108, 97, 109, 105, 99, 99]⟩ : ByteArray), .string (⟨#[104, 48]⟩ : ByteArray)]) (ok := fun _ => True) (okp := fun _ => True) ?hr ?hp (fun _ hk => hk) trivial (Below.refl _ _) (Nat.le_refl _) (by simp) ?_; (case hd => rfl); (case hg => rfl); (case hr => first | (go_simp; done) | (go_simp; rfl)); (case hp => exact (Reps.one (show Kd.M Kd.string _ _ _ (⟨#[99, 97]⟩ : ByteArray) [.string (⟨#[99, 97]⟩ : ByteArray)] from rfl) (Reps.one (show Kd.M Kd.string _ _ _ (⟨#[98, 117, 100, 100, 104, 105, 115, 116]⟩ : ByteArray) [.string (⟨#[98, 117, 100, 100, 104, 105, 115, 116]⟩ : ByteArray)] from rfl) (Reps.one (show Kd.M Kd.string _ _ _ (⟨#[99, 111]⟩ : ByteArray) [.string (⟨#[99, 111]⟩ : ByteArray)] from rfl) (Reps.one (show Kd.M Kd.string _ _ _ (⟨#[116, 114, 117, 101]⟩ : ByteArray) [.string (⟨#[116, 114, 117, 101]⟩ : ByteArray)] from rfl) (Reps.one (show Kd.M Kd.string _ _ _ (⟨#[107, 110]⟩ : ByteArray) [.string (⟨#[107, 110]⟩ : ByteArray)] from rfl) (Reps.one (show Kd.M Kd.string _ _ _ (⟨#[112, 104, 111, 110, 101, 98, 107]⟩ : ByteArray) [.string (⟨#[112, 104, 111, 110, 101, 98, 107]⟩ : ByteArray)] from rfl) (Reps.one (show Kd.M Kd.string _ _ _ (⟨#[109, 48]⟩ : ByteArray) [.string (⟨#[109, 48]⟩ : ByteArray)] from rfl) (Reps.one (show Kd.M Kd.string _ _ _ (⟨#[101, 110]⟩ : ByteArray) [.string (⟨#[101, 110]⟩ : ByteArray)] from rfl) (Reps.one (show Kd.M Kd.string _ _ _ (⟨#[97, 98, 49]⟩ : ByteArray) [.string (⟨#[97, 98, 49]⟩ : ByteArray)] from rfl) (Reps.one (show Kd.M Kd.string _ _ _ (⟨#[105, 115, 108, 97, 109, 105, 99, 99]⟩ : ByteArray) [.string (⟨#[105, 115, 108, 97, 109, 105, 99, 99]⟩ : ByteArray)] from rfl) (Reps.one (show Kd.M Kd.string _ _ _ (⟨#[104, 48]⟩ : ByteArray) [.string (⟨#[104, 48]⟩ : ByteArray)] from rfl) (Reps.none _ _))))))))))))); intro v185 w1 ho2 hb hg_ hnew_; clear hg_ hnew_; (first | rw [← ay.out] at ho2 | (simp only [Int.reduceToNat] at ho2; rw [← ay.out] at ho2)); have ac := Aside0.mk (Kd.R_lower ho2 (wZ_ (Qw HB.out))); have ar := Aside0.mk (wT_ (Qw HB.out) hb); clear HB; have aE := ac; have HB := ar; clear ac ar; clear hb ho2))
 go_ret
 exact ⟨_, Qe, Qr aE.out, Qw HB.out⟩
def r2_Title.f (k : Nat) (a0 : ByteArray) : Option (ByteArray) := if a0.toList = ([] : List UInt8) then (some (⟨#[]⟩ : ByteArray)) else (if 0 ≤ 1 then (if 1 ≤ (a0.size : Int) then ((r2_Upper.f k (a0.extract 0 1)).bind fun ab => ((r2_Lower.f k (a0.extract 1 a0.size)).bind fun aa => (if ab.size + aa.size ≤ 9223372036854775807 then (some (ab ++ aa)) else (none)))) else (none)) else (none))
def r2_Title.T3 : Bool × List (List Nat × List Nat) := (true, [([], []), ([0], [0]), ([1], [1]), ([], []), ([3], [3]), ([4, 2], [4]), ([2, 5], [2, 5]), ([6, 5, 0, 1, 2, 3, 4, 5, 6], [6])])
def r2_Title.B3 : List Nat := [0, 1, 3, 0, 8, 31, 63, 127]
theorem r2_Title.tab3 : rtab .any (opsOf Try.f58 3) = r2_Title.T3 := by kernel_rfl
theorem r2_Title.bits3 : waitsOk r2_Title.T3.2 r2_Title.B3 = true := by kernel_rfl
set_option maxHeartbeats 8000000 in
set_option maxRecDepth 100000 in
theorem r2_Title.calls (k : Nat) (a0 : ByteArray) (r : ByteArray) (w : World) (h : r2_Title.f k a0 = some r) :
  Calls Try.prog 58 #[.string a0] w fun e w' => e = .returned (.string r) ∧ Below w.heap.size w w' := by
 have HB := Aside0.mk (Below.refl w.heap.size w)
 have H : (if a0.toList = ([] : List UInt8) then (some (⟨#[]⟩ : ByteArray)) else (if 0 ≤ 1 then (if 1 ≤ (a0.size : Int) then ((r2_Upper.f k (a0.extract 0 1)).bind fun ab => ((r2_Lower.f k (a0.extract 1 a0.size)).bind fun aa => (if ab.size + aa.size ≤ 9223372036854775807 then (some (ab ++ aa)) else (none)))) else (none)) else (none))) = some r := h
 clear h
 by_cases c2 : a0.toList = ([] : List UInt8)
 ·rw [if_pos c2] at H
  have aN : (a0.toList == ([] : List UInt8)) = true := beq_iff_eq.mpr c2
  have az : a0.toList.isEmpty = true := List.isEmpty_iff.2 c2
  have aO : (!a0.toList.isEmpty) = false := by rw [az]; rfl
  have aP : (a0.toList != ([] : List UInt8)) = false := bne_eq_false_iff_eq.mpr c2
  clear c2
  obtain rfl := Option.some.inj H
  go_enter Try.func58, Try.ntmps58
  go_wp2
  go_ret
  exact ⟨Qe, Qw HB.out⟩
 ·rw [if_neg c2] at H
  have aN : (a0.toList == ([] : List UInt8)) = false := beq_eq_false_iff_ne.mpr c2
  have az : a0.toList.isEmpty = false := List.isEmpty_eq_false_iff.2 c2
  have aO : (!a0.toList.isEmpty) = true := by rw [az]; rfl
  have aP : (a0.toList != ([] : List UInt8)) = true := bne_iff_ne.mpr c2
  by_cases c3 : 0 ≤ 1
  ·rw [if_pos c3] at H
   have aF := eq_true c3
   have aG : decide (0 ≤ 1) = true := decide_eq_true c3
   clear c3
   by_cases c4 : 1 ≤ (a0.size : Int)
   ·rw [if_pos c4] at H
    have aV := eq_true c4
    have aW : decide (1 ≤ (a0.size : Int)) = true := decide_eq_true c4
    clear c4
    replace H := Option.bind_eq_some_iff.mp H
    obtain ⟨ab, aQ, H⟩ := H
    replace H : ((r2_Lower.f k (a0.extract 1 a0.size)).bind fun aa => (if ab.size + aa.size ≤ 9223372036854775807 then (some (ab ++ aa)) else (none))) = some r := H
    have A5 := Aside0.mk aQ
    clear aQ
    have aH := eq_true (of_decide_eq_true Qa : 1 ≤ (a0.size : Int))
    replace H := Option.bind_eq_some_iff.mp H
    obtain ⟨aa, aR, H⟩ := H
    replace H : (if ab.size + aa.size ≤ 9223372036854775807 then (some (ab ++ aa)) else (none)) = some r := H
    have A7 := Aside0.mk aR
    clear aR
    by_cases c8 : ab.size + aa.size ≤ 9223372036854775807
    ·rw [if_pos c8] at H
     have aX := eq_true c8
     have aY : decide (ab.size + aa.size ≤ 9223372036854775807) = true := decide_eq_true c8
     try have aZ : (9223372036854775807 < ab.size + aa.size) = False := eq_false (Nat.not_lt.2 c8)
     obtain rfl := Option.some.inj H
     go_enter Try.func58, Try.ntmps58
     try go_wp2
     have ac := Aside0.mk (wD_ HB.out)
     clear HB
     have HB := ac
     clear ac
     refine start_ (n := 8) (S := fun w' => True) (ds := []) #[false, false, false, false, false, false, false, false] (by kernel_rfl) rfl rfl trivial (fun hHeld => ?_); refine with_tabW r2_Title.tab3 r2_Title.bits3 (fun HT_ HW_ => ?_)
     generalize w.drew = w9 at HB hHeld ⊢
     refine pu_ (i := 0) (N := some 5) HT_ (bl_ 8 1) ?_
     refine pu_ (i := 1) (N := some 6) HT_ (bl_ 8 3) ?_
     refine pu_ (i := 3) (N := some 8) HT_ (bl_ 8 11) ?_
     refine pu_ (i := 4) (N := some 9) HT_ (bl_ 8 27) ?_
     refine on_ (i := 2) (N := some 7) HT_ (bl_ 8 31) rfl rfl (fun K hK => ?_)
     refine goes_ Try.func13 (by kernel_rfl) rfl #[.string (a0.extract 0 1)] (by rfl) rfl rfl Qm ?_
     with_reducible refine (r2_Upper.calls k (a0.extract 0 1) ab _ A5.out).mono ?_
     rintro e w10 ⟨rfl, hb⟩
     refine ⟨_, rfl, ?_⟩
     have ac := Aside0.mk (wT_ (Qw HB.out) hb)
     clear HB
     have HB := ac
     clear ac
     (try clear hb); (try clear hb2); (try clear hk); (try clear hi)
     refine hK.out _ _ trivial (fun hHeld => ?_)
     clear hK K
     refine nm_ (some 7) ?_
     refine on_ (i := 5) (N := some 10) HT_ (bl_ 8 63) rfl rfl (fun K hK => ?_)
     refine goes_ Try.func12 (by kernel_rfl) rfl #[.string (a0.extract 1 a0.size)] (by rfl) rfl rfl Qm ?_
     with_reducible refine (r2_Lower.calls k (a0.extract 1 a0.size) aa _ A7.out).mono ?_
     rintro e w11 ⟨rfl, hb⟩
     refine ⟨_, rfl, ?_⟩
     have ac := Aside0.mk (wT_ (Qw HB.out) hb)
     clear HB
     have HB := ac
     clear ac
     (try clear hb); (try clear hb2); (try clear hk); (try clear hi)
     refine hK.out _ _ trivial (fun hHeld => ?_)
     clear hK K
     refine nm_ (some 10) ?_
     refine pu_ (i := 6) (N := some 11) HT_ (bl_ 8 127) ?_
     refine pu_ (i := 7) (N := some 2) HT_ (bl_ 8 255) ?_
     refine done_ (done_of HT_.out (by kernel_rfl)) ?_
     try go_wp2
     go_ret
     exact ⟨Qe, Qw HB.out⟩
    ·rw [if_neg c8] at H
     exact absurd H (by simp)
   ·rw [if_neg c4] at H
    exact absurd H (by simp)
  ·rw [if_neg c3] at H
   exact absurd H (by simp)
section
set_option linter.unusedVariables false
def r6_spoilt.f (k : Nat) (ao : ByteArray) (ag : List ByteArray) (ap : ByteArray) (ah : ByteArray) (ad : List ByteArray) (ae : List (S62)) (af : List ByteArray) (aq : ByteArray) (a1 : Int) : Option (ByteArray × List ByteArray × ByteArray × ByteArray × List ByteArray × (List (S62)) × List ByteArray × ByteArray) :=
  if ad.length ≤ 1000 ∧ ae.length ≤ 1000 ∧ af.length ≤ 1000 then
    if a1 = 1 then some (ao, ag, ap, ah, ad ++ [⟨#[102, 111, 110, 105, 112, 97]⟩, ⟨#[102, 111, 110, 105, 112, 97]⟩], ae, af, aq)
    else if a1 = 2 then (r2_Title.f k ao).bind fun t => some (t, ag, ap, ah, ad, ae, af, aq)
    else if a1 = 3 then some (ao, ag, ap, ah, ad, ae ++ [⟨⟨#[98]⟩, []⟩], af, aq)
    else if a1 = 4 then some (ao, ag, ⟨#[108, 97, 116]⟩, ah, ad, ae, af, aq)
    else if a1 = 5 then some (ao, ag, ap, ah, ad, ae, af, ⟨#[105, 45, 97, 109, 105]⟩)
    else if a1 = 6 then some (ao, ag, ap, ah, ad, ae, af ++ [⟨#[97, 98, 99, 100, 101, 102, 103, 104, 105]⟩], aq)
    else if a1 = 7 then some (ao, ag, ap, ah, ad, ae ++ [⟨⟨#[99]⟩, [⟨#[97, 98]⟩]⟩, ⟨⟨#[99]⟩, [⟨#[99, 100]⟩]⟩], af, aq)
    else if a1 = 8 then some (⟨#[]⟩, ag, ap, ah, ad, ae, af, aq)
    else some (ao, ag, ap, ah, ad, ae, af, aq)
  else none
end
end Go.Proofs.Ytojglflamecnkaa.P
