-- Written for this claim by the session's own run of the print, functions proved by hand put in.
import Derived.Test.YtljadeeoaoiilaaPx0
namespace Go.Proofs.Ytljadeeoaoiilaa.P
open Go.RowKit Go.Proofs.YtljadeeoaoiilaaW.PrintWords Go.Proofs.YtljadeeoaoiilaaW.PrintLast Go.Proofs.YtljadeeoaoiilaaW.PrintMore
open Go.Proofs.YtljadeeoaoiilaaW.PrintWords.Aside0 renaming mk → M_
open List renaming setIfInBounds_toArray → sA_, set_cons_zero → sB_, set_cons_succ → sC_
open Go.Proofs.YtljadeeoaoiilaaW.PrintWords renaming below_alloc → wA_, pw_below_drewN → wN_, below_drew1 → wD_, below_size → wZ_, below_step → wT_
open Go.Proofs.YtljadeeoaoiilaaW.PrintWords.Kd renaming R_alloc → rA_, R_drewN → rN_, R_drew → rD_
attribute [local go_sem] max2_int min2_int max_two min_two max_three min_three max_four min_four   -- for this text's walks alone
set_option linter.unusedVariables false
set_option linter.unusedSimpArgs false
def isoglossref06_Pick.f (l0 : List ByteArray) (a1 : Int) : Option (ByteArray) := if (l0.length : Int) = 0 then (none) else (if 0 ≤ (Int.tmod (wrap64 ((Int.tmod a1 (l0.length : Int)) + (l0.length : Int))) (l0.length : Int)) then (if (Int.tmod (wrap64 ((Int.tmod a1 (l0.length : Int)) + (l0.length : Int))) (l0.length : Int)) < (l0.length : Int) then (some (rdOf ByteArray.empty l0 (Int.tmod (wrap64 ((Int.tmod a1 (l0.length : Int)) + (l0.length : Int))) (l0.length : Int)))) else (none)) else (none))
set_option maxHeartbeats 8000000 in
set_option maxRecDepth 100000 in
theorem isoglossref06_Pick.calls (A0 : Option Addr) (c0 : Nat) (l0 : List ByteArray) (a1 : Int) (r : ByteArray) (w : World) (hr0 : Kd.C Kd.string w A0 l0.length l0) (hc0 : l0.length ≤ c0) (h : isoglossref06_Pick.f l0 a1 = some r) :
  Calls Try.prog 31 #[.slice A0 l0.length c0, .int .i64 a1] w fun e w' => e = .returned (.string r) ∧ Drawn0 w w' := by
 have HR0 := M_ hr0
 have HC0 := M_ hc0
 clear hr0 hc0
 have H : (if (l0.length : Int) = 0 then (none) else (if 0 ≤ (Int.tmod (wrap64 ((Int.tmod a1 (l0.length : Int)) + (l0.length : Int))) (l0.length : Int)) then (if (Int.tmod (wrap64 ((Int.tmod a1 (l0.length : Int)) + (l0.length : Int))) (l0.length : Int)) < (l0.length : Int) then (some (rdOf ByteArray.empty l0 (Int.tmod (wrap64 ((Int.tmod a1 (l0.length : Int)) + (l0.length : Int))) (l0.length : Int)))) else (none)) else (none))) = some r := h
 clear h
 by_cases c3 : (l0.length : Int) = 0
 ·rw [if_pos c3] at H
  exact absurd H (by simp)
 ·rw [if_neg c3] at H
  have c3b0 : ((l0.length : Int) == 0) = false := beq_eq_false_iff_ne.mpr c3
  have c3b1 : ((l0.length : Int) != 0) = true := bne_iff_ne.mpr c3
  have c3b2 : ¬ (l0 = []) := fun h_ => c3 (by rw [h_]; rfl)
  obtain ⟨ji4, hji4⟩ : ∃ j_ : Int, (Int.tmod (wrap64 ((Int.tmod a1 (l0.length : Int)) + (l0.length : Int))) (l0.length : Int)) = j_ := ⟨_, rfl⟩
  replace H : (if 0 ≤ (ji4) then (if (ji4) < (l0.length : Int) then (some (rdOf ByteArray.empty l0 (ji4))) else (none)) else (none)) = some r := by first | (rw [hji4] at H; exact H) | (simp only [hji4] at H ⊢; exact H)
  by_cases c5 : 0 ≤ (ji4)
  ·rw [if_pos c5] at H
   have c5b0 : decide (0 ≤ (ji4)) = true := decide_eq_true c5
   clear c5
   by_cases c6 : (ji4) < (l0.length : Int)
   ·rw [if_pos c6] at H
    have c6b0 : decide ((ji4) < (l0.length : Int)) = true := decide_eq_true c6
    clear c6
    obtain rfl := Option.some.inj H
    have p216 : 0 ≤ ((ji4) : Int) := of_decide_eq_true (by first | (with_reducible assumption) | assumption)
    have q216 : (ji4) < (l0.length : Int) := of_decide_eq_true (by first | (with_reducible assumption) | assumption)
    obtain ⟨ad216, e216, hx216_0⟩ := Kd.at_string HR0.out (ji4) p216 q216
    cases e216
    replace p216 := eq_true p216
    replace q216 := eq_true q216
    go_enter Try.func31, Try.ntmps31
    go_wp2
    go_ret
    exact ⟨by first | rfl | (simp; done) | (simp only [← hji4] <;> (first | rfl | simp)) | (simp [*]; done), by repeat (first | exact Drawn0.refl _ | apply Drawn0.step)⟩
   ·rw [if_neg c6] at H
    exact absurd H (by simp)
  ·rw [if_neg c5] at H
   exact absurd H (by simp)
def isoglossref06_langs.f  : Option (List ByteArray) := some (([(⟨#[101, 110]⟩ : ByteArray), (⟨#[122, 104]⟩ : ByteArray), (⟨#[115, 114]⟩ : ByteArray), (⟨#[117, 110, 100]⟩ : ByteArray), (⟨#[105, 119]⟩ : ByteArray), (⟨#[110, 111]⟩ : ByteArray), (⟨#[115, 103, 110]⟩ : ByteArray), (⟨#[109, 111]⟩ : ByteArray), (⟨#[104, 97, 110, 116]⟩ : ByteArray), (⟨#[97, 98, 99, 100, 101, 102, 103, 104]⟩ : ByteArray), (⟨#[100, 101]⟩ : ByteArray), (⟨#[114, 111, 111, 116]⟩ : ByteArray)] : List ByteArray))
set_option maxHeartbeats 8000000 in
set_option maxRecDepth 100000 in
theorem isoglossref06_langs.calls  (r : List ByteArray) (w : World) (h : isoglossref06_langs.f  = some r) :
  Calls Try.prog 32 #[] w fun e w' => ∃ v0_ : Value, e = .returned (v0_) ∧ Kd.R Kd.string 9 w' w.heap.size (fun _ => True) v0_ r ∧ Below w.heap.size w w' := by
 have HB := M_ (Below.refl w.heap.size w)
 have H : (some (([(⟨#[101, 110]⟩ : ByteArray), (⟨#[122, 104]⟩ : ByteArray), (⟨#[115, 114]⟩ : ByteArray), (⟨#[117, 110, 100]⟩ : ByteArray), (⟨#[105, 119]⟩ : ByteArray), (⟨#[110, 111]⟩ : ByteArray), (⟨#[115, 103, 110]⟩ : ByteArray), (⟨#[109, 111]⟩ : ByteArray), (⟨#[104, 97, 110, 116]⟩ : ByteArray), (⟨#[97, 98, 99, 100, 101, 102, 103, 104]⟩ : ByteArray), (⟨#[100, 101]⟩ : ByteArray), (⟨#[114, 111, 111, 116]⟩ : ByteArray)] : List ByteArray))) = some r := h
 clear h
 obtain ⟨y217, hy217⟩ : ∃ y_ : List ByteArray, y_ = (([(⟨#[101, 110]⟩ : ByteArray), (⟨#[122, 104]⟩ : ByteArray), (⟨#[115, 114]⟩ : ByteArray), (⟨#[117, 110, 100]⟩ : ByteArray), (⟨#[105, 119]⟩ : ByteArray), (⟨#[110, 111]⟩ : ByteArray), (⟨#[115, 103, 110]⟩ : ByteArray), (⟨#[109, 111]⟩ : ByteArray), (⟨#[104, 97, 110, 116]⟩ : ByteArray), (⟨#[97, 98, 99, 100, 101, 102, 103, 104]⟩ : ByteArray), (⟨#[100, 101]⟩ : ByteArray), (⟨#[114, 111, 111, 116]⟩ : ByteArray)] : List ByteArray)) := ⟨_, rfl⟩
 replace H : (some y217) = some r := by first | (rw [hy217]; with_reducible exact H) | (have H2_ := (Option.bind_some _ _).symm.trans H; rw [hy217]; with_reducible exact H2_) | (have H2_ := (Option.bind_some _ _).symm.trans H; with_reducible exact H2_) | with_reducible exact H | (rw [hy217]; exact H) | exact H
 have Ny217 := M_ hy217
 clear hy217
 obtain rfl := Option.some.inj H
 go_enter Try.func32, Try.ntmps32
 go_wp2_with (first | ((with_reducible refine gate_dst (N := 1) rfl ?_); refine Kd.R_lit Kd.string _ 9 ?hg (N := 1) ?hd (xs := ([(⟨#[101, 110]⟩ : ByteArray), (⟨#[122, 104]⟩ : ByteArray), (⟨#[115, 114]⟩ : ByteArray), (⟨#[117, 110, 100]⟩ : ByteArray), (⟨#[105, 119]⟩ : ByteArray), (⟨#[110, 111]⟩ : ByteArray), (⟨#[115, 103, 110]⟩ : ByteArray), (⟨#[109, 111]⟩ : ByteArray), (⟨#[104, 97, 110, 116]⟩ : ByteArray), (⟨#[97, 98, 99, 100, 101, 102, 103, 104]⟩ : ByteArray), (⟨#[100, 101]⟩ : ByteArray), (⟨#[114, 111, 111, 116]⟩ : ByteArray)] : List ByteArray)) (inner := [.string ⟨#[101, 110]⟩, .string ⟨#[122, 104]⟩, .string ⟨#[115, 114]⟩, .string ⟨#[117, 110, 100]⟩, .string ⟨#[105, 119]⟩, .string ⟨#[110, 111]⟩, .string ⟨#[115, 103, 110]⟩, .string ⟨#[109, 111]⟩, .string ⟨#[104, 97, 110, 116]⟩, .string ⟨#[97, 98, 99, 100, 101, 102, 103, 104]⟩, .string ⟨#[100, 101]⟩, .string ⟨#[114, 111, 111, 116]⟩]) (ok := fun _ => True) (okp := fun _ => True) ?hr ?hp (fun _ hk => hk) trivial (Below.refl _ _) (Nat.le_refl _) (by simp) ?_; (case hd => rfl); (case hg => rfl); (case hr => first | (go_simp; done) | (go_simp; rfl)); (case hp => exact (Reps.one (show Kd.M Kd.string _ _ _ (⟨#[101, 110]⟩ : ByteArray) [.string ⟨#[101, 110]⟩] from rfl) (Reps.one (show Kd.M Kd.string _ _ _ (⟨#[122, 104]⟩ : ByteArray) [.string ⟨#[122, 104]⟩] from rfl) (Reps.one (show Kd.M Kd.string _ _ _ (⟨#[115, 114]⟩ : ByteArray) [.string ⟨#[115, 114]⟩] from rfl) (Reps.one (show Kd.M Kd.string _ _ _ (⟨#[117, 110, 100]⟩ : ByteArray) [.string ⟨#[117, 110, 100]⟩] from rfl) (Reps.one (show Kd.M Kd.string _ _ _ (⟨#[105, 119]⟩ : ByteArray) [.string ⟨#[105, 119]⟩] from rfl) (Reps.one (show Kd.M Kd.string _ _ _ (⟨#[110, 111]⟩ : ByteArray) [.string ⟨#[110, 111]⟩] from rfl) (Reps.one (show Kd.M Kd.string _ _ _ (⟨#[115, 103, 110]⟩ : ByteArray) [.string ⟨#[115, 103, 110]⟩] from rfl) (Reps.one (show Kd.M Kd.string _ _ _ (⟨#[109, 111]⟩ : ByteArray) [.string ⟨#[109, 111]⟩] from rfl) (Reps.one (show Kd.M Kd.string _ _ _ (⟨#[104, 97, 110, 116]⟩ : ByteArray) [.string ⟨#[104, 97, 110, 116]⟩] from rfl) (Reps.one (show Kd.M Kd.string _ _ _ (⟨#[97, 98, 99, 100, 101, 102, 103, 104]⟩ : ByteArray) [.string ⟨#[97, 98, 99, 100, 101, 102, 103, 104]⟩] from rfl) (Reps.one (show Kd.M Kd.string _ _ _ (⟨#[100, 101]⟩ : ByteArray) [.string ⟨#[100, 101]⟩] from rfl) (Reps.one (show Kd.M Kd.string _ _ _ (⟨#[114, 111, 111, 116]⟩ : ByteArray) [.string ⟨#[114, 111, 111, 116]⟩] from rfl) (Reps.none _ _)))))))))))))); intro v218 w1 ho2 hb hg_ hnew_; clear hg_ hnew_; (first | rw [← Ny217.out] at ho2 | (simp only [Int.reduceToNat] at ho2; rw [← Ny217.out] at ho2)); have n0_ := M_ (Kd.R_lower ho2 (wZ_ (by repeat (first | (with_reducible first | exact HB.out | apply wA_ | apply wN_ | apply wD_) | exact HB.out)))); have n1_ := M_ (wT_ (by repeat (first | (with_reducible first | exact HB.out | apply wA_ | apply wN_ | apply wD_) | exact HB.out)) hb); clear HB; have HO219 := n0_; have HB := n1_; clear n0_ n1_; clear hb ho2))
 go_ret
 exact ⟨_, by first | rfl | (simp [errW_none, errW_some] <;> rfl) | (simp [*, errW_none, errW_some] <;> rfl), by (with_reducible repeat (first | apply rA_ | apply rN_ | apply rD_)); exact HO219.out, by repeat (first | (with_reducible first | exact HB.out | apply wA_ | apply wN_ | apply wD_) | exact HB.out)⟩
def isoglossref06_scripts.f  : Option (List ByteArray) := some (([(⟨#[]⟩ : ByteArray), (⟨#[]⟩ : ByteArray), (⟨#[108, 97, 116, 110]⟩ : ByteArray), (⟨#[99, 121, 114, 108]⟩ : ByteArray), (⟨#[104, 97, 110, 115]⟩ : ByteArray), (⟨#[113, 97, 97, 105]⟩ : ByteArray), (⟨#[104, 97, 110, 116]⟩ : ByteArray)] : List ByteArray))
set_option maxHeartbeats 8000000 in
set_option maxRecDepth 100000 in
theorem isoglossref06_scripts.calls  (r : List ByteArray) (w : World) (h : isoglossref06_scripts.f  = some r) :
  Calls Try.prog 33 #[] w fun e w' => ∃ v0_ : Value, e = .returned (v0_) ∧ Kd.R Kd.string 9 w' w.heap.size (fun _ => True) v0_ r ∧ Below w.heap.size w w' := by
 have HB := M_ (Below.refl w.heap.size w)
 have H : (some (([(⟨#[]⟩ : ByteArray), (⟨#[]⟩ : ByteArray), (⟨#[108, 97, 116, 110]⟩ : ByteArray), (⟨#[99, 121, 114, 108]⟩ : ByteArray), (⟨#[104, 97, 110, 115]⟩ : ByteArray), (⟨#[113, 97, 97, 105]⟩ : ByteArray), (⟨#[104, 97, 110, 116]⟩ : ByteArray)] : List ByteArray))) = some r := h
 clear h
 obtain ⟨y220, hy220⟩ : ∃ y_ : List ByteArray, y_ = (([(⟨#[]⟩ : ByteArray), (⟨#[]⟩ : ByteArray), (⟨#[108, 97, 116, 110]⟩ : ByteArray), (⟨#[99, 121, 114, 108]⟩ : ByteArray), (⟨#[104, 97, 110, 115]⟩ : ByteArray), (⟨#[113, 97, 97, 105]⟩ : ByteArray), (⟨#[104, 97, 110, 116]⟩ : ByteArray)] : List ByteArray)) := ⟨_, rfl⟩
 replace H : (some y220) = some r := by first | (rw [hy220]; with_reducible exact H) | (have H2_ := (Option.bind_some _ _).symm.trans H; rw [hy220]; with_reducible exact H2_) | (have H2_ := (Option.bind_some _ _).symm.trans H; with_reducible exact H2_) | with_reducible exact H | (rw [hy220]; exact H) | exact H
 have Ny220 := M_ hy220
 clear hy220
 obtain rfl := Option.some.inj H
 go_enter Try.func33, Try.ntmps33
 go_wp2_with (first | ((with_reducible refine gate_dst (N := 1) rfl ?_); refine Kd.R_lit Kd.string _ 9 ?hg (N := 1) ?hd (xs := ([(⟨#[]⟩ : ByteArray), (⟨#[]⟩ : ByteArray), (⟨#[108, 97, 116, 110]⟩ : ByteArray), (⟨#[99, 121, 114, 108]⟩ : ByteArray), (⟨#[104, 97, 110, 115]⟩ : ByteArray), (⟨#[113, 97, 97, 105]⟩ : ByteArray), (⟨#[104, 97, 110, 116]⟩ : ByteArray)] : List ByteArray)) (inner := [.string ⟨#[]⟩, .string ⟨#[]⟩, .string ⟨#[108, 97, 116, 110]⟩, .string ⟨#[99, 121, 114, 108]⟩, .string ⟨#[104, 97, 110, 115]⟩, .string ⟨#[113, 97, 97, 105]⟩, .string ⟨#[104, 97, 110, 116]⟩]) (ok := fun _ => True) (okp := fun _ => True) ?hr ?hp (fun _ hk => hk) trivial (Below.refl _ _) (Nat.le_refl _) (by simp) ?_; (case hd => rfl); (case hg => rfl); (case hr => first | (go_simp; done) | (go_simp; rfl)); (case hp => exact (Reps.one (show Kd.M Kd.string _ _ _ (⟨#[]⟩ : ByteArray) [.string ⟨#[]⟩] from rfl) (Reps.one (show Kd.M Kd.string _ _ _ (⟨#[]⟩ : ByteArray) [.string ⟨#[]⟩] from rfl) (Reps.one (show Kd.M Kd.string _ _ _ (⟨#[108, 97, 116, 110]⟩ : ByteArray) [.string ⟨#[108, 97, 116, 110]⟩] from rfl) (Reps.one (show Kd.M Kd.string _ _ _ (⟨#[99, 121, 114, 108]⟩ : ByteArray) [.string ⟨#[99, 121, 114, 108]⟩] from rfl) (Reps.one (show Kd.M Kd.string _ _ _ (⟨#[104, 97, 110, 115]⟩ : ByteArray) [.string ⟨#[104, 97, 110, 115]⟩] from rfl) (Reps.one (show Kd.M Kd.string _ _ _ (⟨#[113, 97, 97, 105]⟩ : ByteArray) [.string ⟨#[113, 97, 97, 105]⟩] from rfl) (Reps.one (show Kd.M Kd.string _ _ _ (⟨#[104, 97, 110, 116]⟩ : ByteArray) [.string ⟨#[104, 97, 110, 116]⟩] from rfl) (Reps.none _ _))))))))); intro v221 w1 ho2 hb hg_ hnew_; clear hg_ hnew_; (first | rw [← Ny220.out] at ho2 | (simp only [Int.reduceToNat] at ho2; rw [← Ny220.out] at ho2)); have n0_ := M_ (Kd.R_lower ho2 (wZ_ (by repeat (first | (with_reducible first | exact HB.out | apply wA_ | apply wN_ | apply wD_) | exact HB.out)))); have n1_ := M_ (wT_ (by repeat (first | (with_reducible first | exact HB.out | apply wA_ | apply wN_ | apply wD_) | exact HB.out)) hb); clear HB; have HO222 := n0_; have HB := n1_; clear n0_ n1_; clear hb ho2))
 go_ret
 exact ⟨_, by first | rfl | (simp [errW_none, errW_some] <;> rfl) | (simp [*, errW_none, errW_some] <;> rfl), by (with_reducible repeat (first | apply rA_ | apply rN_ | apply rD_)); exact HO222.out, by repeat (first | (with_reducible first | exact HB.out | apply wA_ | apply wN_ | apply wD_) | exact HB.out)⟩
def isoglossref06_regions.f  : Option (List ByteArray) := some (([(⟨#[]⟩ : ByteArray), (⟨#[]⟩ : ByteArray), (⟨#[117, 115]⟩ : ByteArray), (⟨#[103, 98]⟩ : ByteArray), (⟨#[52, 49, 57]⟩ : ByteArray), (⟨#[100, 100]⟩ : ByteArray), (⟨#[99, 110]⟩ : ByteArray), (⟨#[98, 114]⟩ : ByteArray), (⟨#[115, 117]⟩ : ByteArray)] : List ByteArray))
set_option maxHeartbeats 8000000 in
set_option maxRecDepth 100000 in
theorem isoglossref06_regions.calls  (r : List ByteArray) (w : World) (h : isoglossref06_regions.f  = some r) :
  Calls Try.prog 34 #[] w fun e w' => ∃ v0_ : Value, e = .returned (v0_) ∧ Kd.R Kd.string 9 w' w.heap.size (fun _ => True) v0_ r ∧ Below w.heap.size w w' := by
 have HB := M_ (Below.refl w.heap.size w)
 have H : (some (([(⟨#[]⟩ : ByteArray), (⟨#[]⟩ : ByteArray), (⟨#[117, 115]⟩ : ByteArray), (⟨#[103, 98]⟩ : ByteArray), (⟨#[52, 49, 57]⟩ : ByteArray), (⟨#[100, 100]⟩ : ByteArray), (⟨#[99, 110]⟩ : ByteArray), (⟨#[98, 114]⟩ : ByteArray), (⟨#[115, 117]⟩ : ByteArray)] : List ByteArray))) = some r := h
 clear h
 obtain ⟨y223, hy223⟩ : ∃ y_ : List ByteArray, y_ = (([(⟨#[]⟩ : ByteArray), (⟨#[]⟩ : ByteArray), (⟨#[117, 115]⟩ : ByteArray), (⟨#[103, 98]⟩ : ByteArray), (⟨#[52, 49, 57]⟩ : ByteArray), (⟨#[100, 100]⟩ : ByteArray), (⟨#[99, 110]⟩ : ByteArray), (⟨#[98, 114]⟩ : ByteArray), (⟨#[115, 117]⟩ : ByteArray)] : List ByteArray)) := ⟨_, rfl⟩
 replace H : (some y223) = some r := by first | (rw [hy223]; with_reducible exact H) | (have H2_ := (Option.bind_some _ _).symm.trans H; rw [hy223]; with_reducible exact H2_) | (have H2_ := (Option.bind_some _ _).symm.trans H; with_reducible exact H2_) | with_reducible exact H | (rw [hy223]; exact H) | exact H
 have Ny223 := M_ hy223
 clear hy223
 obtain rfl := Option.some.inj H
 go_enter Try.func34, Try.ntmps34
 go_wp2_with (first | ((with_reducible refine gate_dst (N := 1) rfl ?_); refine Kd.R_lit Kd.string _ 9 ?hg (N := 1) ?hd (xs := ([(⟨#[]⟩ : ByteArray), (⟨#[]⟩ : ByteArray), (⟨#[117, 115]⟩ : ByteArray), (⟨#[103, 98]⟩ : ByteArray), (⟨#[52, 49, 57]⟩ : ByteArray), (⟨#[100, 100]⟩ : ByteArray), (⟨#[99, 110]⟩ : ByteArray), (⟨#[98, 114]⟩ : ByteArray), (⟨#[115, 117]⟩ : ByteArray)] : List ByteArray)) (inner := [.string ⟨#[]⟩, .string ⟨#[]⟩, .string ⟨#[117, 115]⟩, .string ⟨#[103, 98]⟩, .string ⟨#[52, 49, 57]⟩, .string ⟨#[100, 100]⟩, .string ⟨#[99, 110]⟩, .string ⟨#[98, 114]⟩, .string ⟨#[115, 117]⟩]) (ok := fun _ => True) (okp := fun _ => True) ?hr ?hp (fun _ hk => hk) trivial (Below.refl _ _) (Nat.le_refl _) (by simp) ?_; (case hd => rfl); (case hg => rfl); (case hr => first | (go_simp; done) | (go_simp; rfl)); (case hp => exact (Reps.one (show Kd.M Kd.string _ _ _ (⟨#[]⟩ : ByteArray) [.string ⟨#[]⟩] from rfl) (Reps.one (show Kd.M Kd.string _ _ _ (⟨#[]⟩ : ByteArray) [.string ⟨#[]⟩] from rfl) (Reps.one (show Kd.M Kd.string _ _ _ (⟨#[117, 115]⟩ : ByteArray) [.string ⟨#[117, 115]⟩] from rfl) (Reps.one (show Kd.M Kd.string _ _ _ (⟨#[103, 98]⟩ : ByteArray) [.string ⟨#[103, 98]⟩] from rfl) (Reps.one (show Kd.M Kd.string _ _ _ (⟨#[52, 49, 57]⟩ : ByteArray) [.string ⟨#[52, 49, 57]⟩] from rfl) (Reps.one (show Kd.M Kd.string _ _ _ (⟨#[100, 100]⟩ : ByteArray) [.string ⟨#[100, 100]⟩] from rfl) (Reps.one (show Kd.M Kd.string _ _ _ (⟨#[99, 110]⟩ : ByteArray) [.string ⟨#[99, 110]⟩] from rfl) (Reps.one (show Kd.M Kd.string _ _ _ (⟨#[98, 114]⟩ : ByteArray) [.string ⟨#[98, 114]⟩] from rfl) (Reps.one (show Kd.M Kd.string _ _ _ (⟨#[115, 117]⟩ : ByteArray) [.string ⟨#[115, 117]⟩] from rfl) (Reps.none _ _))))))))))); intro v224 w1 ho2 hb hg_ hnew_; clear hg_ hnew_; (first | rw [← Ny223.out] at ho2 | (simp only [Int.reduceToNat] at ho2; rw [← Ny223.out] at ho2)); have n0_ := M_ (Kd.R_lower ho2 (wZ_ (by repeat (first | (with_reducible first | exact HB.out | apply wA_ | apply wN_ | apply wD_) | exact HB.out)))); have n1_ := M_ (wT_ (by repeat (first | (with_reducible first | exact HB.out | apply wA_ | apply wN_ | apply wD_) | exact HB.out)) hb); clear HB; have HO225 := n0_; have HB := n1_; clear n0_ n1_; clear hb ho2))
 go_ret
 exact ⟨_, by first | rfl | (simp [errW_none, errW_some] <;> rfl) | (simp [*, errW_none, errW_some] <;> rfl), by (with_reducible repeat (first | apply rA_ | apply rN_ | apply rD_)); exact HO225.out, by repeat (first | (with_reducible first | exact HB.out | apply wA_ | apply wN_ | apply wD_) | exact HB.out)⟩
def isoglossref06_variants.f  : Option (List ByteArray) := some (([(⟨#[49, 57, 57, 52]⟩ : ByteArray), (⟨#[104, 101, 112, 108, 111, 99]⟩ : ByteArray), (⟨#[102, 111, 110, 105, 112, 97]⟩ : ByteArray), (⟨#[97, 114, 101, 118, 101, 108, 97]⟩ : ByteArray), (⟨#[49, 97, 50, 98]⟩ : ByteArray), (⟨#[115, 99, 111, 117, 115, 101]⟩ : ByteArray)] : List ByteArray))
set_option maxHeartbeats 8000000 in
set_option maxRecDepth 100000 in
theorem isoglossref06_variants.calls  (r : List ByteArray) (w : World) (h : isoglossref06_variants.f  = some r) :
  Calls Try.prog 35 #[] w fun e w' => ∃ v0_ : Value, e = .returned (v0_) ∧ Kd.R Kd.string 9 w' w.heap.size (fun _ => True) v0_ r ∧ Below w.heap.size w w' := by
 have HB := M_ (Below.refl w.heap.size w)
 have H : (some (([(⟨#[49, 57, 57, 52]⟩ : ByteArray), (⟨#[104, 101, 112, 108, 111, 99]⟩ : ByteArray), (⟨#[102, 111, 110, 105, 112, 97]⟩ : ByteArray), (⟨#[97, 114, 101, 118, 101, 108, 97]⟩ : ByteArray), (⟨#[49, 97, 50, 98]⟩ : ByteArray), (⟨#[115, 99, 111, 117, 115, 101]⟩ : ByteArray)] : List ByteArray))) = some r := h
 clear h
 obtain ⟨y226, hy226⟩ : ∃ y_ : List ByteArray, y_ = (([(⟨#[49, 57, 57, 52]⟩ : ByteArray), (⟨#[104, 101, 112, 108, 111, 99]⟩ : ByteArray), (⟨#[102, 111, 110, 105, 112, 97]⟩ : ByteArray), (⟨#[97, 114, 101, 118, 101, 108, 97]⟩ : ByteArray), (⟨#[49, 97, 50, 98]⟩ : ByteArray), (⟨#[115, 99, 111, 117, 115, 101]⟩ : ByteArray)] : List ByteArray)) := ⟨_, rfl⟩
 replace H : (some y226) = some r := by first | (rw [hy226]; with_reducible exact H) | (have H2_ := (Option.bind_some _ _).symm.trans H; rw [hy226]; with_reducible exact H2_) | (have H2_ := (Option.bind_some _ _).symm.trans H; with_reducible exact H2_) | with_reducible exact H | (rw [hy226]; exact H) | exact H
 have Ny226 := M_ hy226
 clear hy226
 obtain rfl := Option.some.inj H
 go_enter Try.func35, Try.ntmps35
 go_wp2_with (first | ((with_reducible refine gate_dst (N := 1) rfl ?_); refine Kd.R_lit Kd.string _ 9 ?hg (N := 1) ?hd (xs := ([(⟨#[49, 57, 57, 52]⟩ : ByteArray), (⟨#[104, 101, 112, 108, 111, 99]⟩ : ByteArray), (⟨#[102, 111, 110, 105, 112, 97]⟩ : ByteArray), (⟨#[97, 114, 101, 118, 101, 108, 97]⟩ : ByteArray), (⟨#[49, 97, 50, 98]⟩ : ByteArray), (⟨#[115, 99, 111, 117, 115, 101]⟩ : ByteArray)] : List ByteArray)) (inner := [.string ⟨#[49, 57, 57, 52]⟩, .string ⟨#[104, 101, 112, 108, 111, 99]⟩, .string ⟨#[102, 111, 110, 105, 112, 97]⟩, .string ⟨#[97, 114, 101, 118, 101, 108, 97]⟩, .string ⟨#[49, 97, 50, 98]⟩, .string ⟨#[115, 99, 111, 117, 115, 101]⟩]) (ok := fun _ => True) (okp := fun _ => True) ?hr ?hp (fun _ hk => hk) trivial (Below.refl _ _) (Nat.le_refl _) (by simp) ?_; (case hd => rfl); (case hg => rfl); (case hr => first | (go_simp; done) | (go_simp; rfl)); (case hp => exact (Reps.one (show Kd.M Kd.string _ _ _ (⟨#[49, 57, 57, 52]⟩ : ByteArray) [.string ⟨#[49, 57, 57, 52]⟩] from rfl) (Reps.one (show Kd.M Kd.string _ _ _ (⟨#[104, 101, 112, 108, 111, 99]⟩ : ByteArray) [.string ⟨#[104, 101, 112, 108, 111, 99]⟩] from rfl) (Reps.one (show Kd.M Kd.string _ _ _ (⟨#[102, 111, 110, 105, 112, 97]⟩ : ByteArray) [.string ⟨#[102, 111, 110, 105, 112, 97]⟩] from rfl) (Reps.one (show Kd.M Kd.string _ _ _ (⟨#[97, 114, 101, 118, 101, 108, 97]⟩ : ByteArray) [.string ⟨#[97, 114, 101, 118, 101, 108, 97]⟩] from rfl) (Reps.one (show Kd.M Kd.string _ _ _ (⟨#[49, 97, 50, 98]⟩ : ByteArray) [.string ⟨#[49, 97, 50, 98]⟩] from rfl) (Reps.one (show Kd.M Kd.string _ _ _ (⟨#[115, 99, 111, 117, 115, 101]⟩ : ByteArray) [.string ⟨#[115, 99, 111, 117, 115, 101]⟩] from rfl) (Reps.none _ _)))))))); intro v227 w1 ho2 hb hg_ hnew_; clear hg_ hnew_; (first | rw [← Ny226.out] at ho2 | (simp only [Int.reduceToNat] at ho2; rw [← Ny226.out] at ho2)); have n0_ := M_ (Kd.R_lower ho2 (wZ_ (by repeat (first | (with_reducible first | exact HB.out | apply wA_ | apply wN_ | apply wD_) | exact HB.out)))); have n1_ := M_ (wT_ (by repeat (first | (with_reducible first | exact HB.out | apply wA_ | apply wN_ | apply wD_) | exact HB.out)) hb); clear HB; have HO228 := n0_; have HB := n1_; clear n0_ n1_; clear hb ho2))
 go_ret
 exact ⟨_, by first | rfl | (simp [errW_none, errW_some] <;> rfl) | (simp [*, errW_none, errW_some] <;> rfl), by (with_reducible repeat (first | apply rA_ | apply rN_ | apply rD_)); exact HO228.out, by repeat (first | (with_reducible first | exact HB.out | apply wA_ | apply wN_ | apply wD_) | exact HB.out)⟩
def isoglossref06_words.f  : Option (List ByteArray) := some (([(⟨#[99, 97]⟩ : ByteArray), (⟨#[98, 117, 100, 100, 104, 105, 115, 116]⟩ : ByteArray), (⟨#[99, 111]⟩ : ByteArray), (⟨#[116, 114, 117, 101]⟩ : ByteArray), (⟨#[107, 110]⟩ : ByteArray), (⟨#[112, 104, 111, 110, 101, 98, 107]⟩ : ByteArray), (⟨#[109, 48]⟩ : ByteArray), (⟨#[101, 110]⟩ : ByteArray), (⟨#[97, 98, 49]⟩ : ByteArray), (⟨#[105, 115, 108, 97, 109, 105, 99, 99]⟩ : ByteArray), (⟨#[104, 48]⟩ : ByteArray)] : List ByteArray))
set_option maxHeartbeats 8000000 in
set_option maxRecDepth 100000 in
theorem isoglossref06_words.calls  (r : List ByteArray) (w : World) (h : isoglossref06_words.f  = some r) :
  Calls Try.prog 36 #[] w fun e w' => ∃ v0_ : Value, e = .returned (v0_) ∧ Kd.R Kd.string 9 w' w.heap.size (fun _ => True) v0_ r ∧ Below w.heap.size w w' := by
 have HB := M_ (Below.refl w.heap.size w)
 have H : (some (([(⟨#[99, 97]⟩ : ByteArray), (⟨#[98, 117, 100, 100, 104, 105, 115, 116]⟩ : ByteArray), (⟨#[99, 111]⟩ : ByteArray), (⟨#[116, 114, 117, 101]⟩ : ByteArray), (⟨#[107, 110]⟩ : ByteArray), (⟨#[112, 104, 111, 110, 101, 98, 107]⟩ : ByteArray), (⟨#[109, 48]⟩ : ByteArray), (⟨#[101, 110]⟩ : ByteArray), (⟨#[97, 98, 49]⟩ : ByteArray), (⟨#[105, 115, 108, 97, 109, 105, 99, 99]⟩ : ByteArray), (⟨#[104, 48]⟩ : ByteArray)] : List ByteArray))) = some r := h
 clear h
 obtain ⟨y229, hy229⟩ : ∃ y_ : List ByteArray, y_ = (([(⟨#[99, 97]⟩ : ByteArray), (⟨#[98, 117, 100, 100, 104, 105, 115, 116]⟩ : ByteArray), (⟨#[99, 111]⟩ : ByteArray), (⟨#[116, 114, 117, 101]⟩ : ByteArray), (⟨#[107, 110]⟩ : ByteArray), (⟨#[112, 104, 111, 110, 101, 98, 107]⟩ : ByteArray), (⟨#[109, 48]⟩ : ByteArray), (⟨#[101, 110]⟩ : ByteArray), (⟨#[97, 98, 49]⟩ : ByteArray), (⟨#[105, 115, 108, 97, 109, 105, 99, 99]⟩ : ByteArray), (⟨#[104, 48]⟩ : ByteArray)] : List ByteArray)) := ⟨_, rfl⟩
 replace H : (some y229) = some r := by first | (rw [hy229]; with_reducible exact H) | (have H2_ := (Option.bind_some _ _).symm.trans H; rw [hy229]; with_reducible exact H2_) | (have H2_ := (Option.bind_some _ _).symm.trans H; with_reducible exact H2_) | with_reducible exact H | (rw [hy229]; exact H) | exact H
 have Ny229 := M_ hy229
 clear hy229
 obtain rfl := Option.some.inj H
 go_enter Try.func36, Try.ntmps36
 go_wp2_with (first | ((with_reducible refine gate_dst (N := 1) rfl ?_); refine Kd.R_lit Kd.string _ 9 ?hg (N := 1) ?hd (xs := ([(⟨#[99, 97]⟩ : ByteArray), (⟨#[98, 117, 100, 100, 104, 105, 115, 116]⟩ : ByteArray), (⟨#[99, 111]⟩ : ByteArray), (⟨#[116, 114, 117, 101]⟩ : ByteArray), (⟨#[107, 110]⟩ : ByteArray), (⟨#[112, 104, 111, 110, 101, 98, 107]⟩ : ByteArray), (⟨#[109, 48]⟩ : ByteArray), (⟨#[101, 110]⟩ : ByteArray), (⟨#[97, 98, 49]⟩ : ByteArray), (⟨#[105, 115, 108, 97, 109, 105, 99, 99]⟩ : ByteArray), (⟨#[104, 48]⟩ : ByteArray)] : List ByteArray)) (inner := [.string ⟨#[99, 97]⟩, .string ⟨#[98, 117, 100, 100, 104, 105, 115, 116]⟩, .string ⟨#[99, 111]⟩, .string ⟨#[116, 114, 117, 101]⟩, .string ⟨#[107, 110]⟩, .string ⟨#[112, 104, 111, 110, 101, 98, 107]⟩, .string ⟨#[109, 48]⟩, .string ⟨#[101, 110]⟩, .string ⟨#[97, 98, 49]⟩, .string ⟨#[105, 115, 108, 97, 109, 105, 99, 99]⟩, .string ⟨#[104, 48]⟩]) (ok := fun _ => True) (okp := fun _ => True) ?hr ?hp (fun _ hk => hk) trivial (Below.refl _ _) (Nat.le_refl _) (by simp) ?_; (case hd => rfl); (case hg => rfl); (case hr => first | (go_simp; done) | (go_simp; rfl)); (case hp => exact (Reps.one (show Kd.M Kd.string _ _ _ (⟨#[99, 97]⟩ : ByteArray) [.string ⟨#[99, 97]⟩] from rfl) (Reps.one (show Kd.M Kd.string _ _ _ (⟨#[98, 117, 100, 100, 104, 105, 115, 116]⟩ : ByteArray) [.string ⟨#[98, 117, 100, 100, 104, 105, 115, 116]⟩] from rfl) (Reps.one (show Kd.M Kd.string _ _ _ (⟨#[99, 111]⟩ : ByteArray) [.string ⟨#[99, 111]⟩] from rfl) (Reps.one (show Kd.M Kd.string _ _ _ (⟨#[116, 114, 117, 101]⟩ : ByteArray) [.string ⟨#[116, 114, 117, 101]⟩] from rfl) (Reps.one (show Kd.M Kd.string _ _ _ (⟨#[107, 110]⟩ : ByteArray) [.string ⟨#[107, 110]⟩] from rfl) (Reps.one (show Kd.M Kd.string _ _ _ (⟨#[112, 104, 111, 110, 101, 98, 107]⟩ : ByteArray) [.string ⟨#[112, 104, 111, 110, 101, 98, 107]⟩] from rfl) (Reps.one (show Kd.M Kd.string _ _ _ (⟨#[109, 48]⟩ : ByteArray) [.string ⟨#[109, 48]⟩] from rfl) (Reps.one (show Kd.M Kd.string _ _ _ (⟨#[101, 110]⟩ : ByteArray) [.string ⟨#[101, 110]⟩] from rfl) (Reps.one (show Kd.M Kd.string _ _ _ (⟨#[97, 98, 49]⟩ : ByteArray) [.string ⟨#[97, 98, 49]⟩] from rfl) (Reps.one (show Kd.M Kd.string _ _ _ (⟨#[105, 115, 108, 97, 109, 105, 99, 99]⟩ : ByteArray) [.string ⟨#[105, 115, 108, 97, 109, 105, 99, 99]⟩] from rfl) (Reps.one (show Kd.M Kd.string _ _ _ (⟨#[104, 48]⟩ : ByteArray) [.string ⟨#[104, 48]⟩] from rfl) (Reps.none _ _))))))))))))); intro v230 w1 ho2 hb hg_ hnew_; clear hg_ hnew_; (first | rw [← Ny229.out] at ho2 | (simp only [Int.reduceToNat] at ho2; rw [← Ny229.out] at ho2)); have n0_ := M_ (Kd.R_lower ho2 (wZ_ (by repeat (first | (with_reducible first | exact HB.out | apply wA_ | apply wN_ | apply wD_) | exact HB.out)))); have n1_ := M_ (wT_ (by repeat (first | (with_reducible first | exact HB.out | apply wA_ | apply wN_ | apply wD_) | exact HB.out)) hb); clear HB; have HO231 := n0_; have HB := n1_; clear n0_ n1_; clear hb ho2))
 go_ret
 exact ⟨_, by first | rfl | (simp [errW_none, errW_some] <;> rfl) | (simp [*, errW_none, errW_some] <;> rfl), by (with_reducible repeat (first | apply rA_ | apply rN_ | apply rD_)); exact HO231.out, by repeat (first | (with_reducible first | exact HB.out | apply wA_ | apply wN_ | apply wD_) | exact HB.out)⟩
def isoglossref02_upper.f (a0 : Int) : Option (Int) := if a0 ≥ 97 then (if a0 ≤ 122 then (some ((((a0 - 97) % 256) + 65) % 256)) else (some a0)) else (some a0)
set_option maxHeartbeats 8000000 in
set_option maxRecDepth 100000 in
theorem isoglossref02_upper.calls (a0 : Int) (r : Int) (w : World) (h : isoglossref02_upper.f a0 = some r) :
  Calls Try.prog 48 #[.int .u8 a0] w fun e w' => e = .returned (.int .u8 r) ∧ Drawn0 w w' := by
 have H : (if a0 ≥ 97 then (if a0 ≤ 122 then (some ((((a0 - 97) % 256) + 65) % 256)) else (some a0)) else (some a0)) = some r := h
 clear h
 by_cases c2 : a0 ≥ 97
 ·rw [if_pos c2] at H
  have c2b0 : decide (97 ≤ a0) = true := decide_eq_true c2
  clear c2
  by_cases c3 : a0 ≤ 122
  ·rw [if_pos c3] at H
   have c3b0 : decide (a0 ≤ 122) = true := decide_eq_true c3
   clear c3
   obtain rfl := Option.some.inj H
   go_enter Try.func48, Try.ntmps48
   go_wp2
   go_ret
   exact ⟨by first | rfl | (simp; done) | (simp [*]; done), by repeat (first | exact Drawn0.refl _ | apply Drawn0.step)⟩
  ·rw [if_neg c3] at H
   have c3b0 : decide (a0 ≤ 122) = false := decide_eq_false c3
   clear c3
   obtain rfl := Option.some.inj H
   go_enter Try.func48, Try.ntmps48
   go_wp2
   go_ret
   exact ⟨by first | rfl | (simp; done) | (simp [*]; done), by repeat (first | exact Drawn0.refl _ | apply Drawn0.step)⟩
 ·rw [if_neg c2] at H
  have c2b0 : decide (97 ≤ a0) = false := decide_eq_false c2
  clear c2
  obtain rfl := Option.some.inj H
  go_enter Try.func48, Try.ntmps48
  go_wp2
  go_ret
  exact ⟨by first | rfl | (simp; done) | (simp [*]; done), by repeat (first | exact Drawn0.refl _ | apply Drawn0.step)⟩
def isoglossref02_Upper.l0 : Nat → ByteArray → List Int → Int → Option (ByteArray)
 | 0, _, _, _ => none
 | k + 1, x0, x3, x4 => if x4 < (x0.size : Int) then (if 0 ≤ x4 then ((isoglossref02_upper.f (bt x0 x4)).bind fun t232 => (if x3.length < 140737488355328 then (isoglossref02_Upper.l0 k x0 (x3 ++ [t232]) (wrap64 (x4 + 1))) else (none))) else (none)) else (some (strOfNums x3))
def isoglossref02_Upper.f (k : Nat) (a0 : ByteArray) : Option (ByteArray) := isoglossref02_Upper.l0 k a0 ([] : List Int) 0
set_option maxHeartbeats 8000000 in
set_option maxRecDepth 100000 in
theorem isoglossref02_Upper.calls (k : Nat) (a0 : ByteArray) (r : ByteArray) (w : World) (h : isoglossref02_Upper.f k a0 = some r) :
  Calls Try.prog 16 #[.string a0] w fun e w' => e = .returned (.string r) ∧ Below w.heap.size w w' := by
 have HB := M_ (Below.refl w.heap.size w)
 have H : (isoglossref02_Upper.l0 k a0 ([] : List Int) 0) = some r := h
 clear h
 have H' := M_ H
 clear H
 go_enter Try.func16, Try.ntmps16
 go_wp2
 go_loopg [3, 4] k (fun kq v3 v4 w' => ∃ (x3_1 : List Int) (x4_1 : Int), v4 = .int .i64 x4_1 ∧ Aside0 (isoglossref02_Upper.l0 kq a0 x3_1 x4_1 = some r) ∧ Aside0 (kq ≤ k) ∧ Aside0 (Kd.R (Kd.int .u8) 5 w' w.heap.size (fun _ => True) v3 x3_1) ∧ Aside0 (Below w.heap.size w w'))
 case atStart => exact ⟨(([] : List Int)), (0), (by first | rfl | (simp; done) | (simp [*]; done)), H', ⟨Nat.le_refl _⟩, ⟨by first | exact Kd.R_nil _ _ _ _ _ | exact Kd.N_nil _ _ _ _ _ | exact Kd.V_nil _ _ _ _ _ | exact Kd.Q_nil _ _ _ _ _ | exact Kd.S_nil _ _ _ _ _⟩, ⟨by repeat (first | (with_reducible first | exact HB.out | apply wA_ | apply wN_ | apply wD_) | exact HB.out)⟩⟩
 case round =>
  clear H'
  try clear c1
  obtain ⟨x3_1, x4_1, rfl, HA, HK1, HO_3, HB⟩ := hrel
  cases gk with
  | zero => exact absurd HA.out (by simp [isoglossref02_Upper.l0])
  | succ k1 =>
   have H := HA.out
   clear HA
   simp only [isoglossref02_Upper.l0] at H
   by_cases c2 : x4_1 < (a0.size : Int)
   ·rw [if_pos c2] at H
    have c2b0 : decide (x4_1 < (a0.size : Int)) = true := decide_eq_true c2
    clear c2
    by_cases c3 : 0 ≤ x4_1
    ·rw [if_pos c3] at H
     have c3b0 : decide (0 ≤ x4_1) = true := decide_eq_true c3
     clear c3
     replace H := Option.bind_eq_some_iff.mp H
     obtain ⟨t232, A50, H⟩ := H
     replace H : (if x3_1.length < 140737488355328 then (isoglossref02_Upper.l0 k1 a0 (x3_1 ++ [t232]) (wrap64 (x4_1 + 1))) else (none)) = some r := H
     have A5 := M_ A50
     clear A50
     by_cases c6 : x3_1.length < 140737488355328
     ·rw [if_pos c6] at H
      have LMc6 := M_ c6
      clear c6
      obtain ⟨y233, hy233⟩ : ∃ y_ : List Int, y_ = (x3_1 ++ [t232]) := ⟨_, rfl⟩
      replace H : (isoglossref02_Upper.l0 k1 a0 y233 (wrap64 (x4_1 + 1))) = some r := by first | (rw [hy233]; with_reducible exact H) | (have H2_ := (Option.bind_some _ _).symm.trans H; rw [hy233]; with_reducible exact H2_) | (have H2_ := (Option.bind_some _ _).symm.trans H; with_reducible exact H2_) | with_reducible exact H | (rw [hy233]; exact H) | exact H
      have Ny233 := M_ hy233
      clear hy233
      have H' := M_ H
      clear H
      have p4 : 0 ≤ (x4_1 : Int) := of_decide_eq_true (by first | (with_reducible assumption) | assumption)
      have q4 : x4_1 < (a0.size : Int) := of_decide_eq_true (by first | (with_reducible assumption) | assumption)
      have hx4 := bt_at a0 x4_1
      replace p4 := eq_true p4
      replace q4 := eq_true q4
      go_wp2_with (first | ((with_reducible refine gate_callee (f := 48) rfl ?_); refine goesL_ (some 15) rfl rfl Try.func48 (by kernel_rfl) rfl #[.int .u8 (bt a0 x4_1)] rfl (by (try simp only [List.map_toArray, List.map_cons, List.map_nil]); first | done | rfl | (simp only [List.length_drop, List.length_take]; rfl)) ?_; (with_reducible refine (isoglossref02_upper.calls (bt a0 x4_1) t232 _ A5.out).mono ?_); rintro e w' ⟨rfl, ⟨nd, rfl⟩⟩; refine ⟨_, rfl, ?_⟩) | ((with_reducible refine gate_builtin (b := .append) (xs := #[.tmp 11, .tmp 16]) rfl ?_); at_builtin; refine Kd.R_append (Kd.int .u8) (w0 := w) w.heap.size rfl (.tmp 11) (.tmp 16) 51 5 (.int .u8 0) 1 rfl Try.underlying51 info5 rfl (by decide) (by omega) u3 x3_1 t232 [.int .u8 t232] (fun _ => True) (fun _ => False) rfl rfl ?aP (fun _ hk => hk.elim) ?aF ?aO ?aB ?aS ?aL ?_; (case aP => exact rfl); (case aB => exact (by repeat (first | (with_reducible first | exact HB.out | apply wA_ | apply wN_ | apply wD_) | exact HB.out))); (case aF => exact (fun _ _ => trivial)); (case aO => exact (by (with_reducible repeat (first | apply rA_ | apply rN_ | apply rD_)); exact HO_3.out)); (case aS => exact (wZ_ (by repeat (first | (with_reducible first | exact HB.out | apply wA_ | apply wN_ | apply wD_) | exact HB.out)))); (case aL => have := LMc6.out; omega); intro v234 w7 ho hb hg hat; rw [← Ny233.out] at ho; have n0_ := M_ (hb); have n1_ := M_ (ho); clear HB; clear HO_3; have HB := n0_; have HO235 := n1_; clear n0_ n1_; clear ho hb hg hat))
      go_roundg k1
      case measure => have := HK1.out; omega
      case rel => exact ⟨(y233), (wrap64 (x4_1 + 1)), (by first | rfl | (simp; done) | (simp [*]; done)), H', ⟨by have := HK1.out; omega⟩, ⟨by (with_reducible repeat (first | apply rA_ | apply rN_ | apply rD_)); exact HO235.out⟩, ⟨by repeat (first | (with_reducible first | exact HB.out | apply wA_ | apply wN_ | apply wD_) | exact HB.out)⟩⟩
     ·rw [if_neg c6] at H
      exact absurd H (by simp)
    ·rw [if_neg c3] at H
     exact absurd H (by simp)
   ·rw [if_neg c2] at H
    have c2b0 : decide (x4_1 < (a0.size : Int)) = false := decide_eq_false c2
    clear c2
    obtain rfl := Option.some.inj H
    have hcv8 := own_string (P := Try.prog) Try.underlying51 Try.underlying5 Try.underlying9 (Kd.own_of_R HO_3.out)
    go_wp2
    go_ret
    exact ⟨by first | rfl | (simp [errW_none, errW_some] <;> rfl) | (simp [*, errW_none, errW_some] <;> rfl), by repeat (first | (with_reducible first | exact HB.out | apply wA_ | apply wN_ | apply wD_) | exact HB.out)⟩
def isoglossref02_lower.f (a0 : Int) : Option (Int) := if a0 ≥ 65 then (if a0 ≤ 90 then (some ((((a0 - 65) % 256) + 97) % 256)) else (some a0)) else (some a0)
set_option maxHeartbeats 8000000 in
set_option maxRecDepth 100000 in
theorem isoglossref02_lower.calls (a0 : Int) (r : Int) (w : World) (h : isoglossref02_lower.f a0 = some r) :
  Calls Try.prog 49 #[.int .u8 a0] w fun e w' => e = .returned (.int .u8 r) ∧ Drawn0 w w' := by
 have H : (if a0 ≥ 65 then (if a0 ≤ 90 then (some ((((a0 - 65) % 256) + 97) % 256)) else (some a0)) else (some a0)) = some r := h
 clear h
 by_cases c2 : a0 ≥ 65
 ·rw [if_pos c2] at H
  have c2b0 : decide (65 ≤ a0) = true := decide_eq_true c2
  clear c2
  by_cases c3 : a0 ≤ 90
  ·rw [if_pos c3] at H
   have c3b0 : decide (a0 ≤ 90) = true := decide_eq_true c3
   clear c3
   obtain rfl := Option.some.inj H
   go_enter Try.func49, Try.ntmps49
   go_wp2
   go_ret
   exact ⟨by first | rfl | (simp; done) | (simp [*]; done), by repeat (first | exact Drawn0.refl _ | apply Drawn0.step)⟩
  ·rw [if_neg c3] at H
   have c3b0 : decide (a0 ≤ 90) = false := decide_eq_false c3
   clear c3
   obtain rfl := Option.some.inj H
   go_enter Try.func49, Try.ntmps49
   go_wp2
   go_ret
   exact ⟨by first | rfl | (simp; done) | (simp [*]; done), by repeat (first | exact Drawn0.refl _ | apply Drawn0.step)⟩
 ·rw [if_neg c2] at H
  have c2b0 : decide (65 ≤ a0) = false := decide_eq_false c2
  clear c2
  obtain rfl := Option.some.inj H
  go_enter Try.func49, Try.ntmps49
  go_wp2
  go_ret
  exact ⟨by first | rfl | (simp; done) | (simp [*]; done), by repeat (first | exact Drawn0.refl _ | apply Drawn0.step)⟩
def isoglossref02_Lower.l0 : Nat → ByteArray → List Int → Int → Option (ByteArray)
 | 0, _, _, _ => none
 | k + 1, x0, x3, x4 => if x4 < (x0.size : Int) then (if 0 ≤ x4 then ((isoglossref02_lower.f (bt x0 x4)).bind fun t236 => (if x3.length < 140737488355328 then (isoglossref02_Lower.l0 k x0 (x3 ++ [t236]) (wrap64 (x4 + 1))) else (none))) else (none)) else (some (strOfNums x3))
def isoglossref02_Lower.f (k : Nat) (a0 : ByteArray) : Option (ByteArray) := isoglossref02_Lower.l0 k a0 ([] : List Int) 0
set_option maxHeartbeats 8000000 in
set_option maxRecDepth 100000 in
theorem isoglossref02_Lower.calls (k : Nat) (a0 : ByteArray) (r : ByteArray) (w : World) (h : isoglossref02_Lower.f k a0 = some r) :
  Calls Try.prog 17 #[.string a0] w fun e w' => e = .returned (.string r) ∧ Below w.heap.size w w' := by
 have HB := M_ (Below.refl w.heap.size w)
 have H : (isoglossref02_Lower.l0 k a0 ([] : List Int) 0) = some r := h
 clear h
 have H' := M_ H
 clear H
 go_enter Try.func17, Try.ntmps17
 go_wp2
 go_loopg [3, 4] k (fun kq v3 v4 w' => ∃ (x3_1 : List Int) (x4_1 : Int), v4 = .int .i64 x4_1 ∧ Aside0 (isoglossref02_Lower.l0 kq a0 x3_1 x4_1 = some r) ∧ Aside0 (kq ≤ k) ∧ Aside0 (Kd.R (Kd.int .u8) 5 w' w.heap.size (fun _ => True) v3 x3_1) ∧ Aside0 (Below w.heap.size w w'))
 case atStart => exact ⟨(([] : List Int)), (0), (by first | rfl | (simp; done) | (simp [*]; done)), H', ⟨Nat.le_refl _⟩, ⟨by first | exact Kd.R_nil _ _ _ _ _ | exact Kd.N_nil _ _ _ _ _ | exact Kd.V_nil _ _ _ _ _ | exact Kd.Q_nil _ _ _ _ _ | exact Kd.S_nil _ _ _ _ _⟩, ⟨by repeat (first | (with_reducible first | exact HB.out | apply wA_ | apply wN_ | apply wD_) | exact HB.out)⟩⟩
 case round =>
  clear H'
  try clear c1
  obtain ⟨x3_1, x4_1, rfl, HA, HK1, HO_3, HB⟩ := hrel
  cases gk with
  | zero => exact absurd HA.out (by simp [isoglossref02_Lower.l0])
  | succ k1 =>
   have H := HA.out
   clear HA
   simp only [isoglossref02_Lower.l0] at H
   by_cases c2 : x4_1 < (a0.size : Int)
   ·rw [if_pos c2] at H
    have c2b0 : decide (x4_1 < (a0.size : Int)) = true := decide_eq_true c2
    clear c2
    by_cases c3 : 0 ≤ x4_1
    ·rw [if_pos c3] at H
     have c3b0 : decide (0 ≤ x4_1) = true := decide_eq_true c3
     clear c3
     replace H := Option.bind_eq_some_iff.mp H
     obtain ⟨t236, A50, H⟩ := H
     replace H : (if x3_1.length < 140737488355328 then (isoglossref02_Lower.l0 k1 a0 (x3_1 ++ [t236]) (wrap64 (x4_1 + 1))) else (none)) = some r := H
     have A5 := M_ A50
     clear A50
     by_cases c6 : x3_1.length < 140737488355328
     ·rw [if_pos c6] at H
      have LMc6 := M_ c6
      clear c6
      obtain ⟨y237, hy237⟩ : ∃ y_ : List Int, y_ = (x3_1 ++ [t236]) := ⟨_, rfl⟩
      replace H : (isoglossref02_Lower.l0 k1 a0 y237 (wrap64 (x4_1 + 1))) = some r := by first | (rw [hy237]; with_reducible exact H) | (have H2_ := (Option.bind_some _ _).symm.trans H; rw [hy237]; with_reducible exact H2_) | (have H2_ := (Option.bind_some _ _).symm.trans H; with_reducible exact H2_) | with_reducible exact H | (rw [hy237]; exact H) | exact H
      have Ny237 := M_ hy237
      clear hy237
      have H' := M_ H
      clear H
      have p4 : 0 ≤ (x4_1 : Int) := of_decide_eq_true (by first | (with_reducible assumption) | assumption)
      have q4 : x4_1 < (a0.size : Int) := of_decide_eq_true (by first | (with_reducible assumption) | assumption)
      have hx4 := bt_at a0 x4_1
      replace p4 := eq_true p4
      replace q4 := eq_true q4
      go_wp2_with (first | ((with_reducible refine gate_callee (f := 49) rfl ?_); refine goesL_ (some 15) rfl rfl Try.func49 (by kernel_rfl) rfl #[.int .u8 (bt a0 x4_1)] rfl (by (try simp only [List.map_toArray, List.map_cons, List.map_nil]); first | done | rfl | (simp only [List.length_drop, List.length_take]; rfl)) ?_; (with_reducible refine (isoglossref02_lower.calls (bt a0 x4_1) t236 _ A5.out).mono ?_); rintro e w' ⟨rfl, ⟨nd, rfl⟩⟩; refine ⟨_, rfl, ?_⟩) | ((with_reducible refine gate_builtin (b := .append) (xs := #[.tmp 11, .tmp 16]) rfl ?_); at_builtin; refine Kd.R_append (Kd.int .u8) (w0 := w) w.heap.size rfl (.tmp 11) (.tmp 16) 51 5 (.int .u8 0) 1 rfl Try.underlying51 info5 rfl (by decide) (by omega) u3 x3_1 t236 [.int .u8 t236] (fun _ => True) (fun _ => False) rfl rfl ?aP (fun _ hk => hk.elim) ?aF ?aO ?aB ?aS ?aL ?_; (case aP => exact rfl); (case aB => exact (by repeat (first | (with_reducible first | exact HB.out | apply wA_ | apply wN_ | apply wD_) | exact HB.out))); (case aF => exact (fun _ _ => trivial)); (case aO => exact (by (with_reducible repeat (first | apply rA_ | apply rN_ | apply rD_)); exact HO_3.out)); (case aS => exact (wZ_ (by repeat (first | (with_reducible first | exact HB.out | apply wA_ | apply wN_ | apply wD_) | exact HB.out)))); (case aL => have := LMc6.out; omega); intro v238 w7 ho hb hg hat; rw [← Ny237.out] at ho; have n0_ := M_ (hb); have n1_ := M_ (ho); clear HB; clear HO_3; have HB := n0_; have HO239 := n1_; clear n0_ n1_; clear ho hb hg hat))
      go_roundg k1
      case measure => have := HK1.out; omega
      case rel => exact ⟨(y237), (wrap64 (x4_1 + 1)), (by first | rfl | (simp; done) | (simp [*]; done)), H', ⟨by have := HK1.out; omega⟩, ⟨by (with_reducible repeat (first | apply rA_ | apply rN_ | apply rD_)); exact HO239.out⟩, ⟨by repeat (first | (with_reducible first | exact HB.out | apply wA_ | apply wN_ | apply wD_) | exact HB.out)⟩⟩
     ·rw [if_neg c6] at H
      exact absurd H (by simp)
    ·rw [if_neg c3] at H
     exact absurd H (by simp)
   ·rw [if_neg c2] at H
    have c2b0 : decide (x4_1 < (a0.size : Int)) = false := decide_eq_false c2
    clear c2
    obtain rfl := Option.some.inj H
    have hcv8 := own_string (P := Try.prog) Try.underlying51 Try.underlying5 Try.underlying9 (Kd.own_of_R HO_3.out)
    go_wp2
    go_ret
    exact ⟨by first | rfl | (simp [errW_none, errW_some] <;> rfl) | (simp [*, errW_none, errW_some] <;> rfl), by repeat (first | (with_reducible first | exact HB.out | apply wA_ | apply wN_ | apply wD_) | exact HB.out)⟩
def isoglossref02_Title.f (k : Nat) (a0 : ByteArray) : Option (ByteArray) := if a0.toList = ([] : List UInt8) then (some (⟨#[]⟩ : ByteArray)) else (if 0 ≤ 1 then (if 1 ≤ (a0.size : Int) then ((isoglossref02_Upper.f k (a0.extract 0 1)).bind fun t240 => ((isoglossref02_Lower.f k (a0.extract 1 a0.size)).bind fun t241 => (if t240.size + t241.size ≤ 9223372036854775807 then (some (t240 ++ t241)) else (none)))) else (none)) else (none))
def isoglossref02_Title.T3 : Bool × List (List Nat × List Nat) := (true, [([], []), ([0], [0]), ([1], [1]), ([], []), ([3], [3]), ([4, 2], [4]), ([2, 5], [2, 5]), ([6, 5, 0, 1, 2, 3, 4, 5, 6], [6])])
def isoglossref02_Title.B3 : List Nat := [0, 1, 3, 0, 8, 31, 63, 127]
theorem isoglossref02_Title.tab3 : rtab .any (opsOf Try.f62 3) = isoglossref02_Title.T3 := by kernel_rfl
theorem isoglossref02_Title.bits3 : waitsOk isoglossref02_Title.T3.2 isoglossref02_Title.B3 = true := by kernel_rfl
set_option maxHeartbeats 8000000 in
set_option maxRecDepth 100000 in
theorem isoglossref02_Title.calls (k : Nat) (a0 : ByteArray) (r : ByteArray) (w : World) (h : isoglossref02_Title.f k a0 = some r) :
  Calls Try.prog 62 #[.string a0] w fun e w' => e = .returned (.string r) ∧ Below w.heap.size w w' := by
 have HB := M_ (Below.refl w.heap.size w)
 have H : (if a0.toList = ([] : List UInt8) then (some (⟨#[]⟩ : ByteArray)) else (if 0 ≤ 1 then (if 1 ≤ (a0.size : Int) then ((isoglossref02_Upper.f k (a0.extract 0 1)).bind fun t240 => ((isoglossref02_Lower.f k (a0.extract 1 a0.size)).bind fun t241 => (if t240.size + t241.size ≤ 9223372036854775807 then (some (t240 ++ t241)) else (none)))) else (none)) else (none))) = some r := h
 clear h
 by_cases c2 : a0.toList = ([] : List UInt8)
 ·rw [if_pos c2] at H
  have c2b0 : (a0.toList == ([] : List UInt8)) = true := beq_iff_eq.mpr c2
  have c2e0 : a0.toList.isEmpty = true := List.isEmpty_iff.2 c2
  have c2e1 : (!a0.toList.isEmpty) = false := by rw [c2e0]; rfl
  have c2b1 : (a0.toList != ([] : List UInt8)) = false := bne_eq_false_iff_eq.mpr c2
  clear c2
  obtain rfl := Option.some.inj H
  go_enter Try.func62, Try.ntmps62
  go_wp2
  go_ret
  exact ⟨by first | rfl | (simp [errW_none, errW_some] <;> rfl) | (simp [*, errW_none, errW_some] <;> rfl), by repeat (first | (with_reducible first | exact HB.out | apply wA_ | apply wN_ | apply wD_) | exact HB.out)⟩
 ·rw [if_neg c2] at H
  have c2b0 : (a0.toList == ([] : List UInt8)) = false := beq_eq_false_iff_ne.mpr c2
  have c2e0 : a0.toList.isEmpty = false := List.isEmpty_eq_false_iff.2 c2
  have c2e1 : (!a0.toList.isEmpty) = true := by rw [c2e0]; rfl
  have c2b1 : (a0.toList != ([] : List UInt8)) = true := bne_iff_ne.mpr c2
  by_cases c3 : 0 ≤ 1
  ·rw [if_pos c3] at H
   have c3b0 := eq_true c3
   have c3b1 : decide (0 ≤ 1) = true := decide_eq_true c3
   clear c3
   by_cases c4 : 1 ≤ (a0.size : Int)
   ·rw [if_pos c4] at H
    have c4b0 := eq_true c4
    have c4b1 : decide (1 ≤ (a0.size : Int)) = true := decide_eq_true c4
    clear c4
    replace H := Option.bind_eq_some_iff.mp H
    obtain ⟨t240, A50, H⟩ := H
    replace H : ((isoglossref02_Lower.f k (a0.extract 1 a0.size)).bind fun t241 => (if t240.size + t241.size ≤ 9223372036854775807 then (some (t240 ++ t241)) else (none))) = some r := H
    have A5 := M_ A50
    clear A50
    have c6b0 := eq_true (of_decide_eq_true (by first | (with_reducible assumption) | assumption) : 1 ≤ (a0.size : Int))
    replace H := Option.bind_eq_some_iff.mp H
    obtain ⟨t241, A70, H⟩ := H
    replace H : (if t240.size + t241.size ≤ 9223372036854775807 then (some (t240 ++ t241)) else (none)) = some r := H
    have A7 := M_ A70
    clear A70
    by_cases c8 : t240.size + t241.size ≤ 9223372036854775807
    ·rw [if_pos c8] at H
     have c8b0 := eq_true c8
     have c8b1 : decide (t240.size + t241.size ≤ 9223372036854775807) = true := decide_eq_true c8
     try have c8b2 : (9223372036854775807 < t240.size + t241.size) = False := eq_false (Nat.not_lt.2 c8)
     obtain rfl := Option.some.inj H
     go_enter Try.func62, Try.ntmps62
     try go_wp2
     have n0_ := M_ (wD_ HB.out)
     clear HB
     have HB := n0_
     clear n0_
     refine start_ (n := 8) (S := fun w' => True) (ds := []) #[false, false, false, false, false, false, false, false] (by kernel_rfl) rfl rfl trivial (fun hHeld => ?_); refine with_tabW isoglossref02_Title.tab3 isoglossref02_Title.bits3 (fun HT_ HW_ => ?_)
     generalize w.drew = w9 at HB hHeld ⊢
     refine pure_ (i := 0) (N := some 5) (v := ?_) (a' := ?_) #[true, false, false, false, false, false, false, false] rfl rfl (any_of HT_.out (by kernel_rfl)) (fun _ _ _ h => h) (Or.inl ⟨by rfl, ?_⟩) ?_ ?_
     rotate_left
     ·intro w'
      go_simp
      with_reducible rfl
     rotate_left
     ·simp only [Act.put, sA_, sB_, sC_, i64_w, i32_w]
      rfl
     refine pure_ (i := 1) (N := some 6) (v := ?_) (a' := ?_) #[true, true, false, false, false, false, false, false] rfl rfl (any_of HT_.out (by kernel_rfl)) (fun _ _ _ h => h) (Or.inl ⟨by rfl, ?_⟩) ?_ ?_
     rotate_left
     ·intro w'
      go_simp
      with_reducible rfl
     rotate_left
     ·simp only [Act.put, sA_, sB_, sC_, i64_w, i32_w]
      rfl
     refine pure_ (i := 3) (N := some 8) (v := ?_) (a' := ?_) #[true, true, false, true, false, false, false, false] rfl rfl (any_of HT_.out (by kernel_rfl)) (fun _ _ _ h => h) (Or.inl ⟨by rfl, ?_⟩) ?_ ?_
     rotate_left
     ·intro w'
      go_simp
      with_reducible rfl
     rotate_left
     ·simp only [Act.put, sA_, sB_, sC_, i64_w, i32_w]
      rfl
     refine pure_ (i := 4) (N := some 9) (v := ?_) (a' := ?_) #[true, true, false, true, true, false, false, false] rfl rfl (any_of HT_.out (by kernel_rfl)) (fun _ _ _ h => h) (Or.inl ⟨by rfl, ?_⟩) ?_ ?_
     rotate_left
     ·intro w'
      go_simp
      with_reducible rfl
     rotate_left
     ·simp only [Act.put, sA_, sB_, sC_, i64_w, i32_w]
      rfl
     refine one_ (i := 2) (N := some 7) #[true, true, true, true, true, false, false, false] rfl rfl (one_of HT_.out (by kernel_rfl)) (by decide) (fun K hK => ?_)
     refine goes_ Try.func16 (by kernel_rfl) rfl #[.string (a0.extract 0 1)] (by rfl) rfl rfl (by (try simp only [List.map_toArray, List.map_cons, List.map_nil]); first | done | rfl | (simp only [List.length_drop, List.length_take]; rfl)) ?_
     with_reducible refine (isoglossref02_Upper.calls k (a0.extract 0 1) t240 _ A5.out).mono ?_
     rintro e w10 ⟨rfl, hb⟩
     refine ⟨_, rfl, ?_⟩
     have n0_ := M_ (wT_ (by repeat (first | (with_reducible first | exact HB.out | apply wA_ | apply wN_ | apply wD_) | exact HB.out)) hb)
     clear HB
     have HB := n0_
     clear n0_
     (try clear hb); (try clear hb2); (try clear hk); (try clear hi)
     refine hK.out _ _ trivial (fun hHeld => ?_)
     clear hK K
     refine norm_ (a' := ?_) ?_ ?_
     rotate_left
     ·show Act.put _ (some 7) _ = _
      simp only [Act.put, sA_, sB_, sC_, i64_w, i32_w]
      rfl
     refine one_ (i := 5) (N := some 10) #[true, true, true, true, true, true, false, false] rfl rfl (one_of HT_.out (by kernel_rfl)) (by decide) (fun K hK => ?_)
     refine goes_ Try.func17 (by kernel_rfl) rfl #[.string (a0.extract 1 a0.size)] (by rfl) rfl rfl (by (try simp only [List.map_toArray, List.map_cons, List.map_nil]); first | done | rfl | (simp only [List.length_drop, List.length_take]; rfl)) ?_
     with_reducible refine (isoglossref02_Lower.calls k (a0.extract 1 a0.size) t241 _ A7.out).mono ?_
     rintro e w11 ⟨rfl, hb⟩
     refine ⟨_, rfl, ?_⟩
     have n0_ := M_ (wT_ (by repeat (first | (with_reducible first | exact HB.out | apply wA_ | apply wN_ | apply wD_) | exact HB.out)) hb)
     clear HB
     have HB := n0_
     clear n0_
     (try clear hb); (try clear hb2); (try clear hk); (try clear hi)
     refine hK.out _ _ trivial (fun hHeld => ?_)
     clear hK K
     refine norm_ (a' := ?_) ?_ ?_
     rotate_left
     ·show Act.put _ (some 10) _ = _
      simp only [Act.put, sA_, sB_, sC_, i64_w, i32_w]
      rfl
     refine pure_ (i := 6) (N := some 11) (v := ?_) (a' := ?_) #[true, true, true, true, true, true, true, false] rfl rfl (any_of HT_.out (by kernel_rfl)) (fun _ _ _ h => h) (Or.inl ⟨by rfl, ?_⟩) ?_ ?_
     rotate_left
     ·intro w'
      go_simp
      with_reducible rfl
     rotate_left
     ·simp only [Act.put, sA_, sB_, sC_, i64_w, i32_w]
      rfl
     refine pure_ (i := 7) (N := some 2) (v := ?_) (a' := ?_) #[true, true, true, true, true, true, true, true] rfl rfl (any_of HT_.out (by kernel_rfl)) (fun _ _ _ h => h) (Or.inl ⟨by rfl, ?_⟩) ?_ ?_
     rotate_left
     ·intro w'
      go_simp
      with_reducible rfl
     rotate_left
     ·simp only [Act.put, sA_, sB_, sC_, i64_w, i32_w]
      rfl
     refine done_ (done_of HT_.out (by kernel_rfl)) ?_
     try go_wp2
     go_ret
     exact ⟨by first | rfl | (simp [errW_none, errW_some] <;> rfl) | (simp [*, errW_none, errW_some] <;> rfl), by repeat (first | (with_reducible first | exact HB.out | apply wA_ | apply wN_ | apply wD_) | exact HB.out)⟩
    ·rw [if_neg c8] at H
     exact absurd H (by simp)
   ·rw [if_neg c4] at H
    exact absurd H (by simp)
  ·rw [if_neg c3] at H
   exact absurd H (by simp)
section
set_option linter.unusedVariables false
def isoglossref06_spoilt.f (k : Nat) (a0_0 : ByteArray) (l0_1 : List ByteArray) (a0_2 : ByteArray) (a0_3 : ByteArray) (l0_4 : List ByteArray) (l0_5 : List (S44)) (l0_6 : List ByteArray) (a0_7 : ByteArray) (a1 : Int) : Option (ByteArray × List ByteArray × ByteArray × ByteArray × List ByteArray × (List (S44)) × List ByteArray × ByteArray) :=
  if l0_4.length ≤ 1000 ∧ l0_5.length ≤ 1000 ∧ l0_6.length ≤ 1000 then
    if a1 = 1 then some (a0_0, l0_1, a0_2, a0_3, l0_4 ++ [⟨#[102, 111, 110, 105, 112, 97]⟩, ⟨#[102, 111, 110, 105, 112, 97]⟩], l0_5, l0_6, a0_7)
    else if a1 = 2 then (isoglossref02_Title.f k a0_0).bind fun t => some (t, l0_1, a0_2, a0_3, l0_4, l0_5, l0_6, a0_7)
    else if a1 = 3 then some (a0_0, l0_1, a0_2, a0_3, l0_4, l0_5 ++ [⟨⟨#[98]⟩, []⟩], l0_6, a0_7)
    else if a1 = 4 then some (a0_0, l0_1, ⟨#[108, 97, 116]⟩, a0_3, l0_4, l0_5, l0_6, a0_7)
    else if a1 = 5 then some (a0_0, l0_1, a0_2, a0_3, l0_4, l0_5, l0_6, ⟨#[105, 45, 97, 109, 105]⟩)
    else if a1 = 6 then some (a0_0, l0_1, a0_2, a0_3, l0_4, l0_5, l0_6 ++ [⟨#[97, 98, 99, 100, 101, 102, 103, 104, 105]⟩], a0_7)
    else if a1 = 7 then some (a0_0, l0_1, a0_2, a0_3, l0_4, l0_5 ++ [⟨⟨#[99]⟩, [⟨#[97, 98]⟩]⟩, ⟨⟨#[99]⟩, [⟨#[99, 100]⟩]⟩], l0_6, a0_7)
    else if a1 = 8 then some (⟨#[]⟩, l0_1, a0_2, a0_3, l0_4, l0_5, l0_6, a0_7)
    else some (a0_0, l0_1, a0_2, a0_3, l0_4, l0_5, l0_6, a0_7)
  else none
end
end Go.Proofs.Ytljadeeoaoiilaa.P
