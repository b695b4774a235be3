-- Written for this claim by the session's own run of the print, functions proved by hand put in.
import Derived.Test.YtojglflamecnkaaPx0
import Derived.Test.YtojglflamecnkaaPx4
namespace Go.Proofs.Ytojglflamecnkaa.P
open Go.RowKit Go.Proofs.YtojglflamecnkaaW.PrintWords Go.Proofs.YtojglflamecnkaaW.PrintLast Go.Proofs.YtojglflamecnkaaW.PrintMore
attribute [local go_sem] max2_int min2_int max_two min_two max_three min_three max_four min_four   -- for this text's walks alone
set_option linter.unusedVariables false
set_option linter.unusedSimpArgs false
def isoglossref06_Pick.f (l0 : List ByteArray) (a1 : Int) : Option (ByteArray) := if (l0.length : Int) = 0 then (none) else (if 0 ≤ (Int.tmod (wrap64 ((Int.tmod a1 (l0.length : Int)) + (l0.length : Int))) (l0.length : Int)) then (if (Int.tmod (wrap64 ((Int.tmod a1 (l0.length : Int)) + (l0.length : Int))) (l0.length : Int)) < (l0.length : Int) then (some (rdOf ByteArray.empty l0 (Int.tmod (wrap64 ((Int.tmod a1 (l0.length : Int)) + (l0.length : Int))) (l0.length : Int)))) else (none)) else (none))
set_option maxHeartbeats 8000000 in
set_option maxRecDepth 100000 in
theorem isoglossref06_Pick.calls (A0 : Option Addr) (c0 : Nat) (l0 : List ByteArray) (a1 : Int) (r : ByteArray) (w : World) (hr0 : Kd.C Kd.string w A0 l0.length l0) (hc0 : l0.length ≤ c0) (h : isoglossref06_Pick.f l0 a1 = some r) :
  Calls Try.prog 35 #[.slice A0 l0.length c0, .int .i64 a1] w fun e w' => e = .returned (.string r) ∧ Drawn0 w w' := by
 have HR0 := Aside0.mk hr0
 have HC0 := Aside0.mk hc0
 clear hr0 hc0
 have H : (if (l0.length : Int) = 0 then (none) else (if 0 ≤ (Int.tmod (wrap64 ((Int.tmod a1 (l0.length : Int)) + (l0.length : Int))) (l0.length : Int)) then (if (Int.tmod (wrap64 ((Int.tmod a1 (l0.length : Int)) + (l0.length : Int))) (l0.length : Int)) < (l0.length : Int) then (some (rdOf ByteArray.empty l0 (Int.tmod (wrap64 ((Int.tmod a1 (l0.length : Int)) + (l0.length : Int))) (l0.length : Int)))) else (none)) else (none))) = some r := h
 clear h
 by_cases c3 : (l0.length : Int) = 0
 ·rw [if_pos c3] at H
  exact absurd H (by simp)
 ·rw [if_neg c3] at H
  have c3b0 : ((l0.length : Int) == 0) = false := beq_eq_false_iff_ne.mpr c3
  have c3b1 : ((l0.length : Int) != 0) = true := bne_iff_ne.mpr c3
  have c3b2 : ¬ (l0 = []) := fun h_ => c3 (by rw [h_]; rfl)
  obtain ⟨ji4, hji4⟩ : ∃ j_ : Int, (Int.tmod (wrap64 ((Int.tmod a1 (l0.length : Int)) + (l0.length : Int))) (l0.length : Int)) = j_ := ⟨_, rfl⟩
  replace H : (if 0 ≤ (ji4) then (if (ji4) < (l0.length : Int) then (some (rdOf ByteArray.empty l0 (ji4))) else (none)) else (none)) = some r := by first | (rw [hji4] at H; exact H) | (simp only [hji4] at H ⊢; exact H)
  by_cases c5 : 0 ≤ (ji4)
  ·rw [if_pos c5] at H
   have c5b0 : decide (0 ≤ (ji4)) = true := decide_eq_true c5
   clear c5
   by_cases c6 : (ji4) < (l0.length : Int)
   ·rw [if_pos c6] at H
    have c6b0 : decide ((ji4) < (l0.length : Int)) = true := decide_eq_true c6
    clear c6
    obtain rfl := Option.some.inj H
    have p171 : 0 ≤ ((ji4) : Int) := of_decide_eq_true (by first | (with_reducible assumption) | assumption)
    have q171 : (ji4) < (l0.length : Int) := of_decide_eq_true (by first | (with_reducible assumption) | assumption)
    obtain ⟨ad171, e171, hx171_0⟩ := Kd.at_string HR0.out (ji4) p171 q171
    cases e171
    replace p171 := eq_true p171
    replace q171 := eq_true q171
    go_enter Try.func35, Try.ntmps35
    go_wp2
    go_ret
    exact ⟨by first | rfl | (simp; done) | (simp only [← hji4] <;> (first | rfl | simp)) | (simp [*]; done), by repeat (first | exact Drawn0.refl _ | apply Drawn0.step)⟩
   ·rw [if_neg c6] at H
    exact absurd H (by simp)
  ·rw [if_neg c5] at H
   exact absurd H (by simp)
def isoglossref06_langs.f  : Option (List ByteArray) := some (([(⟨#[101, 110]⟩ : ByteArray), (⟨#[122, 104]⟩ : ByteArray), (⟨#[115, 114]⟩ : ByteArray), (⟨#[117, 110, 100]⟩ : ByteArray), (⟨#[105, 119]⟩ : ByteArray), (⟨#[110, 111]⟩ : ByteArray), (⟨#[115, 103, 110]⟩ : ByteArray), (⟨#[109, 111]⟩ : ByteArray), (⟨#[104, 97, 110, 116]⟩ : ByteArray), (⟨#[97, 98, 99, 100, 101, 102, 103, 104]⟩ : ByteArray), (⟨#[100, 101]⟩ : ByteArray), (⟨#[114, 111, 111, 116]⟩ : ByteArray)] : List ByteArray))
set_option maxHeartbeats 8000000 in
set_option maxRecDepth 100000 in
theorem isoglossref06_langs.calls  (r : List ByteArray) (w : World) (h : isoglossref06_langs.f  = some r) :
  Calls Try.prog 36 #[] w fun e w' => ∃ v0_ : Value, e = .returned (v0_) ∧ Kd.R Kd.string 9 w' w.heap.size (fun _ => True) v0_ r ∧ Below w.heap.size w w' := by
 have HB := Aside0.mk (Below.refl w.heap.size w)
 have H : (some (([(⟨#[101, 110]⟩ : ByteArray), (⟨#[122, 104]⟩ : ByteArray), (⟨#[115, 114]⟩ : ByteArray), (⟨#[117, 110, 100]⟩ : ByteArray), (⟨#[105, 119]⟩ : ByteArray), (⟨#[110, 111]⟩ : ByteArray), (⟨#[115, 103, 110]⟩ : ByteArray), (⟨#[109, 111]⟩ : ByteArray), (⟨#[104, 97, 110, 116]⟩ : ByteArray), (⟨#[97, 98, 99, 100, 101, 102, 103, 104]⟩ : ByteArray), (⟨#[100, 101]⟩ : ByteArray), (⟨#[114, 111, 111, 116]⟩ : ByteArray)] : List ByteArray))) = some r := h
 clear h
 obtain ⟨y172, hy172⟩ : ∃ y_ : List ByteArray, y_ = (([(⟨#[101, 110]⟩ : ByteArray), (⟨#[122, 104]⟩ : ByteArray), (⟨#[115, 114]⟩ : ByteArray), (⟨#[117, 110, 100]⟩ : ByteArray), (⟨#[105, 119]⟩ : ByteArray), (⟨#[110, 111]⟩ : ByteArray), (⟨#[115, 103, 110]⟩ : ByteArray), (⟨#[109, 111]⟩ : ByteArray), (⟨#[104, 97, 110, 116]⟩ : ByteArray), (⟨#[97, 98, 99, 100, 101, 102, 103, 104]⟩ : ByteArray), (⟨#[100, 101]⟩ : ByteArray), (⟨#[114, 111, 111, 116]⟩ : ByteArray)] : List ByteArray)) := ⟨_, rfl⟩
 replace H : (some y172) = some r := by first | (rw [hy172]; with_reducible exact H) | (have H2_ := (Option.bind_some _ _).symm.trans H; rw [hy172]; with_reducible exact H2_) | (have H2_ := (Option.bind_some _ _).symm.trans H; with_reducible exact H2_) | with_reducible exact H | (rw [hy172]; exact H) | exact H
 have Ny172 := Aside0.mk hy172
 clear hy172
 obtain rfl := Option.some.inj H
 go_enter Try.func36, Try.ntmps36
 go_wp2_with (first | ((with_reducible refine gate_dst (N := 1) rfl ?_); refine Kd.R_lit Kd.string _ 9 ?hg (N := 1) ?hd (xs := ([(⟨#[101, 110]⟩ : ByteArray), (⟨#[122, 104]⟩ : ByteArray), (⟨#[115, 114]⟩ : ByteArray), (⟨#[117, 110, 100]⟩ : ByteArray), (⟨#[105, 119]⟩ : ByteArray), (⟨#[110, 111]⟩ : ByteArray), (⟨#[115, 103, 110]⟩ : ByteArray), (⟨#[109, 111]⟩ : ByteArray), (⟨#[104, 97, 110, 116]⟩ : ByteArray), (⟨#[97, 98, 99, 100, 101, 102, 103, 104]⟩ : ByteArray), (⟨#[100, 101]⟩ : ByteArray), (⟨#[114, 111, 111, 116]⟩ : ByteArray)] : List ByteArray)) (inner := [.string (⟨#[101, 110]⟩ : ByteArray), .string (⟨#[122, 104]⟩ : ByteArray), .string (⟨#[115, 114]⟩ : ByteArray), .string (⟨#[117, 110, 100]⟩ : ByteArray), .string (⟨#[105, 119]⟩ : ByteArray), .string (⟨#[110, 111]⟩ : ByteArray), .string (⟨#[115, 103, 110]⟩ : ByteArray), .string (⟨#[109, 111]⟩ : ByteArray), .string (⟨#[104, 97, 110, 116]⟩ : ByteArray), .string (⟨#[97, 98, 99, 100, 101, 102, 103, 104]⟩ : ByteArray), .string (⟨#[100, 101]⟩ : ByteArray), .string (⟨#[114, 111, 111, 116]⟩ : ByteArray)]) (ok := fun _ => True) (okp := fun _ => True) ?hr ?hp (fun _ hk => hk) trivial (Below.refl _ _) (Nat.le_refl _) (by simp) ?_; (case hd => rfl); (case hg => rfl); (case hr => first | (go_simp; done) | (go_simp; rfl)); (case hp => exact (Reps.one (show Kd.M Kd.string _ _ _ (⟨#[101, 110]⟩ : ByteArray) [.string (⟨#[101, 110]⟩ : ByteArray)] from rfl) (Reps.one (show Kd.M Kd.string _ _ _ (⟨#[122, 104]⟩ : ByteArray) [.string (⟨#[122, 104]⟩ : ByteArray)] from rfl) (Reps.one (show Kd.M Kd.string _ _ _ (⟨#[115, 114]⟩ : ByteArray) [.string (⟨#[115, 114]⟩ : ByteArray)] from rfl) (Reps.one (show Kd.M Kd.string _ _ _ (⟨#[117, 110, 100]⟩ : ByteArray) [.string (⟨#[117, 110, 100]⟩ : ByteArray)] from rfl) (Reps.one (show Kd.M Kd.string _ _ _ (⟨#[105, 119]⟩ : ByteArray) [.string (⟨#[105, 119]⟩ : ByteArray)] from rfl) (Reps.one (show Kd.M Kd.string _ _ _ (⟨#[110, 111]⟩ : ByteArray) [.string (⟨#[110, 111]⟩ : ByteArray)] from rfl) (Reps.one (show Kd.M Kd.string _ _ _ (⟨#[115, 103, 110]⟩ : ByteArray) [.string (⟨#[115, 103, 110]⟩ : ByteArray)] from rfl) (Reps.one (show Kd.M Kd.string _ _ _ (⟨#[109, 111]⟩ : ByteArray) [.string (⟨#[109, 111]⟩ : ByteArray)] from rfl) (Reps.one (show Kd.M Kd.string _ _ _ (⟨#[104, 97, 110, 116]⟩ : ByteArray) [.string (⟨#[104, 97, 110, 116]⟩ : ByteArray)] from rfl) (Reps.one (show Kd.M Kd.string _ _ _ (⟨#[97, 98, 99, 100, 101, 102, 103, 104]⟩ : ByteArray) [.string (⟨#[97, 98, 99, 100, 101, 102, 103, 104]⟩ : ByteArray)] from rfl) (Reps.one (show Kd.M Kd.string _ _ _ (⟨#[100, 101]⟩ : ByteArray) [.string (⟨#[100, 101]⟩ : ByteArray)] from rfl) (Reps.one (show Kd.M Kd.string _ _ _ (⟨#[114, 111, 111, 116]⟩ : ByteArray) [.string (⟨#[114, 111, 111, 116]⟩ : ByteArray)] from rfl) (Reps.none _ _)))))))))))))); intro v173 w1 ho2 hb hg_ hnew_; clear hg_ hnew_; (first | rw [← Ny172.out] at ho2 | (simp only [Int.reduceToNat] at ho2; rw [← Ny172.out] at ho2)); have n0_ := Aside0.mk (Kd.R_lower ho2 (below_size (by repeat (first | (with_reducible first | exact HB.out | apply below_alloc | apply pw_below_drewN | apply below_drew1) | exact HB.out)))); have n1_ := Aside0.mk (below_step (by repeat (first | (with_reducible first | exact HB.out | apply below_alloc | apply pw_below_drewN | apply below_drew1) | exact HB.out)) hb); clear HB; have HO174 := n0_; have HB := n1_; clear n0_ n1_; clear hb ho2))
 go_ret
 exact ⟨_, by first | rfl | (simp [errW_none, errW_some] <;> rfl) | (simp [*, errW_none, errW_some] <;> rfl), by (with_reducible repeat (first | apply Kd.R_alloc | apply Kd.R_drewN | apply Kd.R_drew)); exact HO174.out, by repeat (first | (with_reducible first | exact HB.out | apply below_alloc | apply pw_below_drewN | apply below_drew1) | exact HB.out)⟩
def isoglossref06_scripts.f  : Option (List ByteArray) := some (([(⟨#[]⟩ : ByteArray), (⟨#[]⟩ : ByteArray), (⟨#[108, 97, 116, 110]⟩ : ByteArray), (⟨#[99, 121, 114, 108]⟩ : ByteArray), (⟨#[104, 97, 110, 115]⟩ : ByteArray), (⟨#[113, 97, 97, 105]⟩ : ByteArray), (⟨#[104, 97, 110, 116]⟩ : ByteArray)] : List ByteArray))
set_option maxHeartbeats 8000000 in
set_option maxRecDepth 100000 in
theorem isoglossref06_scripts.calls  (r : List ByteArray) (w : World) (h : isoglossref06_scripts.f  = some r) :
  Calls Try.prog 37 #[] w fun e w' => ∃ v0_ : Value, e = .returned (v0_) ∧ Kd.R Kd.string 9 w' w.heap.size (fun _ => True) v0_ r ∧ Below w.heap.size w w' := by
 have HB := Aside0.mk (Below.refl w.heap.size w)
 have H : (some (([(⟨#[]⟩ : ByteArray), (⟨#[]⟩ : ByteArray), (⟨#[108, 97, 116, 110]⟩ : ByteArray), (⟨#[99, 121, 114, 108]⟩ : ByteArray), (⟨#[104, 97, 110, 115]⟩ : ByteArray), (⟨#[113, 97, 97, 105]⟩ : ByteArray), (⟨#[104, 97, 110, 116]⟩ : ByteArray)] : List ByteArray))) = some r := h
 clear h
 obtain ⟨y175, hy175⟩ : ∃ y_ : List ByteArray, y_ = (([(⟨#[]⟩ : ByteArray), (⟨#[]⟩ : ByteArray), (⟨#[108, 97, 116, 110]⟩ : ByteArray), (⟨#[99, 121, 114, 108]⟩ : ByteArray), (⟨#[104, 97, 110, 115]⟩ : ByteArray), (⟨#[113, 97, 97, 105]⟩ : ByteArray), (⟨#[104, 97, 110, 116]⟩ : ByteArray)] : List ByteArray)) := ⟨_, rfl⟩
 replace H : (some y175) = some r := by first | (rw [hy175]; with_reducible exact H) | (have H2_ := (Option.bind_some _ _).symm.trans H; rw [hy175]; with_reducible exact H2_) | (have H2_ := (Option.bind_some _ _).symm.trans H; with_reducible exact H2_) | with_reducible exact H | (rw [hy175]; exact H) | exact H
 have Ny175 := Aside0.mk hy175
 clear hy175
 obtain rfl := Option.some.inj H
 go_enter Try.func37, Try.ntmps37
 go_wp2_with (first | ((with_reducible refine gate_dst (N := 1) rfl ?_); refine Kd.R_lit Kd.string _ 9 ?hg (N := 1) ?hd (xs := ([(⟨#[]⟩ : ByteArray), (⟨#[]⟩ : ByteArray), (⟨#[108, 97, 116, 110]⟩ : ByteArray), (⟨#[99, 121, 114, 108]⟩ : ByteArray), (⟨#[104, 97, 110, 115]⟩ : ByteArray), (⟨#[113, 97, 97, 105]⟩ : ByteArray), (⟨#[104, 97, 110, 116]⟩ : ByteArray)] : List ByteArray)) (inner := [.string (⟨#[]⟩ : ByteArray), .string (⟨#[]⟩ : ByteArray), .string (⟨#[108, 97, 116, 110]⟩ : ByteArray), .string (⟨#[99, 121, 114, 108]⟩ : ByteArray), .string (⟨#[104, 97, 110, 115]⟩ : ByteArray), .string (⟨#[113, 97, 97, 105]⟩ : ByteArray), .string (⟨#[104, 97, 110, 116]⟩ : ByteArray)]) (ok := fun _ => True) (okp := fun _ => True) ?hr ?hp (fun _ hk => hk) trivial (Below.refl _ _) (Nat.le_refl _) (by simp) ?_; (case hd => rfl); (case hg => rfl); (case hr => first | (go_simp; done) | (go_simp; rfl)); (case hp => exact (Reps.one (show Kd.M Kd.string _ _ _ (⟨#[]⟩ : ByteArray) [.string (⟨#[]⟩ : ByteArray)] from rfl) (Reps.one (show Kd.M Kd.string _ _ _ (⟨#[]⟩ : ByteArray) [.string (⟨#[]⟩ : ByteArray)] from rfl) (Reps.one (show Kd.M Kd.string _ _ _ (⟨#[108, 97, 116, 110]⟩ : ByteArray) [.string (⟨#[108, 97, 116, 110]⟩ : ByteArray)] from rfl) (Reps.one (show Kd.M Kd.string _ _ _ (⟨#[99, 121, 114, 108]⟩ : ByteArray) [.string (⟨#[99, 121, 114, 108]⟩ : ByteArray)] from rfl) (Reps.one (show Kd.M Kd.string _ _ _ (⟨#[104, 97, 110, 115]⟩ : ByteArray) [.string (⟨#[104, 97, 110, 115]⟩ : ByteArray)] from rfl) (Reps.one (show Kd.M Kd.string _ _ _ (⟨#[113, 97, 97, 105]⟩ : ByteArray) [.string (⟨#[113, 97, 97, 105]⟩ : ByteArray)] from rfl) (Reps.one (show Kd.M Kd.string _ _ _ (⟨#[104, 97, 110, 116]⟩ : ByteArray) [.string (⟨#[104, 97, 110, 116]⟩ : ByteArray)] from rfl) (Reps.none _ _))))))))); intro v176 w1 ho2 hb hg_ hnew_; clear hg_ hnew_; (first | rw [← Ny175.out] at ho2 | (simp only [Int.reduceToNat] at ho2; rw [← Ny175.out] at ho2)); have n0_ := Aside0.mk (Kd.R_lower ho2 (below_size (by repeat (first | (with_reducible first | exact HB.out | apply below_alloc | apply pw_below_drewN | apply below_drew1) | exact HB.out)))); have n1_ := Aside0.mk (below_step (by repeat (first | (with_reducible first | exact HB.out | apply below_alloc | apply pw_below_drewN | apply below_drew1) | exact HB.out)) hb); clear HB; have HO177 := n0_; have HB := n1_; clear n0_ n1_; clear hb ho2))
 go_ret
 exact ⟨_, by first | rfl | (simp [errW_none, errW_some] <;> rfl) | (simp [*, errW_none, errW_some] <;> rfl), by (with_reducible repeat (first | apply Kd.R_alloc | apply Kd.R_drewN | apply Kd.R_drew)); exact HO177.out, by repeat (first | (with_reducible first | exact HB.out | apply below_alloc | apply pw_below_drewN | apply below_drew1) | exact HB.out)⟩
def isoglossref06_regions.f  : Option (List ByteArray) := some (([(⟨#[]⟩ : ByteArray), (⟨#[]⟩ : ByteArray), (⟨#[117, 115]⟩ : ByteArray), (⟨#[103, 98]⟩ : ByteArray), (⟨#[52, 49, 57]⟩ : ByteArray), (⟨#[100, 100]⟩ : ByteArray), (⟨#[99, 110]⟩ : ByteArray), (⟨#[98, 114]⟩ : ByteArray), (⟨#[115, 117]⟩ : ByteArray)] : List ByteArray))
set_option maxHeartbeats 8000000 in
set_option maxRecDepth 100000 in
theorem isoglossref06_regions.calls  (r : List ByteArray) (w : World) (h : isoglossref06_regions.f  = some r) :
  Calls Try.prog 38 #[] w fun e w' => ∃ v0_ : Value, e = .returned (v0_) ∧ Kd.R Kd.string 9 w' w.heap.size (fun _ => True) v0_ r ∧ Below w.heap.size w w' := by
 have HB := Aside0.mk (Below.refl w.heap.size w)
 have H : (some (([(⟨#[]⟩ : ByteArray), (⟨#[]⟩ : ByteArray), (⟨#[117, 115]⟩ : ByteArray), (⟨#[103, 98]⟩ : ByteArray), (⟨#[52, 49, 57]⟩ : ByteArray), (⟨#[100, 100]⟩ : ByteArray), (⟨#[99, 110]⟩ : ByteArray), (⟨#[98, 114]⟩ : ByteArray), (⟨#[115, 117]⟩ : ByteArray)] : List ByteArray))) = some r := h
 clear h
 obtain ⟨y178, hy178⟩ : ∃ y_ : List ByteArray, y_ = (([(⟨#[]⟩ : ByteArray), (⟨#[]⟩ : ByteArray), (⟨#[117, 115]⟩ : ByteArray), (⟨#[103, 98]⟩ : ByteArray), (⟨#[52, 49, 57]⟩ : ByteArray), (⟨#[100, 100]⟩ : ByteArray), (⟨#[99, 110]⟩ : ByteArray), (⟨#[98, 114]⟩ : ByteArray), (⟨#[115, 117]⟩ : ByteArray)] : List ByteArray)) := ⟨_, rfl⟩
 replace H : (some y178) = some r := by first | (rw [hy178]; with_reducible exact H) | (have H2_ := (Option.bind_some _ _).symm.trans H; rw [hy178]; with_reducible exact H2_) | (have H2_ := (Option.bind_some _ _).symm.trans H; with_reducible exact H2_) | with_reducible exact H | (rw [hy178]; exact H) | exact H
 have Ny178 := Aside0.mk hy178
 clear hy178
 obtain rfl := Option.some.inj H
 go_enter Try.func38, Try.ntmps38
 go_wp2_with (first | ((with_reducible refine gate_dst (N := 1) rfl ?_); refine Kd.R_lit Kd.string _ 9 ?hg (N := 1) ?hd (xs := ([(⟨#[]⟩ : ByteArray), (⟨#[]⟩ : ByteArray), (⟨#[117, 115]⟩ : ByteArray), (⟨#[103, 98]⟩ : ByteArray), (⟨#[52, 49, 57]⟩ : ByteArray), (⟨#[100, 100]⟩ : ByteArray), (⟨#[99, 110]⟩ : ByteArray), (⟨#[98, 114]⟩ : ByteArray), (⟨#[115, 117]⟩ : ByteArray)] : List ByteArray)) (inner := [.string (⟨#[]⟩ : ByteArray), .string (⟨#[]⟩ : ByteArray), .string (⟨#[117, 115]⟩ : ByteArray), .string (⟨#[103, 98]⟩ : ByteArray), .string (⟨#[52, 49, 57]⟩ : ByteArray), .string (⟨#[100, 100]⟩ : ByteArray), .string (⟨#[99, 110]⟩ : ByteArray), .string (⟨#[98, 114]⟩ : ByteArray), .string (⟨#[115, 117]⟩ : ByteArray)]) (ok := fun _ => True) (okp := fun _ => True) ?hr ?hp (fun _ hk => hk) trivial (Below.refl _ _) (Nat.le_refl _) (by simp) ?_; (case hd => rfl); (case hg => rfl); (case hr => first | (go_simp; done) | (go_simp; rfl)); (case hp => exact (Reps.one (show Kd.M Kd.string _ _ _ (⟨#[]⟩ : ByteArray) [.string (⟨#[]⟩ : ByteArray)] from rfl) (Reps.one (show Kd.M Kd.string _ _ _ (⟨#[]⟩ : ByteArray) [.string (⟨#[]⟩ : ByteArray)] from rfl) (Reps.one (show Kd.M Kd.string _ _ _ (⟨#[117, 115]⟩ : ByteArray) [.string (⟨#[117, 115]⟩ : ByteArray)] from rfl) (Reps.one (show Kd.M Kd.string _ _ _ (⟨#[103, 98]⟩ : ByteArray) [.string (⟨#[103, 98]⟩ : ByteArray)] from rfl) (Reps.one (show Kd.M Kd.string _ _ _ (⟨#[52, 49, 57]⟩ : ByteArray) [.string (⟨#[52, 49, 57]⟩ : ByteArray)] from rfl) (Reps.one (show Kd.M Kd.string _ _ _ (⟨#[100, 100]⟩ : ByteArray) [.string (⟨#[100, 100]⟩ : ByteArray)] from rfl) (Reps.one (show Kd.M Kd.string _ _ _ (⟨#[99, 110]⟩ : ByteArray) [.string (⟨#[99, 110]⟩ : ByteArray)] from rfl) (Reps.one (show Kd.M Kd.string _ _ _ (⟨#[98, 114]⟩ : ByteArray) [.string (⟨#[98, 114]⟩ : ByteArray)] from rfl) (Reps.one (show Kd.M Kd.string _ _ _ (⟨#[115, 117]⟩ : ByteArray) [.string (⟨#[115, 117]⟩ : ByteArray)] from rfl) (Reps.none _ _))))))))))); intro v179 w1 ho2 hb hg_ hnew_; clear hg_ hnew_; (first | rw [← Ny178.out] at ho2 | (simp only [Int.reduceToNat] at ho2; rw [← Ny178.out] at ho2)); have n0_ := Aside0.mk (Kd.R_lower ho2 (below_size (by repeat (first | (with_reducible first | exact HB.out | apply below_alloc | apply pw_below_drewN | apply below_drew1) | exact HB.out)))); have n1_ := Aside0.mk (below_step (by repeat (first | (with_reducible first | exact HB.out | apply below_alloc | apply pw_below_drewN | apply below_drew1) | exact HB.out)) hb); clear HB; have HO180 := n0_; have HB := n1_; clear n0_ n1_; clear hb ho2))
 go_ret
 exact ⟨_, by first | rfl | (simp [errW_none, errW_some] <;> rfl) | (simp [*, errW_none, errW_some] <;> rfl), by (with_reducible repeat (first | apply Kd.R_alloc | apply Kd.R_drewN | apply Kd.R_drew)); exact HO180.out, by repeat (first | (with_reducible first | exact HB.out | apply below_alloc | apply pw_below_drewN | apply below_drew1) | exact HB.out)⟩
def isoglossref06_variants.f  : Option (List ByteArray) := some (([(⟨#[49, 57, 57, 52]⟩ : ByteArray), (⟨#[104, 101, 112, 108, 111, 99]⟩ : ByteArray), (⟨#[102, 111, 110, 105, 112, 97]⟩ : ByteArray), (⟨#[97, 114, 101, 118, 101, 108, 97]⟩ : ByteArray), (⟨#[49, 97, 50, 98]⟩ : ByteArray), (⟨#[115, 99, 111, 117, 115, 101]⟩ : ByteArray)] : List ByteArray))
set_option maxHeartbeats 8000000 in
set_option maxRecDepth 100000 in
theorem isoglossref06_variants.calls  (r : List ByteArray) (w : World) (h : isoglossref06_variants.f  = some r) :
  Calls Try.prog 39 #[] w fun e w' => ∃ v0_ : Value, e = .returned (v0_) ∧ Kd.R Kd.string 9 w' w.heap.size (fun _ => True) v0_ r ∧ Below w.heap.size w w' := by
 have HB := Aside0.mk (Below.refl w.heap.size w)
 have H : (some (([(⟨#[49, 57, 57, 52]⟩ : ByteArray), (⟨#[104, 101, 112, 108, 111, 99]⟩ : ByteArray), (⟨#[102, 111, 110, 105, 112, 97]⟩ : ByteArray), (⟨#[97, 114, 101, 118, 101, 108, 97]⟩ : ByteArray), (⟨#[49, 97, 50, 98]⟩ : ByteArray), (⟨#[115, 99, 111, 117, 115, 101]⟩ : ByteArray)] : List ByteArray))) = some r := h
 clear h
 obtain ⟨y181, hy181⟩ : ∃ y_ : List ByteArray, y_ = (([(⟨#[49, 57, 57, 52]⟩ : ByteArray), (⟨#[104, 101, 112, 108, 111, 99]⟩ : ByteArray), (⟨#[102, 111, 110, 105, 112, 97]⟩ : ByteArray), (⟨#[97, 114, 101, 118, 101, 108, 97]⟩ : ByteArray), (⟨#[49, 97, 50, 98]⟩ : ByteArray), (⟨#[115, 99, 111, 117, 115, 101]⟩ : ByteArray)] : List ByteArray)) := ⟨_, rfl⟩
 replace H : (some y181) = some r := by first | (rw [hy181]; with_reducible exact H) | (have H2_ := (Option.bind_some _ _).symm.trans H; rw [hy181]; with_reducible exact H2_) | (have H2_ := (Option.bind_some _ _).symm.trans H; with_reducible exact H2_) | with_reducible exact H | (rw [hy181]; exact H) | exact H
 have Ny181 := Aside0.mk hy181
 clear hy181
 obtain rfl := Option.some.inj H
 go_enter Try.func39, Try.ntmps39
 go_wp2_with (first | ((with_reducible refine gate_dst (N := 1) rfl ?_); refine Kd.R_lit Kd.string _ 9 ?hg (N := 1) ?hd (xs := ([(⟨#[49, 57, 57, 52]⟩ : ByteArray), (⟨#[104, 101, 112, 108, 111, 99]⟩ : ByteArray), (⟨#[102, 111, 110, 105, 112, 97]⟩ : ByteArray), (⟨#[97, 114, 101, 118, 101, 108, 97]⟩ : ByteArray), (⟨#[49, 97, 50, 98]⟩ : ByteArray), (⟨#[115, 99, 111, 117, 115, 101]⟩ : ByteArray)] : List ByteArray)) (inner := [.string (⟨#[49, 57, 57, 52]⟩ : ByteArray), .string (⟨#[104, 101, 112, 108, 111, 99]⟩ : ByteArray), .string (⟨#[102, 111, 110, 105, 112, 97]⟩ : ByteArray), .string (⟨#[97, 114, 101, 118, 101, 108, 97]⟩ : ByteArray), .string (⟨#[49, 97, 50, 98]⟩ : ByteArray), .string (⟨#[115, 99, 111, 117, 115, 101]⟩ : ByteArray)]) (ok := fun _ => True) (okp := fun _ => True) ?hr ?hp (fun _ hk => hk) trivial (Below.refl _ _) (Nat.le_refl _) (by simp) ?_; (case hd => rfl); (case hg => rfl); (case hr => first | (go_simp; done) | (go_simp; rfl)); (case hp => exact (Reps.one (show Kd.M Kd.string _ _ _ (⟨#[49, 57, 57, 52]⟩ : ByteArray) [.string (⟨#[49, 57, 57, 52]⟩ : ByteArray)] from rfl) (Reps.one (show Kd.M Kd.string _ _ _ (⟨#[104, 101, 112, 108, 111, 99]⟩ : ByteArray) [.string (⟨#[104, 101, 112, 108, 111, 99]⟩ : ByteArray)] from rfl) (Reps.one (show Kd.M Kd.string _ _ _ (⟨#[102, 111, 110, 105, 112, 97]⟩ : ByteArray) [.string (⟨#[102, 111, 110, 105, 112, 97]⟩ : ByteArray)] from rfl) (Reps.one (show Kd.M Kd.string _ _ _ (⟨#[97, 114, 101, 118, 101, 108, 97]⟩ : ByteArray) [.string (⟨#[97, 114, 101, 118, 101, 108, 97]⟩ : ByteArray)] from rfl) (Reps.one (show Kd.M Kd.string _ _ _ (⟨#[49, 97, 50, 98]⟩ : ByteArray) [.string (⟨#[49, 97, 50, 98]⟩ : ByteArray)] from rfl) (Reps.one (show Kd.M Kd.string _ _ _ (⟨#[115, 99, 111, 117, 115, 101]⟩ : ByteArray) [.string (⟨#[115, 99, 111, 117, 115, 101]⟩ : ByteArray)] from rfl) (Reps.none _ _)))))))); intro v182 w1 ho2 hb hg_ hnew_; clear hg_ hnew_; (first | rw [← Ny181.out] at ho2 | (simp only [Int.reduceToNat] at ho2; rw [← Ny181.out] at ho2)); have n0_ := Aside0.mk (Kd.R_lower ho2 (below_size (by repeat (first | (with_reducible first | exact HB.out | apply below_alloc | apply pw_below_drewN | apply below_drew1) | exact HB.out)))); have n1_ := Aside0.mk (below_step (by repeat (first | (with_reducible first | exact HB.out | apply below_alloc | apply pw_below_drewN | apply below_drew1) | exact HB.out)) hb); clear HB; have HO183 := n0_; have HB := n1_; clear n0_ n1_; clear hb ho2))
 go_ret
 exact ⟨_, by first | rfl | (simp [errW_none, errW_some] <;> rfl) | (simp [*, errW_none, errW_some] <;> rfl), by (with_reducible repeat (first | apply Kd.R_alloc | apply Kd.R_drewN | apply Kd.R_drew)); exact HO183.out, by repeat (first | (with_reducible first | exact HB.out | apply below_alloc | apply pw_below_drewN | apply below_drew1) | exact HB.out)⟩
def isoglossref06_words.f  : Option (List ByteArray) := some (([(⟨#[99, 97]⟩ : ByteArray), (⟨#[98, 117, 100, 100, 104, 105, 115, 116]⟩ : ByteArray), (⟨#[99, 111]⟩ : ByteArray), (⟨#[116, 114, 117, 101]⟩ : ByteArray), (⟨#[107, 110]⟩ : ByteArray), (⟨#[112, 104, 111, 110, 101, 98, 107]⟩ : ByteArray), (⟨#[109, 48]⟩ : ByteArray), (⟨#[101, 110]⟩ : ByteArray), (⟨#[97, 98, 49]⟩ : ByteArray), (⟨#[105, 115, 108, 97, 109, 105, 99, 99]⟩ : ByteArray), (⟨#[104, 48]⟩ : ByteArray)] : List ByteArray))
set_option maxHeartbeats 8000000 in
set_option maxRecDepth 100000 in
theorem isoglossref06_words.calls  (r : List ByteArray) (w : World) (h : isoglossref06_words.f  = some r) :
  Calls Try.prog 40 #[] w fun e w' => ∃ v0_ : Value, e = .returned (v0_) ∧ Kd.R Kd.string 9 w' w.heap.size (fun _ => True) v0_ r ∧ Below w.heap.size w w' := by
 have HB := Aside0.mk (Below.refl w.heap.size w)
 have H : (some (([(⟨#[99, 97]⟩ : ByteArray), (⟨#[98, 117, 100, 100, 104, 105, 115, 116]⟩ : ByteArray), (⟨#[99, 111]⟩ : ByteArray), (⟨#[116, 114, 117, 101]⟩ : ByteArray), (⟨#[107, 110]⟩ : ByteArray), (⟨#[112, 104, 111, 110, 101, 98, 107]⟩ : ByteArray), (⟨#[109, 48]⟩ : ByteArray), (⟨#[101, 110]⟩ : ByteArray), (⟨#[97, 98, 49]⟩ : ByteArray), (⟨#[105, 115, 108, 97, 109, 105, 99, 99]⟩ : ByteArray), (⟨#[104, 48]⟩ : ByteArray)] : List ByteArray))) = some r := h
 clear h
 obtain ⟨y184, hy184⟩ : ∃ y_ : List ByteArray, y_ = (([(⟨#[99, 97]⟩ : ByteArray), (⟨#[98, 117, 100, 100, 104, 105, 115, 116]⟩ : ByteArray), (⟨#[99, 111]⟩ : ByteArray), (⟨#[116, 114, 117, 101]⟩ : ByteArray), (⟨#[107, 110]⟩ : ByteArray), (⟨#[112, 104, 111, 110, 101, 98, 107]⟩ : ByteArray), (⟨#[109, 48]⟩ : ByteArray), (⟨#[101, 110]⟩ : ByteArray), (⟨#[97, 98, 49]⟩ : ByteArray), (⟨#[105, 115, 108, 97, 109, 105, 99, 99]⟩ : ByteArray), (⟨#[104, 48]⟩ : ByteArray)] : List ByteArray)) := ⟨_, rfl⟩
 replace H : (some y184) = some r := by first | (rw [hy184]; with_reducible exact H) | (have H2_ := (Option.bind_some _ _).symm.trans H; rw [hy184]; with_reducible exact H2_) | (have H2_ := (Option.bind_some _ _).symm.trans H; with_reducible exact H2_) | with_reducible exact H | (rw [hy184]; exact H) | exact H
 have Ny184 := Aside0.mk hy184
 clear hy184
 obtain rfl := Option.some.inj H
 go_enter Try.func40, Try.ntmps40
 go_wp2_with (first | ((with_reducible refine gate_dst (N := 1) rfl ?_); refine Kd.R_lit Kd.string _ 9 ?hg (N := 1) ?hd (xs := ([(⟨#[99, 97]⟩ : ByteArray), (⟨#[98, 117, 100, 100, 104, 105, 115, 116]⟩ : ByteArray), (⟨#[99, 111]⟩ : ByteArray), (⟨#[116, 114, 117, 101]⟩ : ByteArray), (⟨#[107, 110]⟩ : ByteArray), (⟨#[112, 104, 111, 110, 101, 98, 107]⟩ : ByteArray), (⟨#[109, 48]⟩ : ByteArray), (⟨#[101, 110]⟩ : ByteArray), (⟨#[97, 98, 49]⟩ : ByteArray), (⟨#[105, 115, 108, 97, 109, 105, 99, 99]⟩ : ByteArray), (⟨#[104, 48]⟩ : ByteArray)] : List ByteArray)) (inner := [.string (⟨#[99, 97]⟩ : ByteArray), .string (⟨#[98, 117, 100, 100, 104, 105, 115, 116]⟩ : ByteArray), .string (⟨#[99, 111]⟩ : ByteArray), .string (⟨#[116, 114, 117, 101]⟩ : ByteArray), .string (⟨#[107, 110]⟩ : ByteArray), .string (⟨#[112, 104, 111, 110, 101, 98, 107]⟩ : ByteArray), .string (⟨#[109, 48]⟩ : ByteArray), .string (⟨#[101, 110]⟩ : ByteArray), .string (⟨#[97, 98, 49]⟩ : ByteArray), .string (⟨#[105, 115, 108, 97, 109, 105, 99, 99]⟩ : ByteArray), .string (⟨#[104, 48]⟩ : ByteArray)]) (ok := fun _ => True) (okp := fun _ => True) ?hr ?hp (fun _ hk => hk) trivial (Below.refl _ _) (Nat.le_refl _) (by simp) ?_; (case hd => rfl); (case hg => rfl); (case hr => first | (go_simp; done) | (go_simp; rfl)); (case hp => exact (Reps.one (show Kd.M Kd.string _ _ _ (⟨#[99, 97]⟩ : ByteArray) [.string (⟨#[99, 97]⟩ : ByteArray)] from rfl) (Reps.one (show Kd.M Kd.string _ _ _ (⟨#[98, 117, 100, 100, 104, 105, 115, 116]⟩ : ByteArray) [.string (⟨#[98, 117, 100, 100, 104, 105, 115, 116]⟩ : ByteArray)] from rfl) (Reps.one (show Kd.M Kd.string _ _ _ (⟨#[99, 111]⟩ : ByteArray) [.string (⟨#[99, 111]⟩ : ByteArray)] from rfl) (Reps.one (show Kd.M Kd.string _ _ _ (⟨#[116, 114, 117, 101]⟩ : ByteArray) [.string (⟨#[116, 114, 117, 101]⟩ : ByteArray)] from rfl) (Reps.one (show Kd.M Kd.string _ _ _ (⟨#[107, 110]⟩ : ByteArray) [.string (⟨#[107, 110]⟩ : ByteArray)] from rfl) (Reps.one (show Kd.M Kd.string _ _ _ (⟨#[112, 104, 111, 110, 101, 98, 107]⟩ : ByteArray) [.string (⟨#[112, 104, 111, 110, 101, 98, 107]⟩ : ByteArray)] from rfl) (Reps.one (show Kd.M Kd.string _ _ _ (⟨#[109, 48]⟩ : ByteArray) [.string (⟨#[109, 48]⟩ : ByteArray)] from rfl) (Reps.one (show Kd.M Kd.string _ _ _ (⟨#[101, 110]⟩ : ByteArray) [.string (⟨#[101, 110]⟩ : ByteArray)] from rfl) (Reps.one (show Kd.M Kd.string _ _ _ (⟨#[97, 98, 49]⟩ : ByteArray) [.string (⟨#[97, 98, 49]⟩ : ByteArray)] from rfl) (Reps.one (show Kd.M Kd.string _ _ _ (⟨#[105, 115, 108, 97, 109, 105, 99, 99]⟩ : ByteArray) [.string (⟨#[105, 115, 108, 97, 109, 105, 99, 99]⟩ : ByteArray)] from rfl) (Reps.one (show Kd.M Kd.string _ _ _ (⟨#[104, 48]⟩ : ByteArray) [.string (⟨#[104, 48]⟩ : ByteArray)] from rfl) (Reps.none _ _))))))))))))); intro v185 w1 ho2 hb hg_ hnew_; clear hg_ hnew_; (first | rw [← Ny184.out] at ho2 | (simp only [Int.reduceToNat] at ho2; rw [← Ny184.out] at ho2)); have n0_ := Aside0.mk (Kd.R_lower ho2 (below_size (by repeat (first | (with_reducible first | exact HB.out | apply below_alloc | apply pw_below_drewN | apply below_drew1) | exact HB.out)))); have n1_ := Aside0.mk (below_step (by repeat (first | (with_reducible first | exact HB.out | apply below_alloc | apply pw_below_drewN | apply below_drew1) | exact HB.out)) hb); clear HB; have HO186 := n0_; have HB := n1_; clear n0_ n1_; clear hb ho2))
 go_ret
 exact ⟨_, by first | rfl | (simp [errW_none, errW_some] <;> rfl) | (simp [*, errW_none, errW_some] <;> rfl), by (with_reducible repeat (first | apply Kd.R_alloc | apply Kd.R_drewN | apply Kd.R_drew)); exact HO186.out, by repeat (first | (with_reducible first | exact HB.out | apply below_alloc | apply pw_below_drewN | apply below_drew1) | exact HB.out)⟩
def isoglossref02_Title.f (k : Nat) (a0 : ByteArray) : Option (ByteArray) := if a0.toList = ([] : List UInt8) then (some (⟨#[]⟩ : ByteArray)) else (if 0 ≤ 1 then (if 1 ≤ (a0.size : Int) then ((isoglossref02_Upper.f k (a0.extract 0 1)).bind fun t187 => ((isoglossref02_Lower.f k (a0.extract 1 a0.size)).bind fun t188 => (if t187.size + t188.size ≤ 9223372036854775807 then (some (t187 ++ t188)) else (none)))) else (none)) else (none))
def isoglossref02_Title.T3 : Bool × List (List Nat × List Nat) := (true, [([], []), ([0], [0]), ([1], [1]), ([], []), ([3], [3]), ([4, 2], [4]), ([2, 5], [2, 5]), ([6, 5, 0, 1, 2, 3, 4, 5, 6], [6])])
def isoglossref02_Title.B3 : List Nat := [0, 1, 3, 0, 8, 31, 63, 127]
theorem isoglossref02_Title.tab3 : rtab .any (opsOf Try.f58 3) = isoglossref02_Title.T3 := by kernel_rfl
theorem isoglossref02_Title.bits3 : waitsOk isoglossref02_Title.T3.2 isoglossref02_Title.B3 = true := by kernel_rfl
set_option maxHeartbeats 8000000 in
set_option maxRecDepth 100000 in
theorem isoglossref02_Title.calls (k : Nat) (a0 : ByteArray) (r : ByteArray) (w : World) (h : isoglossref02_Title.f k a0 = some r) :
  Calls Try.prog 58 #[.string a0] w fun e w' => e = .returned (.string r) ∧ Below w.heap.size w w' := by
 have HB := Aside0.mk (Below.refl w.heap.size w)
 have H : (if a0.toList = ([] : List UInt8) then (some (⟨#[]⟩ : ByteArray)) else (if 0 ≤ 1 then (if 1 ≤ (a0.size : Int) then ((isoglossref02_Upper.f k (a0.extract 0 1)).bind fun t187 => ((isoglossref02_Lower.f k (a0.extract 1 a0.size)).bind fun t188 => (if t187.size + t188.size ≤ 9223372036854775807 then (some (t187 ++ t188)) else (none)))) else (none)) else (none))) = some r := h
 clear h
 by_cases c2 : a0.toList = ([] : List UInt8)
 ·rw [if_pos c2] at H
  have c2b0 : (a0.toList == ([] : List UInt8)) = true := beq_iff_eq.mpr c2
  have c2e0 : a0.toList.isEmpty = true := List.isEmpty_iff.2 c2
  have c2e1 : (!a0.toList.isEmpty) = false := by rw [c2e0]; rfl
  have c2b1 : (a0.toList != ([] : List UInt8)) = false := bne_eq_false_iff_eq.mpr c2
  clear c2
  obtain rfl := Option.some.inj H
  go_enter Try.func58, Try.ntmps58
  go_wp2
  go_ret
  exact ⟨by first | rfl | (simp [errW_none, errW_some] <;> rfl) | (simp [*, errW_none, errW_some] <;> rfl), by repeat (first | (with_reducible first | exact HB.out | apply below_alloc | apply pw_below_drewN | apply below_drew1) | exact HB.out)⟩
 ·rw [if_neg c2] at H
  have c2b0 : (a0.toList == ([] : List UInt8)) = false := beq_eq_false_iff_ne.mpr c2
  have c2e0 : a0.toList.isEmpty = false := List.isEmpty_eq_false_iff.2 c2
  have c2e1 : (!a0.toList.isEmpty) = true := by rw [c2e0]; rfl
  have c2b1 : (a0.toList != ([] : List UInt8)) = true := bne_iff_ne.mpr c2
  by_cases c3 : 0 ≤ 1
  ·rw [if_pos c3] at H
   have c3b0 := eq_true c3
   have c3b1 : decide (0 ≤ 1) = true := decide_eq_true c3
   clear c3
   by_cases c4 : 1 ≤ (a0.size : Int)
   ·rw [if_pos c4] at H
    have c4b0 := eq_true c4
    have c4b1 : decide (1 ≤ (a0.size : Int)) = true := decide_eq_true c4
    clear c4
    replace H := Option.bind_eq_some_iff.mp H
    obtain ⟨t187, A50, H⟩ := H
    replace H : ((isoglossref02_Lower.f k (a0.extract 1 a0.size)).bind fun t188 => (if t187.size + t188.size ≤ 9223372036854775807 then (some (t187 ++ t188)) else (none))) = some r := H
    have A5 := Aside0.mk A50
    clear A50
    have c6b0 := eq_true (of_decide_eq_true (by first | (with_reducible assumption) | assumption) : 1 ≤ (a0.size : Int))
    replace H := Option.bind_eq_some_iff.mp H
    obtain ⟨t188, A70, H⟩ := H
    replace H : (if t187.size + t188.size ≤ 9223372036854775807 then (some (t187 ++ t188)) else (none)) = some r := H
    have A7 := Aside0.mk A70
    clear A70
    by_cases c8 : t187.size + t188.size ≤ 9223372036854775807
    ·rw [if_pos c8] at H
     have c8b0 := eq_true c8
     have c8b1 : decide (t187.size + t188.size ≤ 9223372036854775807) = true := decide_eq_true c8
     try have c8b2 : (9223372036854775807 < t187.size + t188.size) = False := eq_false (Nat.not_lt.2 c8)
     obtain rfl := Option.some.inj H
     go_enter Try.func58, Try.ntmps58
     try go_wp2
     have n0_ := Aside0.mk (below_drew1 HB.out)
     clear HB
     have HB := n0_
     clear n0_
     refine start_ (n := 8) (S := fun w' => True) (ds := []) #[false, false, false, false, false, false, false, false] (by kernel_rfl) rfl rfl trivial (fun hHeld => ?_); refine with_tabW isoglossref02_Title.tab3 isoglossref02_Title.bits3 (fun HT_ HW_ => ?_)
     generalize w.drew = w9 at HB hHeld ⊢
     refine pure_ (i := 0) (N := some 5) (v := ?_) (a' := ?_) #[true, false, false, false, false, false, false, false] rfl rfl (any_of HT_.out (by kernel_rfl)) (fun _ _ _ h => h) (Or.inl ⟨by rfl, ?_⟩) ?_ ?_
     rotate_left
     ·intro w'
      go_simp
      with_reducible rfl
     rotate_left
     ·simp only [Act.put, List.setIfInBounds_toArray, List.set_cons_zero, List.set_cons_succ, i64_w, i32_w]
      rfl
     refine pure_ (i := 1) (N := some 6) (v := ?_) (a' := ?_) #[true, true, false, false, false, false, false, false] rfl rfl (any_of HT_.out (by kernel_rfl)) (fun _ _ _ h => h) (Or.inl ⟨by rfl, ?_⟩) ?_ ?_
     rotate_left
     ·intro w'
      go_simp
      with_reducible rfl
     rotate_left
     ·simp only [Act.put, List.setIfInBounds_toArray, List.set_cons_zero, List.set_cons_succ, i64_w, i32_w]
      rfl
     refine pure_ (i := 3) (N := some 8) (v := ?_) (a' := ?_) #[true, true, false, true, false, false, false, false] rfl rfl (any_of HT_.out (by kernel_rfl)) (fun _ _ _ h => h) (Or.inl ⟨by rfl, ?_⟩) ?_ ?_
     rotate_left
     ·intro w'
      go_simp
      with_reducible rfl
     rotate_left
     ·simp only [Act.put, List.setIfInBounds_toArray, List.set_cons_zero, List.set_cons_succ, i64_w, i32_w]
      rfl
     refine pure_ (i := 4) (N := some 9) (v := ?_) (a' := ?_) #[true, true, false, true, true, false, false, false] rfl rfl (any_of HT_.out (by kernel_rfl)) (fun _ _ _ h => h) (Or.inl ⟨by rfl, ?_⟩) ?_ ?_
     rotate_left
     ·intro w'
      go_simp
      with_reducible rfl
     rotate_left
     ·simp only [Act.put, List.setIfInBounds_toArray, List.set_cons_zero, List.set_cons_succ, i64_w, i32_w]
      rfl
     refine one_ (i := 2) (N := some 7) #[true, true, true, true, true, false, false, false] rfl rfl (one_of HT_.out (by kernel_rfl)) (by decide) (fun K hK => ?_)
     refine goes_ Try.func13 (by kernel_rfl) rfl #[.string (a0.extract 0 1)] (by rfl) rfl rfl (by (try simp only [List.map_toArray, List.map_cons, List.map_nil]); first | done | rfl | (simp only [List.length_drop, List.length_take]; rfl)) ?_
     with_reducible refine (isoglossref02_Upper.calls k (a0.extract 0 1) t187 _ A5.out).mono ?_
     rintro e w10 ⟨rfl, hb⟩
     refine ⟨_, rfl, ?_⟩
     have n0_ := Aside0.mk (below_step (by repeat (first | (with_reducible first | exact HB.out | apply below_alloc | apply pw_below_drewN | apply below_drew1) | exact HB.out)) hb)
     clear HB
     have HB := n0_
     clear n0_
     (try clear hb)
     (try clear hb2)
     (try clear hk)
     (try clear hi)
     refine hK.out _ _ trivial (fun hHeld => ?_)
     clear hK K
     refine norm_ (a' := ?_) ?_ ?_
     rotate_left
     ·show Act.put _ (some 7) _ = _
      simp only [Act.put, List.setIfInBounds_toArray, List.set_cons_zero, List.set_cons_succ, i64_w, i32_w]
      rfl
     refine one_ (i := 5) (N := some 10) #[true, true, true, true, true, true, false, false] rfl rfl (one_of HT_.out (by kernel_rfl)) (by decide) (fun K hK => ?_)
     refine goes_ Try.func12 (by kernel_rfl) rfl #[.string (a0.extract 1 a0.size)] (by rfl) rfl rfl (by (try simp only [List.map_toArray, List.map_cons, List.map_nil]); first | done | rfl | (simp only [List.length_drop, List.length_take]; rfl)) ?_
     with_reducible refine (isoglossref02_Lower.calls k (a0.extract 1 a0.size) t188 _ A7.out).mono ?_
     rintro e w11 ⟨rfl, hb⟩
     refine ⟨_, rfl, ?_⟩
     have n0_ := Aside0.mk (below_step (by repeat (first | (with_reducible first | exact HB.out | apply below_alloc | apply pw_below_drewN | apply below_drew1) | exact HB.out)) hb)
     clear HB
     have HB := n0_
     clear n0_
     (try clear hb)
     (try clear hb2)
     (try clear hk)
     (try clear hi)
     refine hK.out _ _ trivial (fun hHeld => ?_)
     clear hK K
     refine norm_ (a' := ?_) ?_ ?_
     rotate_left
     ·show Act.put _ (some 10) _ = _
      simp only [Act.put, List.setIfInBounds_toArray, List.set_cons_zero, List.set_cons_succ, i64_w, i32_w]
      rfl
     refine pure_ (i := 6) (N := some 11) (v := ?_) (a' := ?_) #[true, true, true, true, true, true, true, false] rfl rfl (any_of HT_.out (by kernel_rfl)) (fun _ _ _ h => h) (Or.inl ⟨by rfl, ?_⟩) ?_ ?_
     rotate_left
     ·intro w'
      go_simp
      with_reducible rfl
     rotate_left
     ·simp only [Act.put, List.setIfInBounds_toArray, List.set_cons_zero, List.set_cons_succ, i64_w, i32_w]
      rfl
     refine pure_ (i := 7) (N := some 2) (v := ?_) (a' := ?_) #[true, true, true, true, true, true, true, true] rfl rfl (any_of HT_.out (by kernel_rfl)) (fun _ _ _ h => h) (Or.inl ⟨by rfl, ?_⟩) ?_ ?_
     rotate_left
     ·intro w'
      go_simp
      with_reducible rfl
     rotate_left
     ·simp only [Act.put, List.setIfInBounds_toArray, List.set_cons_zero, List.set_cons_succ, i64_w, i32_w]
      rfl
     refine done_ (done_of HT_.out (by kernel_rfl)) ?_
     try go_wp2
     go_ret
     exact ⟨by first | rfl | (simp [errW_none, errW_some] <;> rfl) | (simp [*, errW_none, errW_some] <;> rfl), by repeat (first | (with_reducible first | exact HB.out | apply below_alloc | apply pw_below_drewN | apply below_drew1) | exact HB.out)⟩
    ·rw [if_neg c8] at H
     exact absurd H (by simp)
   ·rw [if_neg c4] at H
    exact absurd H (by simp)
  ·rw [if_neg c3] at H
   exact absurd H (by simp)
section
set_option linter.unusedVariables false
def isoglossref06_spoilt.f (k : Nat) (a0_0 : ByteArray) (l0_1 : List ByteArray) (a0_2 : ByteArray) (a0_3 : ByteArray) (l0_4 : List ByteArray) (l0_5 : List (S62)) (l0_6 : List ByteArray) (a0_7 : ByteArray) (a1 : Int) : Option (ByteArray × List ByteArray × ByteArray × ByteArray × List ByteArray × (List (S62)) × List ByteArray × ByteArray) :=
  if l0_4.length ≤ 1000 ∧ l0_5.length ≤ 1000 ∧ l0_6.length ≤ 1000 then
    if a1 = 1 then some (a0_0, l0_1, a0_2, a0_3, l0_4 ++ [⟨#[102, 111, 110, 105, 112, 97]⟩, ⟨#[102, 111, 110, 105, 112, 97]⟩], l0_5, l0_6, a0_7)
    else if a1 = 2 then (isoglossref02_Title.f k a0_0).bind fun t => some (t, l0_1, a0_2, a0_3, l0_4, l0_5, l0_6, a0_7)
    else if a1 = 3 then some (a0_0, l0_1, a0_2, a0_3, l0_4, l0_5 ++ [⟨⟨#[98]⟩, []⟩], l0_6, a0_7)
    else if a1 = 4 then some (a0_0, l0_1, ⟨#[108, 97, 116]⟩, a0_3, l0_4, l0_5, l0_6, a0_7)
    else if a1 = 5 then some (a0_0, l0_1, a0_2, a0_3, l0_4, l0_5, l0_6, ⟨#[105, 45, 97, 109, 105]⟩)
    else if a1 = 6 then some (a0_0, l0_1, a0_2, a0_3, l0_4, l0_5, l0_6 ++ [⟨#[97, 98, 99, 100, 101, 102, 103, 104, 105]⟩], a0_7)
    else if a1 = 7 then some (a0_0, l0_1, a0_2, a0_3, l0_4, l0_5 ++ [⟨⟨#[99]⟩, [⟨#[97, 98]⟩]⟩, ⟨⟨#[99]⟩, [⟨#[99, 100]⟩]⟩], l0_6, a0_7)
    else if a1 = 8 then some (⟨#[]⟩, l0_1, a0_2, a0_3, l0_4, l0_5, l0_6, a0_7)
    else some (a0_0, l0_1, a0_2, a0_3, l0_4, l0_5, l0_6, a0_7)
  else none
end
end Go.Proofs.Ytojglflamecnkaa.P
