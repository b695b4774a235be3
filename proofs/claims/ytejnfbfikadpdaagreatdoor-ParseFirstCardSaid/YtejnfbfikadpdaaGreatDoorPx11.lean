-- Written for this claim by the session's own run of the print, functions proved by hand put in.
import Derived.Test.YtejnfbfikadpdaaGreatDoorSq
import Derived.Test.YtejnfbfikadpdaaGreatDoorPx0
import Derived.Test.YtejnfbfikadpdaaGreatDoorPx6
import Derived.Test.YtejnfbfikadpdaaGreatDoorPx9
namespace Go.Proofs.YtejnfbfikadpdaaGreatDoor.P
open Go.RowKit Go.Proofs.YtejnfbfikadpdaaGreatDoorW.PrintWords Go.Proofs.YtejnfbfikadpdaaGreatDoorW.PrintLast Go.Proofs.YtejnfbfikadpdaaGreatDoorW.PrintMore
open List renaming setIfInBounds_toArray → sA_, set_cons_zero → sB_, set_cons_succ → sC_
open Go.Proofs.YtejnfbfikadpdaaGreatDoorW.PrintWords renaming below_alloc → wA_, pw_below_drewN → wN_, below_drew1 → wD_, below_step → wT_
open Go.Proofs.YtejnfbfikadpdaaGreatDoorW.PrintWords.Kd renaming R_alloc → rA_, R_drewN → rN_, R_drew → rD_
attribute [local go_sem] max2_int min2_int max_two min_two max_three min_three max_four min_four   -- for this text's walks alone
set_option linter.unusedVariables false
set_option linter.unusedSimpArgs false
def r5_List.f  : Option (List ByteArray) := some (([(⟨#[97, 114, 116, 45, 108, 111, 106, 98, 97, 110, 42]⟩ : ByteArray), (⟨#[99, 101, 108, 45, 103, 97, 117, 108, 105, 115, 104, 42]⟩ : ByteArray), (⟨#[101, 110, 45, 103, 98, 45, 111, 101, 100]⟩ : ByteArray), (⟨#[105, 45, 97, 109, 105]⟩ : ByteArray), (⟨#[105, 45, 98, 110, 110]⟩ : ByteArray), (⟨#[105, 45, 100, 101, 102, 97, 117, 108, 116]⟩ : ByteArray), (⟨#[105, 45, 101, 110, 111, 99, 104, 105, 97, 110]⟩ : ByteArray), (⟨#[105, 45, 104, 97, 107]⟩ : ByteArray), (⟨#[105, 45, 107, 108, 105, 110, 103, 111, 110]⟩ : ByteArray), (⟨#[105, 45, 108, 117, 120]⟩ : ByteArray), (⟨#[105, 45, 109, 105, 110, 103, 111]⟩ : ByteArray), (⟨#[105, 45, 110, 97, 118, 97, 106, 111]⟩ : ByteArray), (⟨#[105, 45, 112, 119, 110]⟩ : ByteArray), (⟨#[105, 45, 116, 97, 111]⟩ : ByteArray), (⟨#[105, 45, 116, 97, 121]⟩ : ByteArray), (⟨#[105, 45, 116, 115, 117]⟩ : ByteArray), (⟨#[110, 111, 45, 98, 111, 107, 42]⟩ : ByteArray), (⟨#[110, 111, 45, 110, 121, 110, 42]⟩ : ByteArray), (⟨#[115, 103, 110, 45, 98, 101, 45, 102, 114]⟩ : ByteArray), (⟨#[115, 103, 110, 45, 98, 101, 45, 110, 108]⟩ : ByteArray), (⟨#[115, 103, 110, 45, 99, 104, 45, 100, 101]⟩ : ByteArray), (⟨#[122, 104, 45, 103, 117, 111, 121, 117, 42]⟩ : ByteArray), (⟨#[122, 104, 45, 104, 97, 107, 107, 97, 42]⟩ : ByteArray), (⟨#[122, 104, 45, 109, 105, 110, 42]⟩ : ByteArray), (⟨#[122, 104, 45, 109, 105, 110, 45, 110, 97, 110, 42]⟩ : ByteArray), (⟨#[122, 104, 45, 120, 105, 97, 110, 103, 42]⟩ : ByteArray)] : List ByteArray))
set_option maxHeartbeats 8000000 in
set_option maxRecDepth 100000 in
theorem r5_List.calls  (r : List ByteArray) (w : World) (h : r5_List.f  = some r) :
  Calls Tryz.prog 27 #[] w fun e w' => ∃ v0_ : Value, e = .returned (v0_) ∧ Kd.R Kd.string 9 w' w.heap.size (fun _ => True) v0_ r ∧ Below w.heap.size w w' := by
 have HB := Aside0.mk (Below.refl w.heap.size w)
 have H := h; unfold r5_List.f at H
 clear h
 obtain ⟨ar, ae⟩ : ∃ y_ : List ByteArray, y_ = (([(⟨#[97, 114, 116, 45, 108, 111, 106, 98, 97, 110, 42]⟩ : ByteArray), (⟨#[99, 101, 108, 45, 103, 97, 117, 108, 105, 115, 104, 42]⟩ : ByteArray), (⟨#[101, 110, 45, 103, 98, 45, 111, 101, 100]⟩ : ByteArray), (⟨#[105, 45, 97, 109, 105]⟩ : ByteArray), (⟨#[105, 45, 98, 110, 110]⟩ : ByteArray), (⟨#[105, 45, 100, 101, 102, 97, 117, 108, 116]⟩ : ByteArray), (⟨#[105, 45, 101, 110, 111, 99, 104, 105, 97, 110]⟩ : ByteArray), (⟨#[105, 45, 104, 97, 107]⟩ : ByteArray), (⟨#[105, 45, 107, 108, 105, 110, 103, 111, 110]⟩ : ByteArray), (⟨#[105, 45, 108, 117, 120]⟩ : ByteArray), (⟨#[105, 45, 109, 105, 110, 103, 111]⟩ : ByteArray), (⟨#[105, 45, 110, 97, 118, 97, 106, 111]⟩ : ByteArray), (⟨#[105, 45, 112, 119, 110]⟩ : ByteArray), (⟨#[105, 45, 116, 97, 111]⟩ : ByteArray), (⟨#[105, 45, 116, 97, 121]⟩ : ByteArray), (⟨#[105, 45, 116, 115, 117]⟩ : ByteArray), (⟨#[110, 111, 45, 98, 111, 107, 42]⟩ : ByteArray), (⟨#[110, 111, 45, 110, 121, 110, 42]⟩ : ByteArray), (⟨#[115, 103, 110, 45, 98, 101, 45, 102, 114]⟩ : ByteArray), (⟨#[115, 103, 110, 45, 98, 101, 45, 110, 108]⟩ : ByteArray), (⟨#[115, 103, 110, 45, 99, 104, 45, 100, 101]⟩ : ByteArray), (⟨#[122, 104, 45, 103, 117, 111, 121, 117, 42]⟩ : ByteArray), (⟨#[122, 104, 45, 104, 97, 107, 107, 97, 42]⟩ : ByteArray), (⟨#[122, 104, 45, 109, 105, 110, 42]⟩ : ByteArray), (⟨#[122, 104, 45, 109, 105, 110, 45, 110, 97, 110, 42]⟩ : ByteArray), (⟨#[122, 104, 45, 120, 105, 97, 110, 103, 42]⟩ : ByteArray)] : List ByteArray)) := ⟨_, rfl⟩
 replace H : (some ar) = some r := by first | (rw [ae]; with_reducible exact H) | (have H2_ := (Option.bind_some _ _).symm.trans H; rw [ae]; with_reducible exact H2_) | (have H2_ := (Option.bind_some _ _).symm.trans H; with_reducible exact H2_) | with_reducible exact H | (rw [ae]; exact H) | exact H
 have ai := Aside0.mk ae
 clear ae
 obtain rfl := Option.some.inj H
 go_enter Tryz.func27, Tryz.ntmps27
 go_wp2_with (first | ((with_reducible refine gate_dst (N := 1) rfl ?_); refine Kd.R_lit Kd.string _ 9 ?hg (N := 1) ?hd (xs := ([(⟨#[97, 114, 116, 45, 108, 111, 106, 98, 97, 110, 42]⟩ : ByteArray), (⟨#[99, 101, 108, 45, 103, 97, 117, 108, 105, 115, 104, 42]⟩ : ByteArray), (⟨#[101, 110, 45, 103, 98, 45, 111, 101, 100]⟩ : ByteArray), (⟨#[105, 45, 97, 109, 105]⟩ : ByteArray), (⟨#[105, 45, 98, 110, 110]⟩ : ByteArray), (⟨#[105, 45, 100, 101, 102, 97, 117, 108, 116]⟩ : ByteArray), (⟨#[105, 45, 101, 110, 111, 99, 104, 105, 97, 110]⟩ : ByteArray), (⟨#[105, 45, 104, 97, 107]⟩ : ByteArray), (⟨#[105, 45, 107, 108, 105, 110, 103, 111, 110]⟩ : ByteArray), (⟨#[105, 45, 108, 117, 120]⟩ : ByteArray), (⟨#[105, 45, 109, 105, 110, 103, 111]⟩ : ByteArray), (⟨#[105, 45, 110, 97, 118, 97, 106, 111]⟩ : ByteArray), (⟨#[105, 45, 112, 119, 110]⟩ : ByteArray), (⟨#[105, 45, 116, 97, 111]⟩ : ByteArray), (⟨#[105, 45, 116, 97, 121]⟩ : ByteArray), (⟨#[105, 45, 116, 115, 117]⟩ : ByteArray), (⟨#[110, 111, 45, 98, 111, 107, 42]⟩ : ByteArray), (⟨#[110, 111, 45, 110, 121, 110, 42]⟩ : ByteArray), (⟨#[115, 103, 110, 45, 98, 101, 45, 102, 114]⟩ : ByteArray), (⟨#[115, 103, 110, 45, 98, 101, 45, 110, 108]⟩ : ByteArray), (⟨#[115, 103, 110, 45, 99, 104, 45, 100, 101]⟩ : ByteArray), (⟨#[122, 104, 45, 103, 117, 111, 121, 117, 42]⟩ : ByteArray), (⟨#[122, 104, 45, 104, 97, 107, 107, 97, 42]⟩ : ByteArray), (⟨#[122, 104, 45, 109, 105, 110, 42]⟩ : ByteArray), (⟨#[122, 104, 45, 109, 105, 110, 45, 110, 97, 110, 42]⟩ : ByteArray), (⟨#[122, 104, 45, 120, 105, 97, 110, 103, 42]⟩ : ByteArray)] : List ByteArray)) (inner := [.string (⟨#[97, 114, 116, 45, 108, 111, 106, 98, 97, 110, 42]⟩ : ByteArray), .string (⟨#[99, 101, 108, 45, 103, 97, 117, 108, 105, 115, 104, 42]⟩ : ByteArray), .string (⟨#[101, 110, 45, 103, 98, 45, 111, 101, 100]⟩ : ByteArray), .string (⟨#[105, 45, 97, 109, 105]⟩ : ByteArray), .string (⟨#[105, 45, 98, 110, 110]⟩ : ByteArray), .string (⟨#[105, 45, 100, 101, 102, 97, 117, 108, 116]⟩ : ByteArray), .string (⟨#[105, 45, 101, 110, 111, 99, 104, 105, 97, 110]⟩ : ByteArray), .string (⟨#[105, 45, 104, 97, 107]⟩ : ByteArray), .string (⟨#[105, 45, 107, 108, 105, 110, 103, 111, 110]⟩ : ByteArray), .string (⟨#[105, 45, 108, 117, 120]⟩ : ByteArray), .string (⟨#[105, 45, 109, 105, 110, 103, 111]⟩ : ByteArray), .string (⟨#[105, 45, 110, 97, 118, 97, 106, 111]⟩ : ByteArray), .string (⟨#[105, 45, 112, 119, 110]⟩ : ByteArray), .string (⟨#[105, 45, 116, 97, 111]⟩ : ByteArray), .string (⟨#[105, 45, 116, 97, 121]⟩ : ByteArray), .string (⟨#[105, 45, 116, 115, 117]⟩ : ByteArray), .string (⟨#[110, 111, 45, 98, 111, 107, 42]⟩ : ByteArray), .string (⟨#[110, 111, 45, 110, 121, 110, 42]⟩ : ByteArray), .string (⟨#[115, 103, 110, 45, 98, 101, 45, 102, 114]⟩ : ByteArray), .string (⟨#[115, 103, 110, 45, 98, 101, 45, 110, 108]⟩ : ByteArray), .string (⟨#[115, 103, 110, 45, 99, 104, 45, 100, 101]⟩ : ByteArray), .string (⟨#[122, 104, 45, 103, 117, 111, 121, 117, 42]⟩ : ByteArray), .string (⟨#[122, 104, 45, 104, 97, 107, 107, 97, 42]⟩ : ByteArray), .string (⟨#[122, 104, 45, 109, 105, 110, 42]⟩ : ByteArray), .string (⟨#[122, 104, 45, 109, 105, 110, 45, 110, 97, 110, 42]⟩ : ByteArray), .string (⟨#[122, 104, 45, 120, 105, 97, 110, 103, 42]⟩ : ByteArray)]) (ok := fun _ => True) (okp := fun _ => True) ?hr ?hp (fun _ hk => hk) trivial (Below.refl _ _) (Nat.le_refl _) (by simp) ?_; (case hd => rfl); (case hg => rfl); (case hr => first | (go_simp; done) | (go_simp; rfl)); (case hp => exact (Reps.one (show Kd.M Kd.string _ _ _ (⟨#[97, 114, 116, 45, 108, 111, 106, 98, 97, 110, 42]⟩ : ByteArray) [.string (⟨#[97, 114, 116, 45, 108, 111, 106, 98, 97, 110, 42]⟩ : ByteArray)] from rfl) (Reps.one (show Kd.M Kd.string _ _ _ (⟨#[99, 101, 108, 45, 103, 97, 117, 108, 105, 115, 104, 42]⟩ : ByteArray) [.string (⟨#[99, 101, 108, 45, 103, 97, 117, 108, 105, 115, 104, 42]⟩ : ByteArray)] from rfl) (Reps.one (show Kd.M Kd.string _ _ _ (⟨#[101, 110, 45, 103, 98, 45, 111, 101, 100]⟩ : ByteArray) [.string (⟨#[101, 110, 45, 103, 98, 45, 111, 101, 100]⟩ : ByteArray)] from rfl) (Reps.one (show Kd.M Kd.string _ _ _ (⟨#[105, 45, 97, 109, 105]⟩ : ByteArray) [.string (⟨#[105, 45, 97, 109, 105]⟩ : ByteArray)] from rfl) (Reps.one (show Kd.M Kd.string _ _ _ (⟨#[105, 45, 98, 110, 110]⟩ : ByteArray) [.string (⟨#[105, 45, 98, 110, 110]⟩ : ByteArray)] from rfl) (Reps.one (show Kd.M Kd.string _ _ _ (⟨#[105, 45, 100, 101, 102, 97, 117, 108, 116]⟩ : ByteArray) [.string (⟨#[105, 45, 100, 101, 102, 97, 117, 108, 116]⟩ : ByteArray)] from rfl) (Reps.one (show Kd.M Kd.string _ _ _ (⟨#[105, 45, 101, 110, 111, 99, 104, 105, 97, 110]⟩ : ByteArray) [.string (⟨#[105, 45, 101, 110, 111, 99, 104, 105, 97, 110]⟩ : ByteArray)] from rfl) (Reps.one (show Kd.M Kd.string _ _ _ (⟨#[105, 45, 104, 97, 107]⟩ : ByteArray) [.string (⟨#[105, 45, 104, 97, 107]⟩ : ByteArray)] from rfl) (Reps.one (show Kd.M Kd.string _ _ _ (⟨#[105, 45, 107, 108, 105, 110, 103, 111, 110]⟩ : ByteArray) [.string (⟨#[105, 45, 107, 108, 105, 110, 103, 111, 110]⟩ : ByteArray)] from rfl) (Reps.one (show Kd.M Kd.string _ _ _ (⟨#[105, 45, 108, 117, 120]⟩ : ByteArray) [.string (⟨#[105, 45, 108, 117, 120]⟩ : ByteArray)] from rfl) (Reps.one (show Kd.M Kd.string _ _ _ (⟨#[105, 45, 109, 105, 110, 103, 111]⟩ : ByteArray) [.string (⟨#[105, 45, 109, 105, 110, 103, 111]⟩ : ByteArray)] from rfl) (Reps.one (show Kd.M Kd.string _ _ _ (⟨#[105, 45, 110, 97, 118, 97, 106, 111]⟩ : ByteArray) [.string (⟨#[105, 45, 110, 97, 118, 97, 106, 111]⟩ : ByteArray)] from rfl) (Reps.one (show Kd.M Kd.string _ _ _ (⟨#[105, 45, 112, 119, 110]⟩ : ByteArray) [.string (⟨#[105, 45, 112, 119, 110]⟩ : ByteArray)] from rfl) (Reps.one (show Kd.M Kd.string _ _ _ (⟨#[105, 45, 116, 97, 111]⟩ : ByteArray) [.string (⟨#[105, 45, 116, 97, 111]⟩ : ByteArray)] from rfl) (Reps.one (show Kd.M Kd.string _ _ _ (⟨#[105, 45, 116, 97, 121]⟩ : ByteArray) [.string (⟨#[105, 45, 116, 97, 121]⟩ : ByteArray)] from rfl) (Reps.one (show Kd.M Kd.string _ _ _ (⟨#[105, 45, 116, 115, 117]⟩ : ByteArray) [.string (⟨#[105, 45, 116, 115, 117]⟩ : ByteArray)] from rfl) (Reps.one (show Kd.M Kd.string _ _ _ (⟨#[110, 111, 45, 98, 111, 107, 42]⟩ : ByteArray) [.string (⟨#[110, 111, 45, 98, 111, 107, 42]⟩ : ByteArray)] from rfl) (Reps.one (show Kd.M Kd.string _ _ _ (⟨#[110, 111, 45, 110, 121, 110, 42]⟩ : ByteArray) [.string (⟨#[110, 111, 45, 110, 121, 110, 42]⟩ : ByteArray)] from rfl) (Reps.one (show Kd.M Kd.string _ _ _ (⟨#[115, 103, 110, 45, 98, 101, 45, 102, 114]⟩ : ByteArray) [.string (⟨#[115, 103, 110, 45, 98, 101, 45, 102, 114]⟩ : ByteArray)] from rfl) (Reps.one (show Kd.M Kd.string _ _ _ (⟨#[115, 103, 110, 45, 98, 101, 45, 110, 108]⟩ : ByteArray) [.string (⟨#[115, 103, 110, 45, 98, 101, 45, 110, 108]⟩ : ByteArray)] from rfl) (Reps.one (show Kd.M Kd.string _ _ _ (⟨#[115, 103, 110, 45, 99, 104, 45, 100, 101]⟩ : ByteArray) [.string (⟨#[115, 103, 110, 45, 99, 104, 45, 100, 101]⟩ : ByteArray)] from rfl) (Reps.one (show Kd.M Kd.string _ _ _ (⟨#[122, 104, 45, 103, 117, 111, 121, 117, 42]⟩ : ByteArray) [.string (⟨#[122, 104, 45, 103, 117, 111, 121, 117, 42]⟩ : ByteArray)] from rfl) (Reps.one (show Kd.M Kd.string _ _ _ (⟨#[122, 104, 45, 104, 97, 107, 107, 97, 42]⟩ : ByteArray) [.string (⟨#[122, 104, 45, 104, 97, 107, 107, 97, 42]⟩ : ByteArray)] from rfl) (Reps.one (show Kd.M Kd.string _ _ _ (⟨#[122, 104, 45, 109, 105, 110, 42]⟩ : ByteArray) [.string (⟨#[122, 104, 45, 109, 105, 110, 42]⟩ : ByteArray)] from rfl) (Reps.one (show Kd.M Kd.string _ _ _ (⟨#[122, 104, 45, 109, 105, 110, 45, 110, 97, 110, 42]⟩ : ByteArray) [.string (⟨#[122, 104, 45, 109, 105, 110, 45, 110, 97, 110, 42]⟩ : ByteArray)] from rfl) (Reps.one (show Kd.M Kd.string _ _ _ (⟨#[122, 104, 45, 120, 105, 97, 110, 103, 42]⟩ : ByteArray) [.string (⟨#[122, 104, 45, 120, 105, 97, 110, 103, 42]⟩ : ByteArray)] from rfl) (Reps.none _ _)))))))))))))))))))))))))))); intro v370 w1 ho2 hb hg_ hnew_; clear hg_ hnew_; (first | rw [← ai.out] at ho2 | (simp only [Int.reduceToNat] at ho2; rw [← ai.out] at ho2)); have af := Aside0.mk (Kd.R_lower ho2 (below_size (Qw HB.out))); have ag := Aside0.mk (wT_ (Qw HB.out) hb); clear HB; have ak := af; have HB := ag; clear af ag; clear hb ho2))
 go_ret
 exact ⟨_, Qe, Qr ak.out, Qw HB.out⟩
def r5_Name.f (a0 : ByteArray) : Option (ByteArray) := if 0 ≤ (wrap64 ((a0.size : Int) - 1)) then (if (wrap64 ((a0.size : Int) - 1)) < (a0.size : Int) then (if (bt a0 (wrap64 ((a0.size : Int) - 1))) = 42 then (if (wrap64 ((a0.size : Int) - 1)) ≤ (a0.size : Int) then (some (a0.extract 0 ((wrap64 ((a0.size : Int) - 1)) : Int).toNat)) else (none)) else (some a0)) else (none)) else (none)
set_option maxHeartbeats 8000000 in
set_option maxRecDepth 100000 in
theorem r5_Name.calls (a0 : ByteArray) (r : ByteArray) (w : World) (h : r5_Name.f a0 = some r) :
  Calls Tryz.prog 28 #[.string a0] w fun e w' => e = .returned (.string r) ∧ Drawn0 w w' := by
 have H := h; unfold r5_Name.f at H
 clear h
 obtain ⟨ji2, hji2⟩ : ∃ j_ : Int, (wrap64 ((a0.size : Int) - 1)) = j_ := ⟨_, rfl⟩
 replace H : (if 0 ≤ (ji2) then (if (ji2) < (a0.size : Int) then (if (bt a0 (ji2)) = 42 then (if (ji2) ≤ (a0.size : Int) then (some (a0.extract 0 ((ji2) : Int).toNat)) else (none)) else (some a0)) else (none)) else (none)) = some r := by first | (rw [hji2] at H; exact H) | (simp only [hji2] at H ⊢; exact H)
 have hji2w : (IntKind.i64.wrap ((a0.size : Int) - 1)) = ji2 := (i64_w _).trans hji2
 by_cases c3 : 0 ≤ (ji2)
 ·rw [if_pos c3] at H
  have al : decide (0 ≤ (ji2)) = true := decide_eq_true c3
  clear c3
  by_cases c4 : (ji2) < (a0.size : Int)
  ·rw [if_pos c4] at H
   have ah : decide ((ji2) < (a0.size : Int)) = true := decide_eq_true c4
   clear c4
   by_cases c6 : (bt a0 (ji2)) = 42
   ·rw [if_pos c6] at H
    have am : ((bt a0 (ji2)) == 42) = true := beq_iff_eq.mpr c6
    have au : ((bt a0 (ji2)) != 42) = false := bne_eq_false_iff_eq.mpr c6
    clear c6
    have az := eq_true (of_decide_eq_true Qa : 0 ≤ (ji2))
    by_cases c8 : (ji2) ≤ (a0.size : Int)
    ·rw [if_pos c8] at H
     have ao := eq_true c8
     have ap : decide ((ji2) ≤ (a0.size : Int)) = true := decide_eq_true c8
     clear c8
     obtain rfl := Option.some.inj H
     have p5 : 0 ≤ ((ji2) : Int) := of_decide_eq_true Qa
     have q5 : (ji2) < (a0.size : Int) := of_decide_eq_true Qa
     have hx5 := bt_at a0 (ji2)
     replace p5 := eq_true p5
     replace q5 := eq_true q5
     go_enter Tryz.func28, Tryz.ntmps28
     go_wp2
     go_ret
     exact ⟨by first | rfl | (simp; done) | (simp only [← hji2] <;> (first | rfl | simp)) | (simp [*]; done), Q0⟩
    ·rw [if_neg c8] at H
     exact absurd H (by simp)
   ·rw [if_neg c6] at H
    have am : ((bt a0 (ji2)) == 42) = false := beq_eq_false_iff_ne.mpr c6
    have au : ((bt a0 (ji2)) != 42) = true := bne_iff_ne.mpr c6
    obtain rfl := Option.some.inj H
    have p5 : 0 ≤ ((ji2) : Int) := of_decide_eq_true Qa
    have q5 : (ji2) < (a0.size : Int) := of_decide_eq_true Qa
    have hx5 := bt_at a0 (ji2)
    replace p5 := eq_true p5
    replace q5 := eq_true q5
    go_enter Tryz.func28, Tryz.ntmps28
    go_wp2
    go_ret
    exact ⟨by first | rfl | (simp; done) | (simp only [← hji2] <;> (first | rfl | simp)) | (simp [*]; done), Q0⟩
  ·rw [if_neg c4] at H
   exact absurd H (by simp)
 ·rw [if_neg c3] at H
  exact absurd H (by simp)
def r5_Find.l0 : Nat → ByteArray → List ByteArray → Int → Option (Int)
 | 0, _, _, _ => none
 | k + 1, x0, x3, x4 => if x4 < (x3.length : Int) then ((r2_Lower.f k x0).bind fun ac => (if 0 ≤ x4 then ((r5_Name.f (rdOf ByteArray.empty x3 x4)).bind fun ad => (if ac.toList = ad.toList then (some x4) else (r5_Find.l0 k x0 x3 (wrap64 (x4 + 1))))) else (none))) else (some (-1))
def r5_Find.f (k : Nat) (a0 : ByteArray) : Option (Int) := (r5_List.f).bind fun ab => (r5_Find.l0 k a0 ab 0)
def r5_Find.T5 : Bool × List (List Nat × List Nat) := (true, [([], []), ([0], [0]), ([], []), ([], []), ([2, 3], [2, 3]), ([4], [4]), ([5, 1], [5]), ([1, 6], [1, 6])])
def r5_Find.B5 : List Nat := [0, 1, 0, 0, 12, 28, 63, 127]
theorem r5_Find.tab5 : rtab .any (opsOf Tryz.f48 5) = r5_Find.T5 := by kernel_rfl
theorem r5_Find.bits5 : waitsOk r5_Find.T5.2 r5_Find.B5 = true := by kernel_rfl
set_option maxHeartbeats 8000000 in
set_option maxRecDepth 100000 in
theorem r5_Find.calls (k : Nat) (a0 : ByteArray) (r : Int) (w : World) (h : r5_Find.f k a0 = some r) :
  Calls Tryz.prog 48 #[.string a0] w fun e w' => e = .returned (.int .i64 r) ∧ Below w.heap.size w w' := by
 have HB := Aside0.mk (Below.refl w.heap.size w)
 have H := h; unfold r5_Find.f at H
 clear h
 replace H := Option.bind_eq_some_iff.mp H
 obtain ⟨ab, aw, H⟩ := H
 replace H : (r5_Find.l0 k a0 ab 0) = some r := H
 have A2 := Aside0.mk aw
 clear aw
 have H' := Aside0.mk H
 clear H
 go_enter Tryz.func48, Tryz.ntmps48
 go_wp2_with (first | ((with_reducible refine gate_callee (f := 27) rfl ?_); refine goesL_ (some 5) rfl rfl Tryz.func27 (by kernel_rfl) rfl #[] rfl Qm ?_; (with_reducible refine (r5_List.calls  ab _ A2.out).mono ?_); rintro e w3 ⟨v373, rfl, ho0, hb⟩; refine ⟨_, rfl, ?_⟩; have af := Aside0.mk (Kd.R_lower ho0 (below_size (Qw HB.out))); have ag := Aside0.mk (wT_ (Qw HB.out) hb); clear HB; have aq := af; have HB := ag; clear af ag; (try clear hb); (try clear ho0)))
 go_loopg [4] k (fun kq v4 w' => ∃ (aa : Int), v4 = .int .i64 aa ∧ Aside0 (r5_Find.l0 kq a0 ab aa = some r) ∧ Aside0 (kq ≤ k) ∧ Aside0 (Kd.R Kd.string 9 w' w.heap.size (fun _ => True) v373 ab) ∧ Aside0 (Below w.heap.size w w'))
 case atStart => exact ⟨(0), Qs, H', ⟨Nat.le_refl _⟩, ⟨Qr aq.out⟩, ⟨Qw HB.out⟩⟩
 case round =>
  clear H'
  obtain ⟨aa, rfl, HA, HK1, HO_3, HB⟩ := hrel
  cases gk with
  | zero => exact absurd HA.out (by simp [r5_Find.l0])
  | succ k1 =>
   have H := HA.out
   clear HA
   simp only [r5_Find.l0] at H
   by_cases c4 : aa < (ab.length : Int)
   ·rw [if_pos c4] at H
    have ah : decide (aa < (ab.length : Int)) = true := decide_eq_true c4
    clear c4
    replace H := Option.bind_eq_some_iff.mp H
    obtain ⟨ac, ax, H⟩ := H
    try dsimp only at H
    have A5 := Aside0.mk ax
    clear ax
    by_cases c6 : 0 ≤ aa
    ·rw [if_pos c6] at H
     have am : decide (0 ≤ aa) = true := decide_eq_true c6
     clear c6
     replace H := Option.bind_eq_some_iff.mp H
     obtain ⟨ad, ay, H⟩ := H
     try dsimp only at H
     have A7 := Aside0.mk ay
     clear ay
     by_cases c8 : ac.toList = ad.toList
     ·rw [if_pos c8] at H
      have ao : (ac.toList == ad.toList) = true := beq_iff_eq.mpr c8
      have ap : (ac.toList != ad.toList) = false := bne_eq_false_iff_eq.mpr c8
      clear c8
      obtain rfl := Option.some.inj H
      obtain ⟨Ao9, co9, eo9⟩ := Kd.R_slice HO_3.out
      subst eo9
      try go_wp2
      have af := Aside0.mk (rD_ HO_3.out)
      have ag := Aside0.mk (wD_ HB.out)
      clear HO_3 HB
      have HO_3 := af; have HB := ag
      clear af ag
      have p376 : 0 ≤ (aa : Int) := of_decide_eq_true Qa
      have q376 : aa < (ab.length : Int) := of_decide_eq_true Qa
      obtain ⟨ad376, e376, hx376_0⟩ := Kd.at_string (Kd.R_reads' HO_3.out).2.2 aa p376 q376
      cases e376
      replace p376 := eq_true p376
      replace q376 := eq_true q376
      refine start_ (n := 8) (S := fun w' => w'.cell? (ad376.add (aa).toNat) = some (.string (rdOf ByteArray.empty ab aa))) (ds := []) #[false, false, false, false, false, false, false, false] (by kernel_rfl) rfl rfl (hx376_0) (fun hHeld => ?_); refine with_tabW r5_Find.tab5 r5_Find.bits5 (fun HT_ HW_ => ?_)
      generalize wr.drew = w10 at HO_3 HB hx376_0 hHeld ⊢
      refine pu_ (i := 0) (N := some 12) HT_ (bl_ 8 1) ?_
      refine pu_ (i := 2) (N := some 14) HT_ (bl_ 8 5) ?_
      refine pu_ (i := 3) (N := some 15) HT_ (bl_ 8 13) ?_
      refine pu_ (i := 4) (N := some 16) HT_ (bl_ 8 29) ?_
      refine take_ (i := 5) (N := some 17) (v := ?_) (a' := ?_) #[true, false, true, true, true, true, false, false] rfl rfl (take_ofW HT_.out HW_.out (by kernel_rfl)) (fun _ _ _ h => h) (Or.inl ⟨by rfl, ?_⟩) hHeld ?_ ?_
      rotate_left
      ·intro w' s0
       go_simp
       with_reducible rfl
      rotate_left
      ·simp only [Act.put, sA_, sB_, sC_, i64_w, i32_w]
       rfl
      refine on_ (i := 1) (N := some 13) HT_ (bl_ 8 63) rfl rfl (fun K hK => ?_)
      refine goes_ Tryz.func24 (by kernel_rfl) rfl #[.string a0] (by rfl) rfl rfl Qm ?_
      with_reducible refine (r2_Lower.calls k1 a0 ac _ A5.out).mono ?_
      rintro e w11 ⟨rfl, hb⟩
      have HS0_ := (hb.cell (World.block_lt_of_cell? _ _ (hHeld))).trans (hHeld)
      refine ⟨_, rfl, ?_⟩
      have af := Aside0.mk (Kd.R_below (Qr HO_3.out) hb)
      have ag := Aside0.mk (wT_ (Qw HB.out) hb)
      clear HO_3 HB
      have HO_3 := af; have HB := ag
      clear af ag
      (try clear hb); (try clear hb2); (try clear hk); (try clear hi)
      refine hK.out _ _ (HS0_) (fun hHeld => ?_)
      clear hK K
      refine nm_ (some 13) ?_
      refine on_ (i := 6) (N := some 18) HT_ (bl_ 8 127) rfl rfl (fun K hK => ?_)
      refine goes_ Tryz.func28 (by kernel_rfl) rfl #[.string (rdOf ByteArray.empty ab aa)] (by rfl) rfl rfl Qm ?_
      with_reducible refine (r5_Name.calls (rdOf ByteArray.empty ab aa) ad _ A7.out).mono ?_
      rintro e w' ⟨rfl, ⟨nd, rfl⟩⟩
      refine ⟨_, rfl, ?_⟩
      refine hK.out _ _ (hHeld) (fun hHeld => ?_)
      clear hK K
      refine nm_ (some 18) ?_
      refine pu_ (i := 7) (N := some 19) HT_ (bl_ 8 255) ?_
      refine done_ (done_of HT_.out (by kernel_rfl)) ?_
      try go_wp2
      go_ret
      exact ⟨Qe, Qw HB.out⟩
     ·rw [if_neg c8] at H
      have ao : (ac.toList == ad.toList) = false := beq_eq_false_iff_ne.mpr c8
      have ap : (ac.toList != ad.toList) = true := bne_iff_ne.mpr c8
      have H' := Aside0.mk H
      clear H
      obtain ⟨Ao12, co12, eo12⟩ := Kd.R_slice HO_3.out
      subst eo12
      try go_wp2
      have af := Aside0.mk (rD_ HO_3.out)
      have ag := Aside0.mk (wD_ HB.out)
      clear HO_3 HB
      have HO_3 := af; have HB := ag
      clear af ag
      have p376 : 0 ≤ (aa : Int) := of_decide_eq_true Qa
      have q376 : aa < (ab.length : Int) := of_decide_eq_true Qa
      obtain ⟨ad376, e376, hx376_0⟩ := Kd.at_string (Kd.R_reads' HO_3.out).2.2 aa p376 q376
      cases e376
      replace p376 := eq_true p376
      replace q376 := eq_true q376
      refine start_ (n := 8) (S := fun w' => w'.cell? (ad376.add (aa).toNat) = some (.string (rdOf ByteArray.empty ab aa))) (ds := []) #[false, false, false, false, false, false, false, false] (by kernel_rfl) rfl rfl (hx376_0) (fun hHeld => ?_); refine with_tabW r5_Find.tab5 r5_Find.bits5 (fun HT_ HW_ => ?_)
      generalize wr.drew = w13 at HO_3 HB hx376_0 hHeld ⊢
      refine pu_ (i := 0) (N := some 12) HT_ (bl_ 8 1) ?_
      refine pu_ (i := 2) (N := some 14) HT_ (bl_ 8 5) ?_
      refine pu_ (i := 3) (N := some 15) HT_ (bl_ 8 13) ?_
      refine pu_ (i := 4) (N := some 16) HT_ (bl_ 8 29) ?_
      refine take_ (i := 5) (N := some 17) (v := ?_) (a' := ?_) #[true, false, true, true, true, true, false, false] rfl rfl (take_ofW HT_.out HW_.out (by kernel_rfl)) (fun _ _ _ h => h) (Or.inl ⟨by rfl, ?_⟩) hHeld ?_ ?_
      rotate_left
      ·intro w' s0
       go_simp
       with_reducible rfl
      rotate_left
      ·simp only [Act.put, sA_, sB_, sC_, i64_w, i32_w]
       rfl
      refine on_ (i := 1) (N := some 13) HT_ (bl_ 8 63) rfl rfl (fun K hK => ?_)
      refine goes_ Tryz.func24 (by kernel_rfl) rfl #[.string a0] (by rfl) rfl rfl Qm ?_
      with_reducible refine (r2_Lower.calls k1 a0 ac _ A5.out).mono ?_
      rintro e w14 ⟨rfl, hb⟩
      have HS0_ := (hb.cell (World.block_lt_of_cell? _ _ (hHeld))).trans (hHeld)
      refine ⟨_, rfl, ?_⟩
      have af := Aside0.mk (Kd.R_below (Qr HO_3.out) hb)
      have ag := Aside0.mk (wT_ (Qw HB.out) hb)
      clear HO_3 HB
      have HO_3 := af; have HB := ag
      clear af ag
      (try clear hb); (try clear hb2); (try clear hk); (try clear hi)
      refine hK.out _ _ (HS0_) (fun hHeld => ?_)
      clear hK K
      refine nm_ (some 13) ?_
      refine on_ (i := 6) (N := some 18) HT_ (bl_ 8 127) rfl rfl (fun K hK => ?_)
      refine goes_ Tryz.func28 (by kernel_rfl) rfl #[.string (rdOf ByteArray.empty ab aa)] (by rfl) rfl rfl Qm ?_
      with_reducible refine (r5_Name.calls (rdOf ByteArray.empty ab aa) ad _ A7.out).mono ?_
      rintro e w' ⟨rfl, ⟨nd, rfl⟩⟩
      refine ⟨_, rfl, ?_⟩
      refine hK.out _ _ (hHeld) (fun hHeld => ?_)
      clear hK K
      refine nm_ (some 18) ?_
      refine pu_ (i := 7) (N := some 19) HT_ (bl_ 8 255) ?_
      refine done_ (done_of HT_.out (by kernel_rfl)) ?_
      try go_wp2
      go_roundg k1
      case measure => have := HK1.out; omega
      case rel => exact ⟨(wrap64 (aa + 1)), Qs, H', ⟨by have := HK1.out; omega⟩, ⟨Qr HO_3.out⟩, ⟨Qw HB.out⟩⟩
    ·rw [if_neg c6] at H
     exact absurd H (by simp)
   ·rw [if_neg c4] at H
    have ah : decide (aa < (ab.length : Int)) = false := decide_eq_false c4
    clear c4
    obtain rfl := Option.some.inj H
    obtain ⟨Ao15, co15, eo15⟩ := Kd.R_slice HO_3.out
    subst eo15
    go_wp2
    go_ret
    exact ⟨Qe, Qw HB.out⟩
def r2_letter.f (a0 : Int) : Option (Bool) := if a0 ≥ 97 then (if a0 ≤ 122 then (some true) else (if a0 ≥ 65 then (some (decide (a0 ≤ 90))) else (some false))) else (if a0 ≥ 65 then (some (decide (a0 ≤ 90))) else (some false))
set_option maxHeartbeats 8000000 in
set_option maxRecDepth 100000 in
theorem r2_letter.calls (a0 : Int) (r : Bool) (w : World) (h : r2_letter.f a0 = some r) :
  Calls Tryz.prog 128 #[.int .u8 a0] w fun e w' => e = .returned (.bool r) ∧ Drawn0 w w' := by
 have H := h; unfold r2_letter.f at H
 clear h
 by_cases c2 : a0 ≥ 97
 ·rw [if_pos c2] at H
  have aj : decide (97 ≤ a0) = true := decide_eq_true c2
  clear c2
  by_cases c3 : a0 ≤ 122
  ·rw [if_pos c3] at H
   have al : decide (a0 ≤ 122) = true := decide_eq_true c3
   clear c3
   obtain rfl := Option.some.inj H
   go_enter Tryz.func128, Tryz.ntmps128
   go_wp2
   go_ret
   exact ⟨Qs, Q0⟩
  ·rw [if_neg c3] at H
   have al : decide (a0 ≤ 122) = false := decide_eq_false c3
   clear c3
   by_cases c4 : a0 ≥ 65
   ·rw [if_pos c4] at H
    have ah : decide (65 ≤ a0) = true := decide_eq_true c4
    clear c4
    obtain rfl := Option.some.inj H
    go_enter Tryz.func128, Tryz.ntmps128
    go_wp2
    go_ret
    exact ⟨Qs, Q0⟩
   ·rw [if_neg c4] at H
    have ah : decide (65 ≤ a0) = false := decide_eq_false c4
    clear c4
    obtain rfl := Option.some.inj H
    go_enter Tryz.func128, Tryz.ntmps128
    go_wp2
    go_ret
    exact ⟨Qs, Q0⟩
 ·rw [if_neg c2] at H
  have aj : decide (97 ≤ a0) = false := decide_eq_false c2
  clear c2
  by_cases c5 : a0 ≥ 65
  ·rw [if_pos c5] at H
   have av : decide (65 ≤ a0) = true := decide_eq_true c5
   clear c5
   obtain rfl := Option.some.inj H
   go_enter Tryz.func128, Tryz.ntmps128
   go_wp2
   go_ret
   exact ⟨Qs, Q0⟩
  ·rw [if_neg c5] at H
   have av : decide (65 ≤ a0) = false := decide_eq_false c5
   clear c5
   obtain rfl := Option.some.inj H
   go_enter Tryz.func128, Tryz.ntmps128
   go_wp2
   go_ret
   exact ⟨Qs, Q0⟩
def r2_digit.f (a0 : Int) : Option (Bool) := if a0 ≥ 48 then (some (decide (a0 ≤ 57))) else (some false)
set_option maxHeartbeats 8000000 in
set_option maxRecDepth 100000 in
theorem r2_digit.calls (a0 : Int) (r : Bool) (w : World) (h : r2_digit.f a0 = some r) :
  Calls Tryz.prog 129 #[.int .u8 a0] w fun e w' => e = .returned (.bool r) ∧ Drawn0 w w' := by
 have H : (if a0 ≥ 48 then (some (decide (a0 ≤ 57))) else (some false)) = some r := h
 clear h
 by_cases c2 : a0 ≥ 48
 ·rw [if_pos c2] at H
  have aj : decide (48 ≤ a0) = true := decide_eq_true c2
  clear c2
  obtain rfl := Option.some.inj H
  go_enter Tryz.func129, Tryz.ntmps129
  go_wp2
  go_ret
  exact ⟨Qs, Q0⟩
 ·rw [if_neg c2] at H
  have aj : decide (48 ≤ a0) = false := decide_eq_false c2
  clear c2
  obtain rfl := Option.some.inj H
  go_enter Tryz.func129, Tryz.ntmps129
  go_wp2
  go_ret
  exact ⟨Qs, Q0⟩
end Go.Proofs.YtejnfbfikadpdaaGreatDoor.P
