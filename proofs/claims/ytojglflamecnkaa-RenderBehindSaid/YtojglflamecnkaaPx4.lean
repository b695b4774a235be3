-- Written for this claim by the session's own run of the print, functions proved by hand put in.
import Derived.Test.YtojglflamecnkaaPx0
import Derived.Test.YtojglflamecnkaaPx1
namespace Go.Proofs.Ytojglflamecnkaa.P
open Go.RowKit Go.Proofs.YtojglflamecnkaaW.PrintWords Go.Proofs.YtojglflamecnkaaW.PrintLast Go.Proofs.YtojglflamecnkaaW.PrintMore
attribute [local go_sem] max2_int min2_int max_two min_two max_three min_three max_four min_four   -- for this text's walks alone
set_option linter.unusedVariables false
set_option linter.unusedSimpArgs false

/-! ### isoglosslaw08_RenderBehind: function 5 -/
def isoglosslaw08_RenderBehind.f (k : Nat) (a0 : ByteArray) (a1 : ByteArray) (a2 : Int) : Option (Bool) := (isoglosslaw08_awake.f).bind fun t160 => ((isoglosslaw08_short.f a0).bind fun t161 => ((isoglosslaw08_short.f a1).bind fun t162 => (if a2 = 45 then (some t160) else ((some (([a2] : List Int) : List Int)).bind fun y163 => (if t160 = true then (if t161.size + 1 ≤ 9223372036854775807 then (if (t161 ++ (⟨#[45]⟩ : ByteArray)).size + (strOfNums y163).size ≤ 9223372036854775807 then (if ((t161 ++ (⟨#[45]⟩ : ByteArray)) ++ (strOfNums y163)).size + 1 ≤ 9223372036854775807 then (if (((t161 ++ (⟨#[45]⟩ : ByteArray)) ++ (strOfNums y163)) ++ (⟨#[45]⟩ : ByteArray)).size + t162.size ≤ 9223372036854775807 then ((render_Case.f ((((t161 ++ (⟨#[45]⟩ : ByteArray)) ++ (strOfNums y163)) ++ (⟨#[45]⟩ : ByteArray)) ++ t162)).bind fun t166 => ((render_Case.f t161).bind fun t167 => (if t167.size + 1 ≤ 9223372036854775807 then (if (strOfNums y163).size + 1 ≤ 9223372036854775807 then (if ((strOfNums y163) ++ (⟨#[45]⟩ : ByteArray)).size + t162.size ≤ 9223372036854775807 then ((isoglossref02_Lower.f k (((strOfNums y163) ++ (⟨#[45]⟩ : ByteArray)) ++ t162)).bind fun t168 => (if (t167 ++ (⟨#[45]⟩ : ByteArray)).size + t168.size ≤ 9223372036854775807 then (if t166.toList = ((t167 ++ (⟨#[45]⟩ : ByteArray)) ++ t168).toList then ((render_Case.f (((strOfNums y163) ++ (⟨#[45]⟩ : ByteArray)) ++ t162)).bind fun t169 => ((isoglossref02_Lower.f k (((strOfNums y163) ++ (⟨#[45]⟩ : ByteArray)) ++ t162)).bind fun t170 => (some (t169.toList == t170.toList)))) else (some false)) else (none))) else (none)) else (none)) else (none)))) else (none)) else (none)) else (none)) else (none)) else (some false))))))
theorem isoglosslaw08_RenderBehind.mono : ∀ a0 a1 a2 k, LeO (isoglosslaw08_RenderBehind.f k a0 a1 a2) (isoglosslaw08_RenderBehind.f (k + 1) a0 a1 a2) := by
 intro a0 a1 a2 k
 unfold isoglosslaw08_RenderBehind.f
 repeat' first
   | (with_reducible exact isoglossref02_Lower.mono _ _)
   | (with_reducible exact LeO.refl _)
   | (with_reducible exact LeO.none _)
   | (with_reducible refine LeO.ite ?_ ?_)
   | (with_reducible refine LeO.bind ?_ (fun _ => ?_))
   | exact isoglossref02_Lower.mono _ _
   | exact LeO.none _
   | refine LeO.ite ?_ ?_
   | refine LeO.bind ?_ (fun _ => ?_)
set_option maxHeartbeats 8000000 in
set_option maxRecDepth 100000 in
theorem isoglosslaw08_RenderBehind.calls (k : Nat) (a0 : ByteArray) (a1 : ByteArray) (a2 : Int) (r : Bool) (w : World) (h : isoglosslaw08_RenderBehind.f k a0 a1 a2 = some r) :
  Calls Try.prog 5 #[.string a0, .string a1, .int .u8 a2] w fun e w' => e = .returned (.bool r) ∧ Below w.heap.size w w' := by
 have HB := Aside0.mk (Below.refl w.heap.size w)
 have H : ((isoglosslaw08_awake.f).bind fun t160 => ((isoglosslaw08_short.f a0).bind fun t161 => ((isoglosslaw08_short.f a1).bind fun t162 => (if a2 = 45 then (some t160) else ((some (([a2] : List Int) : List Int)).bind fun y163 => (if t160 = true then (if t161.size + 1 ≤ 9223372036854775807 then (if (t161 ++ (⟨#[45]⟩ : ByteArray)).size + (strOfNums y163).size ≤ 9223372036854775807 then (if ((t161 ++ (⟨#[45]⟩ : ByteArray)) ++ (strOfNums y163)).size + 1 ≤ 9223372036854775807 then (if (((t161 ++ (⟨#[45]⟩ : ByteArray)) ++ (strOfNums y163)) ++ (⟨#[45]⟩ : ByteArray)).size + t162.size ≤ 9223372036854775807 then ((render_Case.f ((((t161 ++ (⟨#[45]⟩ : ByteArray)) ++ (strOfNums y163)) ++ (⟨#[45]⟩ : ByteArray)) ++ t162)).bind fun t166 => ((render_Case.f t161).bind fun t167 => (if t167.size + 1 ≤ 9223372036854775807 then (if (strOfNums y163).size + 1 ≤ 9223372036854775807 then (if ((strOfNums y163) ++ (⟨#[45]⟩ : ByteArray)).size + t162.size ≤ 9223372036854775807 then ((isoglossref02_Lower.f k (((strOfNums y163) ++ (⟨#[45]⟩ : ByteArray)) ++ t162)).bind fun t168 => (if (t167 ++ (⟨#[45]⟩ : ByteArray)).size + t168.size ≤ 9223372036854775807 then (if t166.toList = ((t167 ++ (⟨#[45]⟩ : ByteArray)) ++ t168).toList then ((render_Case.f (((strOfNums y163) ++ (⟨#[45]⟩ : ByteArray)) ++ t162)).bind fun t169 => ((isoglossref02_Lower.f k (((strOfNums y163) ++ (⟨#[45]⟩ : ByteArray)) ++ t162)).bind fun t170 => (some (t169.toList == t170.toList)))) else (some false)) else (none))) else (none)) else (none)) else (none)))) else (none)) else (none)) else (none)) else (none)) else (some false))))))) = some r := h
 clear h
 replace H := Option.bind_eq_some_iff.mp H
 obtain ⟨t160, A40, H⟩ := H
 replace H : ((isoglosslaw08_short.f a0).bind fun t161 => ((isoglosslaw08_short.f a1).bind fun t162 => (if a2 = 45 then (some t160) else ((some (([a2] : List Int) : List Int)).bind fun y163 => (if t160 = true then (if t161.size + 1 ≤ 9223372036854775807 then (if (t161 ++ (⟨#[45]⟩ : ByteArray)).size + (strOfNums y163).size ≤ 9223372036854775807 then (if ((t161 ++ (⟨#[45]⟩ : ByteArray)) ++ (strOfNums y163)).size + 1 ≤ 9223372036854775807 then (if (((t161 ++ (⟨#[45]⟩ : ByteArray)) ++ (strOfNums y163)) ++ (⟨#[45]⟩ : ByteArray)).size + t162.size ≤ 9223372036854775807 then ((render_Case.f ((((t161 ++ (⟨#[45]⟩ : ByteArray)) ++ (strOfNums y163)) ++ (⟨#[45]⟩ : ByteArray)) ++ t162)).bind fun t166 => ((render_Case.f t161).bind fun t167 => (if t167.size + 1 ≤ 9223372036854775807 then (if (strOfNums y163).size + 1 ≤ 9223372036854775807 then (if ((strOfNums y163) ++ (⟨#[45]⟩ : ByteArray)).size + t162.size ≤ 9223372036854775807 then ((isoglossref02_Lower.f k (((strOfNums y163) ++ (⟨#[45]⟩ : ByteArray)) ++ t162)).bind fun t168 => (if (t167 ++ (⟨#[45]⟩ : ByteArray)).size + t168.size ≤ 9223372036854775807 then (if t166.toList = ((t167 ++ (⟨#[45]⟩ : ByteArray)) ++ t168).toList then ((render_Case.f (((strOfNums y163) ++ (⟨#[45]⟩ : ByteArray)) ++ t162)).bind fun t169 => ((isoglossref02_Lower.f k (((strOfNums y163) ++ (⟨#[45]⟩ : ByteArray)) ++ t162)).bind fun t170 => (some (t169.toList == t170.toList)))) else (some false)) else (none))) else (none)) else (none)) else (none)))) else (none)) else (none)) else (none)) else (none)) else (some false)))))) = some r := H
 have A4 := Aside0.mk A40
 clear A40
 replace H := Option.bind_eq_some_iff.mp H
 obtain ⟨t161, A50, H⟩ := H
 replace H : ((isoglosslaw08_short.f a1).bind fun t162 => (if a2 = 45 then (some t160) else ((some (([a2] : List Int) : List Int)).bind fun y163 => (if t160 = true then (if t161.size + 1 ≤ 9223372036854775807 then (if (t161 ++ (⟨#[45]⟩ : ByteArray)).size + (strOfNums y163).size ≤ 9223372036854775807 then (if ((t161 ++ (⟨#[45]⟩ : ByteArray)) ++ (strOfNums y163)).size + 1 ≤ 9223372036854775807 then (if (((t161 ++ (⟨#[45]⟩ : ByteArray)) ++ (strOfNums y163)) ++ (⟨#[45]⟩ : ByteArray)).size + t162.size ≤ 9223372036854775807 then ((render_Case.f ((((t161 ++ (⟨#[45]⟩ : ByteArray)) ++ (strOfNums y163)) ++ (⟨#[45]⟩ : ByteArray)) ++ t162)).bind fun t166 => ((render_Case.f t161).bind fun t167 => (if t167.size + 1 ≤ 9223372036854775807 then (if (strOfNums y163).size + 1 ≤ 9223372036854775807 then (if ((strOfNums y163) ++ (⟨#[45]⟩ : ByteArray)).size + t162.size ≤ 9223372036854775807 then ((isoglossref02_Lower.f k (((strOfNums y163) ++ (⟨#[45]⟩ : ByteArray)) ++ t162)).bind fun t168 => (if (t167 ++ (⟨#[45]⟩ : ByteArray)).size + t168.size ≤ 9223372036854775807 then (if t166.toList = ((t167 ++ (⟨#[45]⟩ : ByteArray)) ++ t168).toList then ((render_Case.f (((strOfNums y163) ++ (⟨#[45]⟩ : ByteArray)) ++ t162)).bind fun t169 => ((isoglossref02_Lower.f k (((strOfNums y163) ++ (⟨#[45]⟩ : ByteArray)) ++ t162)).bind fun t170 => (some (t169.toList == t170.toList)))) else (some false)) else (none))) else (none)) else (none)) else (none)))) else (none)) else (none)) else (none)) else (none)) else (some false))))) = some r := H
 have A5 := Aside0.mk A50
 clear A50
 replace H := Option.bind_eq_some_iff.mp H
 obtain ⟨t162, A60, H⟩ := H
 replace H : (if a2 = 45 then (some t160) else ((some (([a2] : List Int) : List Int)).bind fun y163 => (if t160 = true then (if t161.size + 1 ≤ 9223372036854775807 then (if (t161 ++ (⟨#[45]⟩ : ByteArray)).size + (strOfNums y163).size ≤ 9223372036854775807 then (if ((t161 ++ (⟨#[45]⟩ : ByteArray)) ++ (strOfNums y163)).size + 1 ≤ 9223372036854775807 then (if (((t161 ++ (⟨#[45]⟩ : ByteArray)) ++ (strOfNums y163)) ++ (⟨#[45]⟩ : ByteArray)).size + t162.size ≤ 9223372036854775807 then ((render_Case.f ((((t161 ++ (⟨#[45]⟩ : ByteArray)) ++ (strOfNums y163)) ++ (⟨#[45]⟩ : ByteArray)) ++ t162)).bind fun t166 => ((render_Case.f t161).bind fun t167 => (if t167.size + 1 ≤ 9223372036854775807 then (if (strOfNums y163).size + 1 ≤ 9223372036854775807 then (if ((strOfNums y163) ++ (⟨#[45]⟩ : ByteArray)).size + t162.size ≤ 9223372036854775807 then ((isoglossref02_Lower.f k (((strOfNums y163) ++ (⟨#[45]⟩ : ByteArray)) ++ t162)).bind fun t168 => (if (t167 ++ (⟨#[45]⟩ : ByteArray)).size + t168.size ≤ 9223372036854775807 then (if t166.toList = ((t167 ++ (⟨#[45]⟩ : ByteArray)) ++ t168).toList then ((render_Case.f (((strOfNums y163) ++ (⟨#[45]⟩ : ByteArray)) ++ t162)).bind fun t169 => ((isoglossref02_Lower.f k (((strOfNums y163) ++ (⟨#[45]⟩ : ByteArray)) ++ t162)).bind fun t170 => (some (t169.toList == t170.toList)))) else (some false)) else (none))) else (none)) else (none)) else (none)))) else (none)) else (none)) else (none)) else (none)) else (some false)))) = some r := H
 have A6 := Aside0.mk A60
 clear A60
 by_cases c7 : a2 = 45
 ·rw [if_pos c7] at H
  have c7b0 : (a2 == 45) = true := beq_iff_eq.mpr c7
  have c7b1 : (a2 != 45) = false := bne_eq_false_iff_eq.mpr c7
  clear c7
  obtain rfl := Option.some.inj H
  go_enter Try.func5, Try.ntmps5
  go_wp2_with (first | ((with_reducible refine gate_callee (f := 9) rfl ?_); refine goesL_ (some 9) rfl rfl Try.func9 (by kernel_rfl) rfl #[] rfl (by (try simp only [List.map_toArray, List.map_cons, List.map_nil]); first | done | rfl | (simp only [List.length_drop, List.length_take]; rfl)) ?_; (with_reducible refine (isoglosslaw08_awake.calls  t160 _ A4.out).mono ?_); rintro e w8 ⟨rfl, hb⟩; refine ⟨_, rfl, ?_⟩; have n0_ := Aside0.mk (below_step (by repeat (first | (with_reducible first | exact HB.out | apply below_alloc | apply pw_below_drewN | apply below_drew1) | exact HB.out)) hb); clear HB; have HB := n0_; clear n0_; (try clear hb); (try clear hb2); (try clear hk); (try clear hi)) | ((with_reducible refine gate_callee (f := 10) rfl ?_); refine goesL_ (some 11) rfl rfl Try.func10 (by kernel_rfl) rfl #[.string a0] rfl (by (try simp only [List.map_toArray, List.map_cons, List.map_nil]); first | done | rfl | (simp only [List.length_drop, List.length_take]; rfl)) ?_; (with_reducible refine (isoglosslaw08_short.calls a0 t161 _ A5.out).mono ?_); rintro e w' ⟨rfl, ⟨nd, rfl⟩⟩; refine ⟨_, rfl, ?_⟩) | ((with_reducible refine gate_callee (f := 10) rfl ?_); refine goesL_ (some 13) rfl rfl Try.func10 (by kernel_rfl) rfl #[.string a1] rfl (by (try simp only [List.map_toArray, List.map_cons, List.map_nil]); first | done | rfl | (simp only [List.length_drop, List.length_take]; rfl)) ?_; (with_reducible refine (isoglosslaw08_short.calls a1 t162 _ A6.out).mono ?_); rintro e w' ⟨rfl, ⟨nd, rfl⟩⟩; refine ⟨_, rfl, ?_⟩))
  go_ret
  exact ⟨by first | rfl | (simp [errW_none, errW_some] <;> rfl) | (simp [*, errW_none, errW_some] <;> rfl), by repeat (first | (with_reducible first | exact HB.out | apply below_alloc | apply pw_below_drewN | apply below_drew1) | exact HB.out)⟩
 ·rw [if_neg c7] at H
  have c7b0 : (a2 == 45) = false := beq_eq_false_iff_ne.mpr c7
  have c7b1 : (a2 != 45) = true := bne_iff_ne.mpr c7
  obtain ⟨y163, hy163⟩ : ∃ y_ : List Int, y_ = (([a2] : List Int)) := ⟨_, rfl⟩
  replace H : (if t160 = true then (if t161.size + 1 ≤ 9223372036854775807 then (if (t161 ++ (⟨#[45]⟩ : ByteArray)).size + (strOfNums y163).size ≤ 9223372036854775807 then (if ((t161 ++ (⟨#[45]⟩ : ByteArray)) ++ (strOfNums y163)).size + 1 ≤ 9223372036854775807 then (if (((t161 ++ (⟨#[45]⟩ : ByteArray)) ++ (strOfNums y163)) ++ (⟨#[45]⟩ : ByteArray)).size + t162.size ≤ 9223372036854775807 then ((render_Case.f ((((t161 ++ (⟨#[45]⟩ : ByteArray)) ++ (strOfNums y163)) ++ (⟨#[45]⟩ : ByteArray)) ++ t162)).bind fun t166 => ((render_Case.f t161).bind fun t167 => (if t167.size + 1 ≤ 9223372036854775807 then (if (strOfNums y163).size + 1 ≤ 9223372036854775807 then (if ((strOfNums y163) ++ (⟨#[45]⟩ : ByteArray)).size + t162.size ≤ 9223372036854775807 then ((isoglossref02_Lower.f k (((strOfNums y163) ++ (⟨#[45]⟩ : ByteArray)) ++ t162)).bind fun t168 => (if (t167 ++ (⟨#[45]⟩ : ByteArray)).size + t168.size ≤ 9223372036854775807 then (if t166.toList = ((t167 ++ (⟨#[45]⟩ : ByteArray)) ++ t168).toList then ((render_Case.f (((strOfNums y163) ++ (⟨#[45]⟩ : ByteArray)) ++ t162)).bind fun t169 => ((isoglossref02_Lower.f k (((strOfNums y163) ++ (⟨#[45]⟩ : ByteArray)) ++ t162)).bind fun t170 => (some (t169.toList == t170.toList)))) else (some false)) else (none))) else (none)) else (none)) else (none)))) else (none)) else (none)) else (none)) else (none)) else (some false)) = some r := by first | (rw [hy163]; with_reducible exact H) | (have H2_ := (Option.bind_some _ _).symm.trans H; rw [hy163]; with_reducible exact H2_) | (have H2_ := (Option.bind_some _ _).symm.trans H; with_reducible exact H2_) | with_reducible exact H | (rw [hy163]; exact H) | exact H
  have Ny163 := Aside0.mk hy163
  clear hy163
  by_cases c9 : t160 = true
  ·subst c9
   have H1 : (if t161.size + 1 ≤ 9223372036854775807 then (if (t161 ++ (⟨#[45]⟩ : ByteArray)).size + (strOfNums y163).size ≤ 9223372036854775807 then (if ((t161 ++ (⟨#[45]⟩ : ByteArray)) ++ (strOfNums y163)).size + 1 ≤ 9223372036854775807 then (if (((t161 ++ (⟨#[45]⟩ : ByteArray)) ++ (strOfNums y163)) ++ (⟨#[45]⟩ : ByteArray)).size + t162.size ≤ 9223372036854775807 then ((render_Case.f ((((t161 ++ (⟨#[45]⟩ : ByteArray)) ++ (strOfNums y163)) ++ (⟨#[45]⟩ : ByteArray)) ++ t162)).bind fun t166 => ((render_Case.f t161).bind fun t167 => (if t167.size + 1 ≤ 9223372036854775807 then (if (strOfNums y163).size + 1 ≤ 9223372036854775807 then (if ((strOfNums y163) ++ (⟨#[45]⟩ : ByteArray)).size + t162.size ≤ 9223372036854775807 then ((isoglossref02_Lower.f k (((strOfNums y163) ++ (⟨#[45]⟩ : ByteArray)) ++ t162)).bind fun t168 => (if (t167 ++ (⟨#[45]⟩ : ByteArray)).size + t168.size ≤ 9223372036854775807 then (if t166.toList = ((t167 ++ (⟨#[45]⟩ : ByteArray)) ++ t168).toList then ((render_Case.f (((strOfNums y163) ++ (⟨#[45]⟩ : ByteArray)) ++ t162)).bind fun t169 => ((isoglossref02_Lower.f k (((strOfNums y163) ++ (⟨#[45]⟩ : ByteArray)) ++ t162)).bind fun t170 => (some (t169.toList == t170.toList)))) else (some false)) else (none))) else (none)) else (none)) else (none)))) else (none)) else (none)) else (none)) else (none)) = some r := by rw [if_pos rfl] at H; exact H
   clear H
   have H := H1
   clear H1
   by_cases c10 : t161.size + 1 ≤ 9223372036854775807
   ·rw [if_pos c10] at H
    have c10b0 := eq_true c10
    have c10b1 : decide (t161.size + 1 ≤ 9223372036854775807) = true := decide_eq_true c10
    try have c10b2 : (9223372036854775807 < t161.size + 1) = False := eq_false (Nat.not_lt.2 c10)
    by_cases c11 : (t161 ++ (⟨#[45]⟩ : ByteArray)).size + (strOfNums y163).size ≤ 9223372036854775807
    ·rw [if_pos c11] at H
     have c11b0 := eq_true c11
     have c11b1 : decide ((t161 ++ (⟨#[45]⟩ : ByteArray)).size + (strOfNums y163).size ≤ 9223372036854775807) = true := decide_eq_true c11
     try have c11b2 : (9223372036854775807 < (t161 ++ (⟨#[45]⟩ : ByteArray)).size + (strOfNums y163).size) = False := eq_false (Nat.not_lt.2 c11)
     (try (have c11b3 := c11b2; simp only [ByteArray.size_append, show (⟨#[45]⟩ : ByteArray).size = 1 from rfl] at c11b3))
     by_cases c12 : ((t161 ++ (⟨#[45]⟩ : ByteArray)) ++ (strOfNums y163)).size + 1 ≤ 9223372036854775807
     ·rw [if_pos c12] at H
      have c12b0 := eq_true c12
      have c12b1 : decide (((t161 ++ (⟨#[45]⟩ : ByteArray)) ++ (strOfNums y163)).size + 1 ≤ 9223372036854775807) = true := decide_eq_true c12
      try have c12b2 : (9223372036854775807 < ((t161 ++ (⟨#[45]⟩ : ByteArray)) ++ (strOfNums y163)).size + 1) = False := eq_false (Nat.not_lt.2 c12)
      (try (have c12b3 := c12b2; simp only [ByteArray.size_append, show (⟨#[45]⟩ : ByteArray).size = 1 from rfl] at c12b3))
      by_cases c13 : (((t161 ++ (⟨#[45]⟩ : ByteArray)) ++ (strOfNums y163)) ++ (⟨#[45]⟩ : ByteArray)).size + t162.size ≤ 9223372036854775807
      ·rw [if_pos c13] at H
       have c13b0 := eq_true c13
       have c13b1 : decide ((((t161 ++ (⟨#[45]⟩ : ByteArray)) ++ (strOfNums y163)) ++ (⟨#[45]⟩ : ByteArray)).size + t162.size ≤ 9223372036854775807) = true := decide_eq_true c13
       try have c13b2 : (9223372036854775807 < (((t161 ++ (⟨#[45]⟩ : ByteArray)) ++ (strOfNums y163)) ++ (⟨#[45]⟩ : ByteArray)).size + t162.size) = False := eq_false (Nat.not_lt.2 c13)
       (try (have c13b3 := c13b2; simp only [ByteArray.size_append, show (⟨#[45]⟩ : ByteArray).size = 1 from rfl] at c13b3))
       replace H := Option.bind_eq_some_iff.mp H
       obtain ⟨t166, A140, H⟩ := H
       replace H : ((render_Case.f t161).bind fun t167 => (if t167.size + 1 ≤ 9223372036854775807 then (if (strOfNums y163).size + 1 ≤ 9223372036854775807 then (if ((strOfNums y163) ++ (⟨#[45]⟩ : ByteArray)).size + t162.size ≤ 9223372036854775807 then ((isoglossref02_Lower.f k (((strOfNums y163) ++ (⟨#[45]⟩ : ByteArray)) ++ t162)).bind fun t168 => (if (t167 ++ (⟨#[45]⟩ : ByteArray)).size + t168.size ≤ 9223372036854775807 then (if t166.toList = ((t167 ++ (⟨#[45]⟩ : ByteArray)) ++ t168).toList then ((render_Case.f (((strOfNums y163) ++ (⟨#[45]⟩ : ByteArray)) ++ t162)).bind fun t169 => ((isoglossref02_Lower.f k (((strOfNums y163) ++ (⟨#[45]⟩ : ByteArray)) ++ t162)).bind fun t170 => (some (t169.toList == t170.toList)))) else (some false)) else (none))) else (none)) else (none)) else (none))) = some r := H
       have A14 := Aside0.mk A140
       clear A140
       replace H := Option.bind_eq_some_iff.mp H
       obtain ⟨t167, A150, H⟩ := H
       replace H : (if t167.size + 1 ≤ 9223372036854775807 then (if (strOfNums y163).size + 1 ≤ 9223372036854775807 then (if ((strOfNums y163) ++ (⟨#[45]⟩ : ByteArray)).size + t162.size ≤ 9223372036854775807 then ((isoglossref02_Lower.f k (((strOfNums y163) ++ (⟨#[45]⟩ : ByteArray)) ++ t162)).bind fun t168 => (if (t167 ++ (⟨#[45]⟩ : ByteArray)).size + t168.size ≤ 9223372036854775807 then (if t166.toList = ((t167 ++ (⟨#[45]⟩ : ByteArray)) ++ t168).toList then ((render_Case.f (((strOfNums y163) ++ (⟨#[45]⟩ : ByteArray)) ++ t162)).bind fun t169 => ((isoglossref02_Lower.f k (((strOfNums y163) ++ (⟨#[45]⟩ : ByteArray)) ++ t162)).bind fun t170 => (some (t169.toList == t170.toList)))) else (some false)) else (none))) else (none)) else (none)) else (none)) = some r := H
       have A15 := Aside0.mk A150
       clear A150
       by_cases c16 : t167.size + 1 ≤ 9223372036854775807
       ·rw [if_pos c16] at H
        have c16b0 := eq_true c16
        have c16b1 : decide (t167.size + 1 ≤ 9223372036854775807) = true := decide_eq_true c16
        try have c16b2 : (9223372036854775807 < t167.size + 1) = False := eq_false (Nat.not_lt.2 c16)
        by_cases c17 : (strOfNums y163).size + 1 ≤ 9223372036854775807
        ·rw [if_pos c17] at H
         have c17b0 := eq_true c17
         have c17b1 : decide ((strOfNums y163).size + 1 ≤ 9223372036854775807) = true := decide_eq_true c17
         try have c17b2 : (9223372036854775807 < (strOfNums y163).size + 1) = False := eq_false (Nat.not_lt.2 c17)
         by_cases c18 : ((strOfNums y163) ++ (⟨#[45]⟩ : ByteArray)).size + t162.size ≤ 9223372036854775807
         ·rw [if_pos c18] at H
          have c18b0 := eq_true c18
          have c18b1 : decide (((strOfNums y163) ++ (⟨#[45]⟩ : ByteArray)).size + t162.size ≤ 9223372036854775807) = true := decide_eq_true c18
          try have c18b2 : (9223372036854775807 < ((strOfNums y163) ++ (⟨#[45]⟩ : ByteArray)).size + t162.size) = False := eq_false (Nat.not_lt.2 c18)
          (try (have c18b3 := c18b2; simp only [ByteArray.size_append, show (⟨#[45]⟩ : ByteArray).size = 1 from rfl] at c18b3))
          replace H := Option.bind_eq_some_iff.mp H
          obtain ⟨t168, A190, H⟩ := H
          replace H : (if (t167 ++ (⟨#[45]⟩ : ByteArray)).size + t168.size ≤ 9223372036854775807 then (if t166.toList = ((t167 ++ (⟨#[45]⟩ : ByteArray)) ++ t168).toList then ((render_Case.f (((strOfNums y163) ++ (⟨#[45]⟩ : ByteArray)) ++ t162)).bind fun t169 => ((isoglossref02_Lower.f k (((strOfNums y163) ++ (⟨#[45]⟩ : ByteArray)) ++ t162)).bind fun t170 => (some (t169.toList == t170.toList)))) else (some false)) else (none)) = some r := H
          have A19 := Aside0.mk A190
          clear A190
          by_cases c20 : (t167 ++ (⟨#[45]⟩ : ByteArray)).size + t168.size ≤ 9223372036854775807
          ·rw [if_pos c20] at H
           have c20b0 := eq_true c20
           have c20b1 : decide ((t167 ++ (⟨#[45]⟩ : ByteArray)).size + t168.size ≤ 9223372036854775807) = true := decide_eq_true c20
           try have c20b2 : (9223372036854775807 < (t167 ++ (⟨#[45]⟩ : ByteArray)).size + t168.size) = False := eq_false (Nat.not_lt.2 c20)
           (try (have c20b3 := c20b2; simp only [ByteArray.size_append, show (⟨#[45]⟩ : ByteArray).size = 1 from rfl] at c20b3))
           by_cases c21 : t166.toList = ((t167 ++ (⟨#[45]⟩ : ByteArray)) ++ t168).toList
           ·rw [if_pos c21] at H
            have c21b0 : (t166.toList == ((t167 ++ (⟨#[45]⟩ : ByteArray)) ++ t168).toList) = true := beq_iff_eq.mpr c21
            have c21b1 : (t166.toList != ((t167 ++ (⟨#[45]⟩ : ByteArray)) ++ t168).toList) = false := bne_eq_false_iff_eq.mpr c21
            clear c21
            replace H := Option.bind_eq_some_iff.mp H
            obtain ⟨t169, A220, H⟩ := H
            replace H : ((isoglossref02_Lower.f k (((strOfNums y163) ++ (⟨#[45]⟩ : ByteArray)) ++ t162)).bind fun t170 => (some (t169.toList == t170.toList))) = some r := H
            have A22 := Aside0.mk A220
            clear A220
            replace H := Option.bind_eq_some_iff.mp H
            obtain ⟨t170, A230, H⟩ := H
            replace H : (some (t169.toList == t170.toList)) = some r := H
            have A23 := Aside0.mk A230
            clear A230
            obtain rfl : t168 = t170 := Option.some.inj (A19.out.symm.trans A23.out)
            obtain rfl := Option.some.inj H
            go_enter Try.func5, Try.ntmps5
            go_wp2_with (first | ((with_reducible refine gate_callee (f := 9) rfl ?_); refine goesL_ (some 9) rfl rfl Try.func9 (by kernel_rfl) rfl #[] rfl (by (try simp only [List.map_toArray, List.map_cons, List.map_nil]); first | done | rfl | (simp only [List.length_drop, List.length_take]; rfl)) ?_; (with_reducible refine (isoglosslaw08_awake.calls  true _ A4.out).mono ?_); rintro e w24 ⟨rfl, hb⟩; refine ⟨_, rfl, ?_⟩; have n0_ := Aside0.mk (below_step (by repeat (first | (with_reducible first | exact HB.out | apply below_alloc | apply pw_below_drewN | apply below_drew1) | exact HB.out)) hb); clear HB; have HB := n0_; clear n0_; (try clear hb); (try clear hb2); (try clear hk); (try clear hi)) | ((with_reducible refine gate_callee (f := 10) rfl ?_); refine goesL_ (some 11) rfl rfl Try.func10 (by kernel_rfl) rfl #[.string a0] rfl (by (try simp only [List.map_toArray, List.map_cons, List.map_nil]); first | done | rfl | (simp only [List.length_drop, List.length_take]; rfl)) ?_; (with_reducible refine (isoglosslaw08_short.calls a0 t161 _ A5.out).mono ?_); rintro e w' ⟨rfl, ⟨nd, rfl⟩⟩; refine ⟨_, rfl, ?_⟩) | ((with_reducible refine gate_callee (f := 10) rfl ?_); refine goesL_ (some 13) rfl rfl Try.func10 (by kernel_rfl) rfl #[.string a1] rfl (by (try simp only [List.map_toArray, List.map_cons, List.map_nil]); first | done | rfl | (simp only [List.length_drop, List.length_take]; rfl)) ?_; (with_reducible refine (isoglosslaw08_short.calls a1 t162 _ A6.out).mono ?_); rintro e w' ⟨rfl, ⟨nd, rfl⟩⟩; refine ⟨_, rfl, ?_⟩) | ((with_reducible refine gate_dst (N := 18) rfl ?_); refine Kd.R_lit (Kd.int .u8) _ 5 ?hg (N := 18) ?hd (xs := ([a2] : List Int)) (inner := [.int .u8 a2]) (ok := fun _ => True) (okp := fun _ => True) ?hr ?hp (fun _ hk => hk) trivial (Below.refl _ _) (Nat.le_refl _) (by simp) ?_; (case hd => rfl); (case hg => rfl); (case hr => first | (go_simp; done) | (go_simp; rfl)); (case hp => exact (Reps.one (show Kd.M (Kd.int .u8) _ _ _ a2 [.int .u8 a2] from rfl) (Reps.none _ _))); intro v164 w25 ho26 hb hg_ hnew_; clear hg_ hnew_; (first | rw [← Ny163.out] at ho26 | (simp only [Int.reduceToNat] at ho26; rw [← Ny163.out] at ho26)); have n0_ := Aside0.mk (Kd.R_lower ho26 (below_size (by repeat (first | (with_reducible first | exact HB.out | apply below_alloc | apply pw_below_drewN | apply below_drew1) | exact HB.out)))); have n1_ := Aside0.mk (below_step (by repeat (first | (with_reducible first | exact HB.out | apply below_alloc | apply pw_below_drewN | apply below_drew1) | exact HB.out)) hb); clear HB; have HO165 := n0_; have HB := n1_; clear n0_ n1_; clear hb ho26; have hcv27 := own_string (P := Try.prog) Try.underlying27 Try.underlying5 Try.underlying9 (Kd.own_of_R HO165.out)) | (go_at_call 11; (with_reducible refine (render_Case.calls ((((t161 ++ (⟨#[45]⟩ : ByteArray)) ++ (strOfNums y163)) ++ (⟨#[45]⟩ : ByteArray)) ++ t162) t166 _ A14.out).mono ?_); rintro e w28 ⟨rfl, hb⟩; have n0_ := Aside0.mk (Kd.R_below (by (with_reducible repeat (first | apply Kd.R_alloc | apply Kd.R_drewN | apply Kd.R_drew)); exact HO165.out) hb); have n1_ := Aside0.mk (below_step (by repeat (first | (with_reducible first | exact HB.out | apply below_alloc | apply pw_below_drewN | apply below_drew1) | exact HB.out)) hb); clear HO165; clear HB; have HO165 := n0_; have HB := n1_; clear n0_ n1_; (try clear hb); (try clear hb2); (try clear hk); (try clear hi)) | (go_at_call 11; (with_reducible refine (render_Case.calls t161 t167 _ A15.out).mono ?_); rintro e w29 ⟨rfl, hb⟩; have n0_ := Aside0.mk (Kd.R_below (by (with_reducible repeat (first | apply Kd.R_alloc | apply Kd.R_drewN | apply Kd.R_drew)); exact HO165.out) hb); have n1_ := Aside0.mk (below_step (by repeat (first | (with_reducible first | exact HB.out | apply below_alloc | apply pw_below_drewN | apply below_drew1) | exact HB.out)) hb); clear HO165; clear HB; have HO165 := n0_; have HB := n1_; clear n0_ n1_; (try clear hb); (try clear hb2); (try clear hk); (try clear hi)) | (go_at_call 12; (with_reducible refine (isoglossref02_Lower.calls k (((strOfNums y163) ++ (⟨#[45]⟩ : ByteArray)) ++ t162) t168 _ A19.out).mono ?_); rintro e w30 ⟨rfl, hb⟩; have n0_ := Aside0.mk (Kd.R_below (by (with_reducible repeat (first | apply Kd.R_alloc | apply Kd.R_drewN | apply Kd.R_drew)); exact HO165.out) hb); have n1_ := Aside0.mk (below_step (by repeat (first | (with_reducible first | exact HB.out | apply below_alloc | apply pw_below_drewN | apply below_drew1) | exact HB.out)) hb); clear HO165; clear HB; have HO165 := n0_; have HB := n1_; clear n0_ n1_; (try clear hb); (try clear hb2); (try clear hk); (try clear hi)) | (go_at_call 11; (with_reducible refine (render_Case.calls (((strOfNums y163) ++ (⟨#[45]⟩ : ByteArray)) ++ t162) t169 _ A22.out).mono ?_); rintro e w31 ⟨rfl, hb⟩; have n0_ := Aside0.mk (Kd.R_below (by (with_reducible repeat (first | apply Kd.R_alloc | apply Kd.R_drewN | apply Kd.R_drew)); exact HO165.out) hb); have n1_ := Aside0.mk (below_step (by repeat (first | (with_reducible first | exact HB.out | apply below_alloc | apply pw_below_drewN | apply below_drew1) | exact HB.out)) hb); clear HO165; clear HB; have HO165 := n0_; have HB := n1_; clear n0_ n1_; (try clear hb); (try clear hb2); (try clear hk); (try clear hi)) | (go_at_call 12; (with_reducible refine (isoglossref02_Lower.calls k (((strOfNums y163) ++ (⟨#[45]⟩ : ByteArray)) ++ t162) t168 _ A23.out).mono ?_); rintro e w32 ⟨rfl, hb⟩; have n0_ := Aside0.mk (Kd.R_below (by (with_reducible repeat (first | apply Kd.R_alloc | apply Kd.R_drewN | apply Kd.R_drew)); exact HO165.out) hb); have n1_ := Aside0.mk (below_step (by repeat (first | (with_reducible first | exact HB.out | apply below_alloc | apply pw_below_drewN | apply below_drew1) | exact HB.out)) hb); clear HO165; clear HB; have HO165 := n0_; have HB := n1_; clear n0_ n1_; (try clear hb); (try clear hb2); (try clear hk); (try clear hi)))
            go_ret
            exact ⟨by first | rfl | (simp [errW_none, errW_some] <;> rfl) | (simp [*, errW_none, errW_some] <;> rfl), by repeat (first | (with_reducible first | exact HB.out | apply below_alloc | apply pw_below_drewN | apply below_drew1) | exact HB.out)⟩
           ·rw [if_neg c21] at H
            have c21b0 : (t166.toList == ((t167 ++ (⟨#[45]⟩ : ByteArray)) ++ t168).toList) = false := beq_eq_false_iff_ne.mpr c21
            have c21b1 : (t166.toList != ((t167 ++ (⟨#[45]⟩ : ByteArray)) ++ t168).toList) = true := bne_iff_ne.mpr c21
            obtain rfl := Option.some.inj H
            go_enter Try.func5, Try.ntmps5
            go_wp2_with (first | ((with_reducible refine gate_callee (f := 9) rfl ?_); refine goesL_ (some 9) rfl rfl Try.func9 (by kernel_rfl) rfl #[] rfl (by (try simp only [List.map_toArray, List.map_cons, List.map_nil]); first | done | rfl | (simp only [List.length_drop, List.length_take]; rfl)) ?_; (with_reducible refine (isoglosslaw08_awake.calls  true _ A4.out).mono ?_); rintro e w33 ⟨rfl, hb⟩; refine ⟨_, rfl, ?_⟩; have n0_ := Aside0.mk (below_step (by repeat (first | (with_reducible first | exact HB.out | apply below_alloc | apply pw_below_drewN | apply below_drew1) | exact HB.out)) hb); clear HB; have HB := n0_; clear n0_; (try clear hb); (try clear hb2); (try clear hk); (try clear hi)) | ((with_reducible refine gate_callee (f := 10) rfl ?_); refine goesL_ (some 11) rfl rfl Try.func10 (by kernel_rfl) rfl #[.string a0] rfl (by (try simp only [List.map_toArray, List.map_cons, List.map_nil]); first | done | rfl | (simp only [List.length_drop, List.length_take]; rfl)) ?_; (with_reducible refine (isoglosslaw08_short.calls a0 t161 _ A5.out).mono ?_); rintro e w' ⟨rfl, ⟨nd, rfl⟩⟩; refine ⟨_, rfl, ?_⟩) | ((with_reducible refine gate_callee (f := 10) rfl ?_); refine goesL_ (some 13) rfl rfl Try.func10 (by kernel_rfl) rfl #[.string a1] rfl (by (try simp only [List.map_toArray, List.map_cons, List.map_nil]); first | done | rfl | (simp only [List.length_drop, List.length_take]; rfl)) ?_; (with_reducible refine (isoglosslaw08_short.calls a1 t162 _ A6.out).mono ?_); rintro e w' ⟨rfl, ⟨nd, rfl⟩⟩; refine ⟨_, rfl, ?_⟩) | ((with_reducible refine gate_dst (N := 18) rfl ?_); refine Kd.R_lit (Kd.int .u8) _ 5 ?hg (N := 18) ?hd (xs := ([a2] : List Int)) (inner := [.int .u8 a2]) (ok := fun _ => True) (okp := fun _ => True) ?hr ?hp (fun _ hk => hk) trivial (Below.refl _ _) (Nat.le_refl _) (by simp) ?_; (case hd => rfl); (case hg => rfl); (case hr => first | (go_simp; done) | (go_simp; rfl)); (case hp => exact (Reps.one (show Kd.M (Kd.int .u8) _ _ _ a2 [.int .u8 a2] from rfl) (Reps.none _ _))); intro v164 w34 ho35 hb hg_ hnew_; clear hg_ hnew_; (first | rw [← Ny163.out] at ho35 | (simp only [Int.reduceToNat] at ho35; rw [← Ny163.out] at ho35)); have n0_ := Aside0.mk (Kd.R_lower ho35 (below_size (by repeat (first | (with_reducible first | exact HB.out | apply below_alloc | apply pw_below_drewN | apply below_drew1) | exact HB.out)))); have n1_ := Aside0.mk (below_step (by repeat (first | (with_reducible first | exact HB.out | apply below_alloc | apply pw_below_drewN | apply below_drew1) | exact HB.out)) hb); clear HB; have HO165 := n0_; have HB := n1_; clear n0_ n1_; clear hb ho35; have hcv36 := own_string (P := Try.prog) Try.underlying27 Try.underlying5 Try.underlying9 (Kd.own_of_R HO165.out)) | (go_at_call 11; (with_reducible refine (render_Case.calls ((((t161 ++ (⟨#[45]⟩ : ByteArray)) ++ (strOfNums y163)) ++ (⟨#[45]⟩ : ByteArray)) ++ t162) t166 _ A14.out).mono ?_); rintro e w37 ⟨rfl, hb⟩; have n0_ := Aside0.mk (Kd.R_below (by (with_reducible repeat (first | apply Kd.R_alloc | apply Kd.R_drewN | apply Kd.R_drew)); exact HO165.out) hb); have n1_ := Aside0.mk (below_step (by repeat (first | (with_reducible first | exact HB.out | apply below_alloc | apply pw_below_drewN | apply below_drew1) | exact HB.out)) hb); clear HO165; clear HB; have HO165 := n0_; have HB := n1_; clear n0_ n1_; (try clear hb); (try clear hb2); (try clear hk); (try clear hi)) | (go_at_call 11; (with_reducible refine (render_Case.calls t161 t167 _ A15.out).mono ?_); rintro e w38 ⟨rfl, hb⟩; have n0_ := Aside0.mk (Kd.R_below (by (with_reducible repeat (first | apply Kd.R_alloc | apply Kd.R_drewN | apply Kd.R_drew)); exact HO165.out) hb); have n1_ := Aside0.mk (below_step (by repeat (first | (with_reducible first | exact HB.out | apply below_alloc | apply pw_below_drewN | apply below_drew1) | exact HB.out)) hb); clear HO165; clear HB; have HO165 := n0_; have HB := n1_; clear n0_ n1_; (try clear hb); (try clear hb2); (try clear hk); (try clear hi)) | (go_at_call 12; (with_reducible refine (isoglossref02_Lower.calls k (((strOfNums y163) ++ (⟨#[45]⟩ : ByteArray)) ++ t162) t168 _ A19.out).mono ?_); rintro e w39 ⟨rfl, hb⟩; have n0_ := Aside0.mk (Kd.R_below (by (with_reducible repeat (first | apply Kd.R_alloc | apply Kd.R_drewN | apply Kd.R_drew)); exact HO165.out) hb); have n1_ := Aside0.mk (below_step (by repeat (first | (with_reducible first | exact HB.out | apply below_alloc | apply pw_below_drewN | apply below_drew1) | exact HB.out)) hb); clear HO165; clear HB; have HO165 := n0_; have HB := n1_; clear n0_ n1_; (try clear hb); (try clear hb2); (try clear hk); (try clear hi)))
            go_ret
            exact ⟨by first | rfl | (simp [errW_none, errW_some] <;> rfl) | (simp [*, errW_none, errW_some] <;> rfl), by repeat (first | (with_reducible first | exact HB.out | apply below_alloc | apply pw_below_drewN | apply below_drew1) | exact HB.out)⟩
          ·rw [if_neg c20] at H
           exact absurd H (by simp)
         ·rw [if_neg c18] at H
          exact absurd H (by simp)
        ·rw [if_neg c17] at H
         exact absurd H (by simp)
       ·rw [if_neg c16] at H
        exact absurd H (by simp)
      ·rw [if_neg c13] at H
       exact absurd H (by simp)
     ·rw [if_neg c12] at H
      exact absurd H (by simp)
    ·rw [if_neg c11] at H
     exact absurd H (by simp)
   ·rw [if_neg c10] at H
    exact absurd H (by simp)
  ·replace c9 := Bool.eq_false_iff.mpr c9
   subst c9
   have H1 : (some false) = some r := by rw [if_neg (show ¬ (false = true) by decide)] at H; exact H
   clear H
   have H := H1
   clear H1
   obtain rfl := Option.some.inj H
   go_enter Try.func5, Try.ntmps5
   go_wp2_with (first | ((with_reducible refine gate_callee (f := 9) rfl ?_); refine goesL_ (some 9) rfl rfl Try.func9 (by kernel_rfl) rfl #[] rfl (by (try simp only [List.map_toArray, List.map_cons, List.map_nil]); first | done | rfl | (simp only [List.length_drop, List.length_take]; rfl)) ?_; (with_reducible refine (isoglosslaw08_awake.calls  false _ A4.out).mono ?_); rintro e w40 ⟨rfl, hb⟩; refine ⟨_, rfl, ?_⟩; have n0_ := Aside0.mk (below_step (by repeat (first | (with_reducible first | exact HB.out | apply below_alloc | apply pw_below_drewN | apply below_drew1) | exact HB.out)) hb); clear HB; have HB := n0_; clear n0_; (try clear hb); (try clear hb2); (try clear hk); (try clear hi)) | ((with_reducible refine gate_callee (f := 10) rfl ?_); refine goesL_ (some 11) rfl rfl Try.func10 (by kernel_rfl) rfl #[.string a0] rfl (by (try simp only [List.map_toArray, List.map_cons, List.map_nil]); first | done | rfl | (simp only [List.length_drop, List.length_take]; rfl)) ?_; (with_reducible refine (isoglosslaw08_short.calls a0 t161 _ A5.out).mono ?_); rintro e w' ⟨rfl, ⟨nd, rfl⟩⟩; refine ⟨_, rfl, ?_⟩) | ((with_reducible refine gate_callee (f := 10) rfl ?_); refine goesL_ (some 13) rfl rfl Try.func10 (by kernel_rfl) rfl #[.string a1] rfl (by (try simp only [List.map_toArray, List.map_cons, List.map_nil]); first | done | rfl | (simp only [List.length_drop, List.length_take]; rfl)) ?_; (with_reducible refine (isoglosslaw08_short.calls a1 t162 _ A6.out).mono ?_); rintro e w' ⟨rfl, ⟨nd, rfl⟩⟩; refine ⟨_, rfl, ?_⟩) | ((with_reducible refine gate_dst (N := 18) rfl ?_); refine Kd.R_lit (Kd.int .u8) _ 5 ?hg (N := 18) ?hd (xs := ([a2] : List Int)) (inner := [.int .u8 a2]) (ok := fun _ => True) (okp := fun _ => True) ?hr ?hp (fun _ hk => hk) trivial (Below.refl _ _) (Nat.le_refl _) (by simp) ?_; (case hd => rfl); (case hg => rfl); (case hr => first | (go_simp; done) | (go_simp; rfl)); (case hp => exact (Reps.one (show Kd.M (Kd.int .u8) _ _ _ a2 [.int .u8 a2] from rfl) (Reps.none _ _))); intro v164 w41 ho42 hb hg_ hnew_; clear hg_ hnew_; (first | rw [← Ny163.out] at ho42 | (simp only [Int.reduceToNat] at ho42; rw [← Ny163.out] at ho42)); have n0_ := Aside0.mk (Kd.R_lower ho42 (below_size (by repeat (first | (with_reducible first | exact HB.out | apply below_alloc | apply pw_below_drewN | apply below_drew1) | exact HB.out)))); have n1_ := Aside0.mk (below_step (by repeat (first | (with_reducible first | exact HB.out | apply below_alloc | apply pw_below_drewN | apply below_drew1) | exact HB.out)) hb); clear HB; have HO165 := n0_; have HB := n1_; clear n0_ n1_; clear hb ho42; have hcv43 := own_string (P := Try.prog) Try.underlying27 Try.underlying5 Try.underlying9 (Kd.own_of_R HO165.out)))
   go_ret
   exact ⟨by first | rfl | (simp [errW_none, errW_some] <;> rfl) | (simp [*, errW_none, errW_some] <;> rfl), by repeat (first | (with_reducible first | exact HB.out | apply below_alloc | apply pw_below_drewN | apply below_drew1) | exact HB.out)⟩

/-- THE ONE PURE STATEMENT of isoglosslaw08_RenderBehind: yours. -/
def isoglosslaw08_RenderBehind.Pure : Prop := ∀ (a0 : ByteArray) (a1 : ByteArray) (a2 : Int), a0.size ≤ 140737488351232 → a1.size ≤ 140737488351232 → (Lit.int .u8 a2).wf = true → ∃ k, isoglosslaw08_RenderBehind.f k a0 a1 a2 = some true
theorem isoglosslaw08_RenderBehind.walk (P : isoglosslaw08_RenderBehind.Pure) (a0 : ByteArray) (a1 : ByteArray) (a2 : Int) (w : World) (w0 : a0.size ≤ 140737488351232) (w1 : a1.size ≤ 140737488351232) (w2 : (Lit.int .u8 a2).wf = true) :
  Calls Try.prog 5 #[.string a0, .string a1, .int .u8 a2] w fun e w' => e = .returned (.bool true) ∧ Below w.heap.size w w' := by
 obtain ⟨k, h⟩ := P a0 a1 a2 w0 w1 w2
 refine (isoglosslaw08_RenderBehind.calls k a0 a1 a2 true w h).mono ?_
 rintro e w' ⟨rfl, hd⟩
 exact ⟨rfl, hd⟩

end Go.Proofs.Ytojglflamecnkaa.P
