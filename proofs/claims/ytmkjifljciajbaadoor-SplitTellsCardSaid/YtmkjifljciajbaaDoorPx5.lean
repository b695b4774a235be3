-- Written for this claim by the session's own run of the print, functions proved by hand put in.
import Derived.Test.YtmkjifljciajbaaDoorPx0
namespace Go.Proofs.YtmkjifljciajbaaDoor.P
open Go.RowKit Go.Proofs.YtmkjifljciajbaaDoorW.PrintWords Go.Proofs.YtmkjifljciajbaaDoorW.PrintLast Go.Proofs.YtmkjifljciajbaaDoorW.PrintMore
attribute [local go_sem] max2_int min2_int max_two min_two max_three min_three max_four min_four   -- for this text's walks alone
set_option linter.unusedVariables false
set_option linter.unusedSimpArgs false

-- NOT PRINTED: function 63 (abi_NoEscape)

-- NOT PRINTED: function 59 (strings_Builder_copyCheck)

-- NOT PRINTED: function 64 (bytealg_MakeNoZero)

-- NOT PRINTED: function 60 (strings_Builder_grow)

-- NOT PRINTED: function 45 (strings_Builder_Grow)

-- NOT PRINTED: function 46 (strings_Builder_WriteString)

-- NOT PRINTED: function 47 (strings_Builder_String)

/-! ### strings_Join: function 34 (by hand) -/
def strings_Join.f (l0 : List ByteArray) (a1 : ByteArray) : Option ByteArray := if l0.length ≤ 140737488355328 ∧ (Lib.join (l0.map (·.data.toList)) a1.data.toList).length ≤ 140737488355328 then some ⟨(Lib.join (l0.map (·.data.toList)) a1.data.toList).toArray⟩ else none
theorem strings_Join.calls (A0 : Option Addr) (c0 : Nat) (l0 : List ByteArray) (a1 : ByteArray) (r : ByteArray) (w : World) (hr0 : Kd.C Kd.string w A0 l0.length l0) (hc0 : l0.length ≤ c0) (h : strings_Join.f l0 a1 = some r) :
    Calls Tryd.prog 34 #[.slice A0 l0.length c0, .string a1] w fun e w' => e = .returned (.string r) ∧ Below w.heap.size w w' := by
  unfold strings_Join.f at h
  by_cases c : l0.length ≤ 140737488355328 ∧ (Lib.join (l0.map (·.data.toList)) a1.data.toList).length ≤ 140737488355328
  · rw [if_pos c] at h
    obtain rfl := Option.some.inj h
    cases l0 with
    | nil =>
      refine (Tryd.strings_Join_none A0 c0 a1 w).mono ?_
      rintro e w' ⟨rfl, rfl⟩
      exact ⟨rfl, Below.refl _ _⟩
    | cons x xs =>
      have hr := Kd.reads_of_C (enc := Value.string) (d := ByteArray.empty) (h1 := fun _ => rfl) hr0
      obtain ⟨ad, rfl, hcell⟩ := hr.2.2 (by simp)
      have h0 := hcell 0 (by simp)
      have hs : ad.spot = none := by
        cases hs : ad.spot with
        | none => rfl
        | some q =>
          have e0 : ad.add 0 = ad := by simp [Addr.add]
          rw [e0] at h0
          unfold World.cell? at h0
          split at h0
          · simp [hs] at h0
          · simp at h0
      obtain ⟨bk, o, sp⟩ := ad
      obtain rfl : sp = none := hs
      have hlt : bk < w.heap.size := World.block_lt_of_cell? w _ h0
      refine (Tryd.strings_Join bk o c0 (x :: xs) a1 w (fun j y hj => ?_) hlt c.1 hc0 c.2).mono ?_
      · have hl := (List.getElem?_eq_some_iff.1 hj).1
        have := hcell j hl
        rw [List.getD_eq_getElem?_getD, hj] at this
        have e1 : (⟨bk, o, none⟩ : Addr).add j = ⟨bk, o + j, none⟩ := by unfold Addr.add; split <;> simp_all
        rw [e1] at this
        exact this
      · rintro e w' ⟨rfl, hb⟩
        exact ⟨rfl, hb⟩
  · rw [if_neg c] at h; cases h

/-! ### split_Join: function 24 -/
def split_Join.f (l0 : List ByteArray) : Option (ByteArray) := (strings_Join.f l0 (⟨#[45]⟩ : ByteArray)).bind fun t144 => (some t144)
set_option maxHeartbeats 8000000 in
set_option maxRecDepth 100000 in
theorem split_Join.calls (A0 : Option Addr) (c0 : Nat) (l0 : List ByteArray) (r : ByteArray) (w : World) (hr0 : Kd.C Kd.string w A0 l0.length l0) (hc0 : l0.length ≤ c0) (h : split_Join.f l0 = some r) :
  Calls Tryd.prog 24 #[.slice A0 l0.length c0] w fun e w' => e = .returned (.string r) ∧ Below w.heap.size w w' := by
 have HR0 := Aside0.mk hr0
 have HC0 := Aside0.mk hc0
 clear hr0 hc0
 have HB := Aside0.mk (Below.refl w.heap.size w)
 have H : ((strings_Join.f l0 (⟨#[45]⟩ : ByteArray)).bind fun t144 => (some t144)) = some r := h
 clear h
 replace H := Option.bind_eq_some_iff.mp H
 obtain ⟨t144, A20, H⟩ := H
 replace H : (some t144) = some r := H
 have A2 := Aside0.mk A20
 clear A20
 obtain rfl := Option.some.inj H
 go_enter Tryd.func24, Tryd.ntmps24
 go_wp2_with (first | ((with_reducible refine gate_callee (f := 34) rfl ?_); refine goesL_ (some 4) rfl rfl Tryd.func34 (by kernel_rfl) rfl #[.slice A0 l0.length c0, .string (⟨#[45]⟩ : ByteArray)] rfl (by (try simp only [List.map_toArray, List.map_cons, List.map_nil]); first | done | rfl | (simp only [List.length_drop, List.length_take]; rfl)) ?_; (with_reducible refine (strings_Join.calls _ _ l0 (⟨#[45]⟩ : ByteArray) t144 _ ?side1 ?side2 A2.out).mono ?_); (case side1 => repeat (first | exact HR0.out | (with_reducible refine Kd.C_alloc ?_ _) | (with_reducible refine Kd.C_drewN ?_ _) | (with_reducible refine Kd.C_drew ?_))); (case side2 => exact HC0.out); rintro e w3 ⟨rfl, hb⟩; refine ⟨_, rfl, ?_⟩; have n0_ := Aside0.mk (below_step (by repeat (first | (with_reducible first | exact HB.out | apply below_alloc | apply pw_below_drewN | apply below_drew1) | exact HB.out)) hb); clear HB; have HB := n0_; clear n0_; (try clear hb); (try clear hb2); (try clear hk); (try clear hi)))
 go_ret
 exact ⟨by first | rfl | (simp [errW_none, errW_some] <;> rfl) | (simp [*, errW_none, errW_some] <;> rfl), by repeat (first | (with_reducible first | exact HB.out | apply below_alloc | apply pw_below_drewN | apply below_drew1) | exact HB.out)⟩

end Go.Proofs.YtmkjifljciajbaaDoor.P
