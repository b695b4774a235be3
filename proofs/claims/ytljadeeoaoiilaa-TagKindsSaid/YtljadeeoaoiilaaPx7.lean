-- Written for this claim by the session's own run of the print, functions proved by hand put in.
import Derived.Test.YtljadeeoaoiilaaPx0
import Derived.Test.YtljadeeoaoiilaaPx1
import Derived.Test.YtljadeeoaoiilaaPx4
import Derived.Test.YtljadeeoaoiilaaPx6
namespace Go.Proofs.Ytljadeeoaoiilaa.P
open Go.RowKit Go.Proofs.YtljadeeoaoiilaaW.PrintWords Go.Proofs.YtljadeeoaoiilaaW.PrintLast Go.Proofs.YtljadeeoaoiilaaW.PrintMore
attribute [local go_sem] max2_int min2_int max_two min_two max_three min_three max_four min_four   -- for this text's walks alone
set_option linter.unusedVariables false
set_option linter.unusedSimpArgs false

/-! ### isoglosslaw06_kinds: function 15 -/
def isoglosslaw06_kinds.f (k : Nat) (a0 : ByteArray) : Option (Bool) := (tag_Language.f k a0).bind fun t341 => ((isoglossref06_Language.f k a0).bind fun t342 => (if (t341 == t342) = true then ((tag_Extlang.f k a0).bind fun t343 => ((isoglossref06_Extlang.f k a0).bind fun t344 => (if (t343 == t344) = true then ((tag_Script.f k a0).bind fun t345 => ((isoglossref06_Script.f k a0).bind fun t346 => (if (t345 == t346) = true then ((tag_Region.f k a0).bind fun t347 => ((isoglossref06_Region.f k a0).bind fun t348 => (if (t347 == t348) = true then ((tag_Variant.f k a0).bind fun t349 => ((isoglossref06_Variant.f k a0).bind fun t350 => (if (t349 == t350) = true then ((tag_Singleton.f k a0).bind fun t351 => ((isoglossref06_Singleton.f k a0).bind fun t352 => (some (t351 == t352)))) else (some false)))) else (some false)))) else (some false)))) else (some false)))) else (some false)))
theorem isoglosslaw06_kinds.mono : ∀ a0 k, LeO (isoglosslaw06_kinds.f k a0) (isoglosslaw06_kinds.f (k + 1) a0) := by
  intro a0 k
  unfold isoglosslaw06_kinds.f
  repeat' first
      | (with_reducible exact isoglossref06_Extlang.mono _ _)
      | (with_reducible exact isoglossref06_Language.mono _ _)
      | (with_reducible exact isoglossref06_Region.mono _ _)
      | (with_reducible exact isoglossref06_Script.mono _ _)
      | (with_reducible exact isoglossref06_Singleton.mono _ _)
      | (with_reducible exact isoglossref06_Variant.mono _ _)
      | (with_reducible exact tag_Extlang.mono _ _)
      | (with_reducible exact tag_Language.mono _ _)
      | (with_reducible exact tag_Region.mono _ _)
      | (with_reducible exact tag_Script.mono _ _)
      | (with_reducible exact tag_Singleton.mono _ _)
      | (with_reducible exact tag_Variant.mono _ _)
      | (with_reducible exact LeO.refl _)
      | (with_reducible exact LeO.none _)
      | (with_reducible refine LeO.ite ?_ ?_)
      | (with_reducible refine LeO.bind ?_ (fun _ => ?_))
      | exact isoglossref06_Extlang.mono _ _
      | exact isoglossref06_Language.mono _ _
      | exact isoglossref06_Region.mono _ _
      | exact isoglossref06_Script.mono _ _
      | exact isoglossref06_Singleton.mono _ _
      | exact isoglossref06_Variant.mono _ _
      | exact tag_Extlang.mono _ _
      | exact tag_Language.mono _ _
      | exact tag_Region.mono _ _
      | exact tag_Script.mono _ _
      | exact tag_Singleton.mono _ _
      | exact tag_Variant.mono _ _
      | exact LeO.none _
      | refine LeO.ite ?_ ?_
      | refine LeO.bind ?_ (fun _ => ?_)
set_option maxHeartbeats 8000000 in
set_option maxRecDepth 100000 in
theorem isoglosslaw06_kinds.calls (k : Nat) (a0 : ByteArray) (r : Bool) (w : World) (h : isoglosslaw06_kinds.f k a0 = some r) :
    Calls Try.prog 15 #[.string a0] w fun e w' => e = .returned (.bool r) ∧ Below w.heap.size w w' := by
  have HB := Aside0.mk (Below.refl w.heap.size w)
  have H : ((tag_Language.f k a0).bind fun t341 => ((isoglossref06_Language.f k a0).bind fun t342 => (if (t341 == t342) = true then ((tag_Extlang.f k a0).bind fun t343 => ((isoglossref06_Extlang.f k a0).bind fun t344 => (if (t343 == t344) = true then ((tag_Script.f k a0).bind fun t345 => ((isoglossref06_Script.f k a0).bind fun t346 => (if (t345 == t346) = true then ((tag_Region.f k a0).bind fun t347 => ((isoglossref06_Region.f k a0).bind fun t348 => (if (t347 == t348) = true then ((tag_Variant.f k a0).bind fun t349 => ((isoglossref06_Variant.f k a0).bind fun t350 => (if (t349 == t350) = true then ((tag_Singleton.f k a0).bind fun t351 => ((isoglossref06_Singleton.f k a0).bind fun t352 => (some (t351 == t352)))) else (some false)))) else (some false)))) else (some false)))) else (some false)))) else (some false)))) = some r := h
  clear h
  replace H := Option.bind_eq_some_iff.mp H
  obtain ⟨t341, A20, H⟩ := H
  replace H : ((isoglossref06_Language.f k a0).bind fun t342 => (if (t341 == t342) = true then ((tag_Extlang.f k a0).bind fun t343 => ((isoglossref06_Extlang.f k a0).bind fun t344 => (if (t343 == t344) = true then ((tag_Script.f k a0).bind fun t345 => ((isoglossref06_Script.f k a0).bind fun t346 => (if (t345 == t346) = true then ((tag_Region.f k a0).bind fun t347 => ((isoglossref06_Region.f k a0).bind fun t348 => (if (t347 == t348) = true then ((tag_Variant.f k a0).bind fun t349 => ((isoglossref06_Variant.f k a0).bind fun t350 => (if (t349 == t350) = true then ((tag_Singleton.f k a0).bind fun t351 => ((isoglossref06_Singleton.f k a0).bind fun t352 => (some (t351 == t352)))) else (some false)))) else (some false)))) else (some false)))) else (some false)))) else (some false))) = some r := H
  have A2 := Aside0.mk A20
  clear A20
  replace H := Option.bind_eq_some_iff.mp H
  obtain ⟨t342, A30, H⟩ := H
  replace H : (if (t341 == t342) = true then ((tag_Extlang.f k a0).bind fun t343 => ((isoglossref06_Extlang.f k a0).bind fun t344 => (if (t343 == t344) = true then ((tag_Script.f k a0).bind fun t345 => ((isoglossref06_Script.f k a0).bind fun t346 => (if (t345 == t346) = true then ((tag_Region.f k a0).bind fun t347 => ((isoglossref06_Region.f k a0).bind fun t348 => (if (t347 == t348) = true then ((tag_Variant.f k a0).bind fun t349 => ((isoglossref06_Variant.f k a0).bind fun t350 => (if (t349 == t350) = true then ((tag_Singleton.f k a0).bind fun t351 => ((isoglossref06_Singleton.f k a0).bind fun t352 => (some (t351 == t352)))) else (some false)))) else (some false)))) else (some false)))) else (some false)))) else (some false)) = some r := H
  have A3 := Aside0.mk A30
  clear A30
  by_cases c4 : (t341 == t342) = true
  · rw [if_pos c4] at H
    have c4b0 : (t341 == t342) = true := c4
    (try (have c4b1 : decide (t341 = t342) = true := by simpa using c4))
    (try (have c4b2 : (t341 == t342) = true := by simpa using c4))
    clear c4
    replace H := Option.bind_eq_some_iff.mp H
    obtain ⟨t343, A50, H⟩ := H
    replace H : ((isoglossref06_Extlang.f k a0).bind fun t344 => (if (t343 == t344) = true then ((tag_Script.f k a0).bind fun t345 => ((isoglossref06_Script.f k a0).bind fun t346 => (if (t345 == t346) = true then ((tag_Region.f k a0).bind fun t347 => ((isoglossref06_Region.f k a0).bind fun t348 => (if (t347 == t348) = true then ((tag_Variant.f k a0).bind fun t349 => ((isoglossref06_Variant.f k a0).bind fun t350 => (if (t349 == t350) = true then ((tag_Singleton.f k a0).bind fun t351 => ((isoglossref06_Singleton.f k a0).bind fun t352 => (some (t351 == t352)))) else (some false)))) else (some false)))) else (some false)))) else (some false))) = some r := H
    have A5 := Aside0.mk A50
    clear A50
    replace H := Option.bind_eq_some_iff.mp H
    obtain ⟨t344, A60, H⟩ := H
    replace H : (if (t343 == t344) = true then ((tag_Script.f k a0).bind fun t345 => ((isoglossref06_Script.f k a0).bind fun t346 => (if (t345 == t346) = true then ((tag_Region.f k a0).bind fun t347 => ((isoglossref06_Region.f k a0).bind fun t348 => (if (t347 == t348) = true then ((tag_Variant.f k a0).bind fun t349 => ((isoglossref06_Variant.f k a0).bind fun t350 => (if (t349 == t350) = true then ((tag_Singleton.f k a0).bind fun t351 => ((isoglossref06_Singleton.f k a0).bind fun t352 => (some (t351 == t352)))) else (some false)))) else (some false)))) else (some false)))) else (some false)) = some r := H
    have A6 := Aside0.mk A60
    clear A60
    by_cases c7 : (t343 == t344) = true
    · rw [if_pos c7] at H
      have c7b0 : (t343 == t344) = true := c7
      (try (have c7b1 : decide (t343 = t344) = true := by simpa using c7))
      (try (have c7b2 : (t343 == t344) = true := by simpa using c7))
      clear c7
      replace H := Option.bind_eq_some_iff.mp H
      obtain ⟨t345, A80, H⟩ := H
      replace H : ((isoglossref06_Script.f k a0).bind fun t346 => (if (t345 == t346) = true then ((tag_Region.f k a0).bind fun t347 => ((isoglossref06_Region.f k a0).bind fun t348 => (if (t347 == t348) = true then ((tag_Variant.f k a0).bind fun t349 => ((isoglossref06_Variant.f k a0).bind fun t350 => (if (t349 == t350) = true then ((tag_Singleton.f k a0).bind fun t351 => ((isoglossref06_Singleton.f k a0).bind fun t352 => (some (t351 == t352)))) else (some false)))) else (some false)))) else (some false))) = some r := H
      have A8 := Aside0.mk A80
      clear A80
      replace H := Option.bind_eq_some_iff.mp H
      obtain ⟨t346, A90, H⟩ := H
      replace H : (if (t345 == t346) = true then ((tag_Region.f k a0).bind fun t347 => ((isoglossref06_Region.f k a0).bind fun t348 => (if (t347 == t348) = true then ((tag_Variant.f k a0).bind fun t349 => ((isoglossref06_Variant.f k a0).bind fun t350 => (if (t349 == t350) = true then ((tag_Singleton.f k a0).bind fun t351 => ((isoglossref06_Singleton.f k a0).bind fun t352 => (some (t351 == t352)))) else (some false)))) else (some false)))) else (some false)) = some r := H
      have A9 := Aside0.mk A90
      clear A90
      by_cases c10 : (t345 == t346) = true
      · rw [if_pos c10] at H
        have c10b0 : (t345 == t346) = true := c10
        (try (have c10b1 : decide (t345 = t346) = true := by simpa using c10))
        (try (have c10b2 : (t345 == t346) = true := by simpa using c10))
        clear c10
        replace H := Option.bind_eq_some_iff.mp H
        obtain ⟨t347, A110, H⟩ := H
        replace H : ((isoglossref06_Region.f k a0).bind fun t348 => (if (t347 == t348) = true then ((tag_Variant.f k a0).bind fun t349 => ((isoglossref06_Variant.f k a0).bind fun t350 => (if (t349 == t350) = true then ((tag_Singleton.f k a0).bind fun t351 => ((isoglossref06_Singleton.f k a0).bind fun t352 => (some (t351 == t352)))) else (some false)))) else (some false))) = some r := H
        have A11 := Aside0.mk A110
        clear A110
        replace H := Option.bind_eq_some_iff.mp H
        obtain ⟨t348, A120, H⟩ := H
        replace H : (if (t347 == t348) = true then ((tag_Variant.f k a0).bind fun t349 => ((isoglossref06_Variant.f k a0).bind fun t350 => (if (t349 == t350) = true then ((tag_Singleton.f k a0).bind fun t351 => ((isoglossref06_Singleton.f k a0).bind fun t352 => (some (t351 == t352)))) else (some false)))) else (some false)) = some r := H
        have A12 := Aside0.mk A120
        clear A120
        by_cases c13 : (t347 == t348) = true
        · rw [if_pos c13] at H
          have c13b0 : (t347 == t348) = true := c13
          (try (have c13b1 : decide (t347 = t348) = true := by simpa using c13))
          (try (have c13b2 : (t347 == t348) = true := by simpa using c13))
          clear c13
          replace H := Option.bind_eq_some_iff.mp H
          obtain ⟨t349, A140, H⟩ := H
          replace H : ((isoglossref06_Variant.f k a0).bind fun t350 => (if (t349 == t350) = true then ((tag_Singleton.f k a0).bind fun t351 => ((isoglossref06_Singleton.f k a0).bind fun t352 => (some (t351 == t352)))) else (some false))) = some r := H
          have A14 := Aside0.mk A140
          clear A140
          replace H := Option.bind_eq_some_iff.mp H
          obtain ⟨t350, A150, H⟩ := H
          replace H : (if (t349 == t350) = true then ((tag_Singleton.f k a0).bind fun t351 => ((isoglossref06_Singleton.f k a0).bind fun t352 => (some (t351 == t352)))) else (some false)) = some r := H
          have A15 := Aside0.mk A150
          clear A150
          by_cases c16 : (t349 == t350) = true
          · rw [if_pos c16] at H
            have c16b0 : (t349 == t350) = true := c16
            (try (have c16b1 : decide (t349 = t350) = true := by simpa using c16))
            (try (have c16b2 : (t349 == t350) = true := by simpa using c16))
            clear c16
            replace H := Option.bind_eq_some_iff.mp H
            obtain ⟨t351, A170, H⟩ := H
            replace H : ((isoglossref06_Singleton.f k a0).bind fun t352 => (some (t351 == t352))) = some r := H
            have A17 := Aside0.mk A170
            clear A170
            replace H := Option.bind_eq_some_iff.mp H
            obtain ⟨t352, A180, H⟩ := H
            replace H : (some (t351 == t352)) = some r := H
            have A18 := Aside0.mk A180
            clear A180
            obtain rfl := Option.some.inj H
            go_enter Try.func15, Try.ntmps15
            go_wp2_with (first | ((with_reducible refine gate_callee (f := 18) rfl ?_); refine goesL_ (some 4) rfl rfl Try.func18 (by kernel_rfl) rfl #[.string a0] rfl (by (try simp only [List.map_toArray, List.map_cons, List.map_nil]); first | done | rfl | (simp only [List.length_drop, List.length_take]; rfl)) ?_; (with_reducible refine (tag_Language.calls k a0 t341 _ A2.out).mono ?_); rintro e w' ⟨rfl, ⟨nd, rfl⟩⟩; refine ⟨_, rfl, ?_⟩) | ((with_reducible refine gate_callee (f := 42) rfl ?_); refine goesL_ (some 6) rfl rfl Try.func42 (by kernel_rfl) rfl #[.string a0] rfl (by (try simp only [List.map_toArray, List.map_cons, List.map_nil]); first | done | rfl | (simp only [List.length_drop, List.length_take]; rfl)) ?_; (with_reducible refine (isoglossref06_Language.calls k a0 t342 _ A3.out).mono ?_); rintro e w' ⟨rfl, ⟨nd, rfl⟩⟩; refine ⟨_, rfl, ?_⟩) | (go_at_call 24; (with_reducible refine (tag_Extlang.calls k a0 t343 _ A5.out).mono ?_); rintro e w' ⟨rfl, ⟨nd, rfl⟩⟩) | (go_at_call 43; (with_reducible refine (isoglossref06_Extlang.calls k a0 t344 _ A6.out).mono ?_); rintro e w' ⟨rfl, ⟨nd, rfl⟩⟩) | (go_at_call 25; (with_reducible refine (tag_Script.calls k a0 t345 _ A8.out).mono ?_); rintro e w' ⟨rfl, ⟨nd, rfl⟩⟩) | (go_at_call 44; (with_reducible refine (isoglossref06_Script.calls k a0 t346 _ A9.out).mono ?_); rintro e w' ⟨rfl, ⟨nd, rfl⟩⟩) | (go_at_call 19; (with_reducible refine (tag_Region.calls k a0 t347 _ A11.out).mono ?_); rintro e w' ⟨rfl, ⟨nd, rfl⟩⟩) | (go_at_call 45; (with_reducible refine (isoglossref06_Region.calls k a0 t348 _ A12.out).mono ?_); rintro e w' ⟨rfl, ⟨nd, rfl⟩⟩) | (go_at_call 20; (with_reducible refine (tag_Variant.calls k a0 t349 _ A14.out).mono ?_); rintro e w' ⟨rfl, ⟨nd, rfl⟩⟩) | (go_at_call 46; (with_reducible refine (isoglossref06_Variant.calls k a0 t350 _ A15.out).mono ?_); rintro e w' ⟨rfl, ⟨nd, rfl⟩⟩) | (go_at_call 22; (with_reducible refine (tag_Singleton.calls k a0 t351 _ A17.out).mono ?_); rintro e w19 ⟨rfl, hb⟩; have n0_ := Aside0.mk (below_step (by repeat (first | (with_reducible first | exact HB.out | apply below_alloc | apply pw_below_drewN | apply below_drew1) | exact HB.out)) hb); clear HB; have HB := n0_; clear n0_; (try clear hb); (try clear hb2); (try clear hk); (try clear hi)) | (go_at_call 47; (with_reducible refine (isoglossref06_Singleton.calls k a0 t352 _ A18.out).mono ?_); rintro e w' ⟨rfl, ⟨nd, rfl⟩⟩))
            go_ret
            exact ⟨by first | rfl | (simp [errW_none, errW_some] <;> rfl) | (simp [*, errW_none, errW_some] <;> rfl), by repeat (first | (with_reducible first | exact HB.out | apply below_alloc | apply pw_below_drewN | apply below_drew1) | exact HB.out)⟩
          · rw [if_neg c16] at H
            have c16b0 : (t349 == t350) = false := by simpa using c16
            (try (have c16b1 : decide (t349 = t350) = false := by simpa using c16))
            (try (have c16b2 : (t349 == t350) = false := by simpa using c16))
            (try (have c16b3 : ¬ (t349 = t350) := by simpa using c16))
            clear c16
            obtain rfl := Option.some.inj H
            go_enter Try.func15, Try.ntmps15
            go_wp2_with (first | ((with_reducible refine gate_callee (f := 18) rfl ?_); refine goesL_ (some 4) rfl rfl Try.func18 (by kernel_rfl) rfl #[.string a0] rfl (by (try simp only [List.map_toArray, List.map_cons, List.map_nil]); first | done | rfl | (simp only [List.length_drop, List.length_take]; rfl)) ?_; (with_reducible refine (tag_Language.calls k a0 t341 _ A2.out).mono ?_); rintro e w' ⟨rfl, ⟨nd, rfl⟩⟩; refine ⟨_, rfl, ?_⟩) | ((with_reducible refine gate_callee (f := 42) rfl ?_); refine goesL_ (some 6) rfl rfl Try.func42 (by kernel_rfl) rfl #[.string a0] rfl (by (try simp only [List.map_toArray, List.map_cons, List.map_nil]); first | done | rfl | (simp only [List.length_drop, List.length_take]; rfl)) ?_; (with_reducible refine (isoglossref06_Language.calls k a0 t342 _ A3.out).mono ?_); rintro e w' ⟨rfl, ⟨nd, rfl⟩⟩; refine ⟨_, rfl, ?_⟩) | (go_at_call 24; (with_reducible refine (tag_Extlang.calls k a0 t343 _ A5.out).mono ?_); rintro e w' ⟨rfl, ⟨nd, rfl⟩⟩) | (go_at_call 43; (with_reducible refine (isoglossref06_Extlang.calls k a0 t344 _ A6.out).mono ?_); rintro e w' ⟨rfl, ⟨nd, rfl⟩⟩) | (go_at_call 25; (with_reducible refine (tag_Script.calls k a0 t345 _ A8.out).mono ?_); rintro e w' ⟨rfl, ⟨nd, rfl⟩⟩) | (go_at_call 44; (with_reducible refine (isoglossref06_Script.calls k a0 t346 _ A9.out).mono ?_); rintro e w' ⟨rfl, ⟨nd, rfl⟩⟩) | (go_at_call 19; (with_reducible refine (tag_Region.calls k a0 t347 _ A11.out).mono ?_); rintro e w' ⟨rfl, ⟨nd, rfl⟩⟩) | (go_at_call 45; (with_reducible refine (isoglossref06_Region.calls k a0 t348 _ A12.out).mono ?_); rintro e w' ⟨rfl, ⟨nd, rfl⟩⟩) | (go_at_call 20; (with_reducible refine (tag_Variant.calls k a0 t349 _ A14.out).mono ?_); rintro e w' ⟨rfl, ⟨nd, rfl⟩⟩) | (go_at_call 46; (with_reducible refine (isoglossref06_Variant.calls k a0 t350 _ A15.out).mono ?_); rintro e w' ⟨rfl, ⟨nd, rfl⟩⟩))
            go_ret
            exact ⟨by first | rfl | (simp [errW_none, errW_some] <;> rfl) | (simp [*, errW_none, errW_some] <;> rfl), by repeat (first | (with_reducible first | exact HB.out | apply below_alloc | apply pw_below_drewN | apply below_drew1) | exact HB.out)⟩
        · rw [if_neg c13] at H
          have c13b0 : (t347 == t348) = false := by simpa using c13
          (try (have c13b1 : decide (t347 = t348) = false := by simpa using c13))
          (try (have c13b2 : (t347 == t348) = false := by simpa using c13))
          (try (have c13b3 : ¬ (t347 = t348) := by simpa using c13))
          clear c13
          obtain rfl := Option.some.inj H
          go_enter Try.func15, Try.ntmps15
          go_wp2_with (first | ((with_reducible refine gate_callee (f := 18) rfl ?_); refine goesL_ (some 4) rfl rfl Try.func18 (by kernel_rfl) rfl #[.string a0] rfl (by (try simp only [List.map_toArray, List.map_cons, List.map_nil]); first | done | rfl | (simp only [List.length_drop, List.length_take]; rfl)) ?_; (with_reducible refine (tag_Language.calls k a0 t341 _ A2.out).mono ?_); rintro e w' ⟨rfl, ⟨nd, rfl⟩⟩; refine ⟨_, rfl, ?_⟩) | ((with_reducible refine gate_callee (f := 42) rfl ?_); refine goesL_ (some 6) rfl rfl Try.func42 (by kernel_rfl) rfl #[.string a0] rfl (by (try simp only [List.map_toArray, List.map_cons, List.map_nil]); first | done | rfl | (simp only [List.length_drop, List.length_take]; rfl)) ?_; (with_reducible refine (isoglossref06_Language.calls k a0 t342 _ A3.out).mono ?_); rintro e w' ⟨rfl, ⟨nd, rfl⟩⟩; refine ⟨_, rfl, ?_⟩) | (go_at_call 24; (with_reducible refine (tag_Extlang.calls k a0 t343 _ A5.out).mono ?_); rintro e w' ⟨rfl, ⟨nd, rfl⟩⟩) | (go_at_call 43; (with_reducible refine (isoglossref06_Extlang.calls k a0 t344 _ A6.out).mono ?_); rintro e w' ⟨rfl, ⟨nd, rfl⟩⟩) | (go_at_call 25; (with_reducible refine (tag_Script.calls k a0 t345 _ A8.out).mono ?_); rintro e w' ⟨rfl, ⟨nd, rfl⟩⟩) | (go_at_call 44; (with_reducible refine (isoglossref06_Script.calls k a0 t346 _ A9.out).mono ?_); rintro e w' ⟨rfl, ⟨nd, rfl⟩⟩) | (go_at_call 19; (with_reducible refine (tag_Region.calls k a0 t347 _ A11.out).mono ?_); rintro e w' ⟨rfl, ⟨nd, rfl⟩⟩) | (go_at_call 45; (with_reducible refine (isoglossref06_Region.calls k a0 t348 _ A12.out).mono ?_); rintro e w' ⟨rfl, ⟨nd, rfl⟩⟩))
          go_ret
          exact ⟨by first | rfl | (simp [errW_none, errW_some] <;> rfl) | (simp [*, errW_none, errW_some] <;> rfl), by repeat (first | (with_reducible first | exact HB.out | apply below_alloc | apply pw_below_drewN | apply below_drew1) | exact HB.out)⟩
      · rw [if_neg c10] at H
        have c10b0 : (t345 == t346) = false := by simpa using c10
        (try (have c10b1 : decide (t345 = t346) = false := by simpa using c10))
        (try (have c10b2 : (t345 == t346) = false := by simpa using c10))
        (try (have c10b3 : ¬ (t345 = t346) := by simpa using c10))
        clear c10
        obtain rfl := Option.some.inj H
        go_enter Try.func15, Try.ntmps15
        go_wp2_with (first | ((with_reducible refine gate_callee (f := 18) rfl ?_); refine goesL_ (some 4) rfl rfl Try.func18 (by kernel_rfl) rfl #[.string a0] rfl (by (try simp only [List.map_toArray, List.map_cons, List.map_nil]); first | done | rfl | (simp only [List.length_drop, List.length_take]; rfl)) ?_; (with_reducible refine (tag_Language.calls k a0 t341 _ A2.out).mono ?_); rintro e w' ⟨rfl, ⟨nd, rfl⟩⟩; refine ⟨_, rfl, ?_⟩) | ((with_reducible refine gate_callee (f := 42) rfl ?_); refine goesL_ (some 6) rfl rfl Try.func42 (by kernel_rfl) rfl #[.string a0] rfl (by (try simp only [List.map_toArray, List.map_cons, List.map_nil]); first | done | rfl | (simp only [List.length_drop, List.length_take]; rfl)) ?_; (with_reducible refine (isoglossref06_Language.calls k a0 t342 _ A3.out).mono ?_); rintro e w' ⟨rfl, ⟨nd, rfl⟩⟩; refine ⟨_, rfl, ?_⟩) | (go_at_call 24; (with_reducible refine (tag_Extlang.calls k a0 t343 _ A5.out).mono ?_); rintro e w' ⟨rfl, ⟨nd, rfl⟩⟩) | (go_at_call 43; (with_reducible refine (isoglossref06_Extlang.calls k a0 t344 _ A6.out).mono ?_); rintro e w' ⟨rfl, ⟨nd, rfl⟩⟩) | (go_at_call 25; (with_reducible refine (tag_Script.calls k a0 t345 _ A8.out).mono ?_); rintro e w' ⟨rfl, ⟨nd, rfl⟩⟩) | (go_at_call 44; (with_reducible refine (isoglossref06_Script.calls k a0 t346 _ A9.out).mono ?_); rintro e w' ⟨rfl, ⟨nd, rfl⟩⟩))
        go_ret
        exact ⟨by first | rfl | (simp [errW_none, errW_some] <;> rfl) | (simp [*, errW_none, errW_some] <;> rfl), by repeat (first | (with_reducible first | exact HB.out | apply below_alloc | apply pw_below_drewN | apply below_drew1) | exact HB.out)⟩
    · rw [if_neg c7] at H
      have c7b0 : (t343 == t344) = false := by simpa using c7
      (try (have c7b1 : decide (t343 = t344) = false := by simpa using c7))
      (try (have c7b2 : (t343 == t344) = false := by simpa using c7))
      (try (have c7b3 : ¬ (t343 = t344) := by simpa using c7))
      clear c7
      obtain rfl := Option.some.inj H
      go_enter Try.func15, Try.ntmps15
      go_wp2_with (first | ((with_reducible refine gate_callee (f := 18) rfl ?_); refine goesL_ (some 4) rfl rfl Try.func18 (by kernel_rfl) rfl #[.string a0] rfl (by (try simp only [List.map_toArray, List.map_cons, List.map_nil]); first | done | rfl | (simp only [List.length_drop, List.length_take]; rfl)) ?_; (with_reducible refine (tag_Language.calls k a0 t341 _ A2.out).mono ?_); rintro e w' ⟨rfl, ⟨nd, rfl⟩⟩; refine ⟨_, rfl, ?_⟩) | ((with_reducible refine gate_callee (f := 42) rfl ?_); refine goesL_ (some 6) rfl rfl Try.func42 (by kernel_rfl) rfl #[.string a0] rfl (by (try simp only [List.map_toArray, List.map_cons, List.map_nil]); first | done | rfl | (simp only [List.length_drop, List.length_take]; rfl)) ?_; (with_reducible refine (isoglossref06_Language.calls k a0 t342 _ A3.out).mono ?_); rintro e w' ⟨rfl, ⟨nd, rfl⟩⟩; refine ⟨_, rfl, ?_⟩) | (go_at_call 24; (with_reducible refine (tag_Extlang.calls k a0 t343 _ A5.out).mono ?_); rintro e w' ⟨rfl, ⟨nd, rfl⟩⟩) | (go_at_call 43; (with_reducible refine (isoglossref06_Extlang.calls k a0 t344 _ A6.out).mono ?_); rintro e w' ⟨rfl, ⟨nd, rfl⟩⟩))
      go_ret
      exact ⟨by first | rfl | (simp [errW_none, errW_some] <;> rfl) | (simp [*, errW_none, errW_some] <;> rfl), by repeat (first | (with_reducible first | exact HB.out | apply below_alloc | apply pw_below_drewN | apply below_drew1) | exact HB.out)⟩
  · rw [if_neg c4] at H
    have c4b0 : (t341 == t342) = false := by simpa using c4
    (try (have c4b1 : decide (t341 = t342) = false := by simpa using c4))
    (try (have c4b2 : (t341 == t342) = false := by simpa using c4))
    (try (have c4b3 : ¬ (t341 = t342) := by simpa using c4))
    clear c4
    obtain rfl := Option.some.inj H
    go_enter Try.func15, Try.ntmps15
    go_wp2_with (first | ((with_reducible refine gate_callee (f := 18) rfl ?_); refine goesL_ (some 4) rfl rfl Try.func18 (by kernel_rfl) rfl #[.string a0] rfl (by (try simp only [List.map_toArray, List.map_cons, List.map_nil]); first | done | rfl | (simp only [List.length_drop, List.length_take]; rfl)) ?_; (with_reducible refine (tag_Language.calls k a0 t341 _ A2.out).mono ?_); rintro e w' ⟨rfl, ⟨nd, rfl⟩⟩; refine ⟨_, rfl, ?_⟩) | ((with_reducible refine gate_callee (f := 42) rfl ?_); refine goesL_ (some 6) rfl rfl Try.func42 (by kernel_rfl) rfl #[.string a0] rfl (by (try simp only [List.map_toArray, List.map_cons, List.map_nil]); first | done | rfl | (simp only [List.length_drop, List.length_take]; rfl)) ?_; (with_reducible refine (isoglossref06_Language.calls k a0 t342 _ A3.out).mono ?_); rintro e w' ⟨rfl, ⟨nd, rfl⟩⟩; refine ⟨_, rfl, ?_⟩))
    go_ret
    exact ⟨by first | rfl | (simp [errW_none, errW_some] <;> rfl) | (simp [*, errW_none, errW_some] <;> rfl), by repeat (first | (with_reducible first | exact HB.out | apply below_alloc | apply pw_below_drewN | apply below_drew1) | exact HB.out)⟩

/-! ### isoglosslaw06_TagKinds: function 5 -/
def isoglosslaw06_TagKinds.f (k : Nat) (a0 : ByteArray) : Option (Bool) := (isoglosslaw06_awake.f k).bind fun t353 => ((isoglosslaw06_short.f a0).bind fun t354 => (if t353 = true then ((isoglosslaw06_kinds.f k t354).bind fun t355 => (if t355 = true then ((isoglossref02_Upper.f k t354).bind fun t356 => ((isoglosslaw06_kinds.f k t356).bind fun t357 => (if t357 = true then ((isoglossref02_Lower.f k t354).bind fun t358 => ((isoglosslaw06_kinds.f k t358).bind fun t359 => (some t359))) else (some false)))) else (some false))) else (some false)))
theorem isoglosslaw06_TagKinds.mono : ∀ a0 k, LeO (isoglosslaw06_TagKinds.f k a0) (isoglosslaw06_TagKinds.f (k + 1) a0) := by
  intro a0 k
  unfold isoglosslaw06_TagKinds.f
  repeat' first
      | (with_reducible exact isoglosslaw06_awake.mono _)
      | (with_reducible exact isoglosslaw06_kinds.mono _ _)
      | (with_reducible exact isoglossref02_Lower.mono _ _)
      | (with_reducible exact isoglossref02_Upper.mono _ _)
      | (with_reducible exact LeO.refl _)
      | (with_reducible exact LeO.none _)
      | (with_reducible refine LeO.ite ?_ ?_)
      | (with_reducible refine LeO.bind ?_ (fun _ => ?_))
      | exact isoglosslaw06_awake.mono _
      | exact isoglosslaw06_kinds.mono _ _
      | exact isoglossref02_Lower.mono _ _
      | exact isoglossref02_Upper.mono _ _
      | exact LeO.none _
      | refine LeO.ite ?_ ?_
      | refine LeO.bind ?_ (fun _ => ?_)
set_option maxHeartbeats 8000000 in
set_option maxRecDepth 100000 in
theorem isoglosslaw06_TagKinds.calls (k : Nat) (a0 : ByteArray) (r : Bool) (w : World) (h : isoglosslaw06_TagKinds.f k a0 = some r) :
    Calls Try.prog 5 #[.string a0] w fun e w' => e = .returned (.bool r) ∧ Below w.heap.size w w' := by
  have HB := Aside0.mk (Below.refl w.heap.size w)
  have H : ((isoglosslaw06_awake.f k).bind fun t353 => ((isoglosslaw06_short.f a0).bind fun t354 => (if t353 = true then ((isoglosslaw06_kinds.f k t354).bind fun t355 => (if t355 = true then ((isoglossref02_Upper.f k t354).bind fun t356 => ((isoglosslaw06_kinds.f k t356).bind fun t357 => (if t357 = true then ((isoglossref02_Lower.f k t354).bind fun t358 => ((isoglosslaw06_kinds.f k t358).bind fun t359 => (some t359))) else (some false)))) else (some false))) else (some false)))) = some r := h
  clear h
  replace H := Option.bind_eq_some_iff.mp H
  obtain ⟨t353, A20, H⟩ := H
  replace H : ((isoglosslaw06_short.f a0).bind fun t354 => (if t353 = true then ((isoglosslaw06_kinds.f k t354).bind fun t355 => (if t355 = true then ((isoglossref02_Upper.f k t354).bind fun t356 => ((isoglosslaw06_kinds.f k t356).bind fun t357 => (if t357 = true then ((isoglossref02_Lower.f k t354).bind fun t358 => ((isoglosslaw06_kinds.f k t358).bind fun t359 => (some t359))) else (some false)))) else (some false))) else (some false))) = some r := H
  have A2 := Aside0.mk A20
  clear A20
  replace H := Option.bind_eq_some_iff.mp H
  obtain ⟨t354, A30, H⟩ := H
  replace H : (if t353 = true then ((isoglosslaw06_kinds.f k t354).bind fun t355 => (if t355 = true then ((isoglossref02_Upper.f k t354).bind fun t356 => ((isoglosslaw06_kinds.f k t356).bind fun t357 => (if t357 = true then ((isoglossref02_Lower.f k t354).bind fun t358 => ((isoglosslaw06_kinds.f k t358).bind fun t359 => (some t359))) else (some false)))) else (some false))) else (some false)) = some r := H
  have A3 := Aside0.mk A30
  clear A30
  by_cases c4 : t353 = true
  · subst c4
    have H1 : ((isoglosslaw06_kinds.f k t354).bind fun t355 => (if t355 = true then ((isoglossref02_Upper.f k t354).bind fun t356 => ((isoglosslaw06_kinds.f k t356).bind fun t357 => (if t357 = true then ((isoglossref02_Lower.f k t354).bind fun t358 => ((isoglosslaw06_kinds.f k t358).bind fun t359 => (some t359))) else (some false)))) else (some false))) = some r := by rw [if_pos rfl] at H; exact H
    clear H
    have H := H1
    clear H1
    replace H := Option.bind_eq_some_iff.mp H
    obtain ⟨t355, A50, H⟩ := H
    replace H : (if t355 = true then ((isoglossref02_Upper.f k t354).bind fun t356 => ((isoglosslaw06_kinds.f k t356).bind fun t357 => (if t357 = true then ((isoglossref02_Lower.f k t354).bind fun t358 => ((isoglosslaw06_kinds.f k t358).bind fun t359 => (some t359))) else (some false)))) else (some false)) = some r := H
    have A5 := Aside0.mk A50
    clear A50
    by_cases c6 : t355 = true
    · subst c6
      have H1 : ((isoglossref02_Upper.f k t354).bind fun t356 => ((isoglosslaw06_kinds.f k t356).bind fun t357 => (if t357 = true then ((isoglossref02_Lower.f k t354).bind fun t358 => ((isoglosslaw06_kinds.f k t358).bind fun t359 => (some t359))) else (some false)))) = some r := by rw [if_pos rfl] at H; exact H
      clear H
      have H := H1
      clear H1
      replace H := Option.bind_eq_some_iff.mp H
      obtain ⟨t356, A70, H⟩ := H
      replace H : ((isoglosslaw06_kinds.f k t356).bind fun t357 => (if t357 = true then ((isoglossref02_Lower.f k t354).bind fun t358 => ((isoglosslaw06_kinds.f k t358).bind fun t359 => (some t359))) else (some false))) = some r := H
      have A7 := Aside0.mk A70
      clear A70
      replace H := Option.bind_eq_some_iff.mp H
      obtain ⟨t357, A80, H⟩ := H
      replace H : (if t357 = true then ((isoglossref02_Lower.f k t354).bind fun t358 => ((isoglosslaw06_kinds.f k t358).bind fun t359 => (some t359))) else (some false)) = some r := H
      have A8 := Aside0.mk A80
      clear A80
      by_cases c9 : t357 = true
      · subst c9
        have H1 : ((isoglossref02_Lower.f k t354).bind fun t358 => ((isoglosslaw06_kinds.f k t358).bind fun t359 => (some t359))) = some r := by rw [if_pos rfl] at H; exact H
        clear H
        have H := H1
        clear H1
        replace H := Option.bind_eq_some_iff.mp H
        obtain ⟨t358, A100, H⟩ := H
        replace H : ((isoglosslaw06_kinds.f k t358).bind fun t359 => (some t359)) = some r := H
        have A10 := Aside0.mk A100
        clear A100
        replace H := Option.bind_eq_some_iff.mp H
        obtain ⟨t359, A110, H⟩ := H
        replace H : (some t359) = some r := H
        have A11 := Aside0.mk A110
        clear A110
        obtain rfl := Option.some.inj H
        go_enter Try.func5, Try.ntmps5
        go_wp2_with (first | ((with_reducible refine gate_callee (f := 8) rfl ?_); refine goesL_ (some 4) rfl rfl Try.func8 (by kernel_rfl) rfl #[] rfl (by (try simp only [List.map_toArray, List.map_cons, List.map_nil]); first | done | rfl | (simp only [List.length_drop, List.length_take]; rfl)) ?_; (with_reducible refine (isoglosslaw06_awake.calls k  true _ A2.out).mono ?_); rintro e w' ⟨rfl, ⟨nd, rfl⟩⟩; refine ⟨_, rfl, ?_⟩) | ((with_reducible refine gate_callee (f := 14) rfl ?_); refine goesL_ (some 6) rfl rfl Try.func14 (by kernel_rfl) rfl #[.string a0] rfl (by (try simp only [List.map_toArray, List.map_cons, List.map_nil]); first | done | rfl | (simp only [List.length_drop, List.length_take]; rfl)) ?_; (with_reducible refine (isoglosslaw06_short.calls a0 t354 _ A3.out).mono ?_); rintro e w' ⟨rfl, ⟨nd, rfl⟩⟩; refine ⟨_, rfl, ?_⟩) | (go_at_call 15; (with_reducible refine (isoglosslaw06_kinds.calls k t354 true _ A5.out).mono ?_); rintro e w12 ⟨rfl, hb⟩; have n0_ := Aside0.mk (below_step (by repeat (first | (with_reducible first | exact HB.out | apply below_alloc | apply pw_below_drewN | apply below_drew1) | exact HB.out)) hb); clear HB; have HB := n0_; clear n0_; (try clear hb); (try clear hb2); (try clear hk); (try clear hi)) | (go_at_call 16; (with_reducible refine (isoglossref02_Upper.calls k t354 t356 _ A7.out).mono ?_); rintro e w13 ⟨rfl, hb⟩; have n0_ := Aside0.mk (below_step (by repeat (first | (with_reducible first | exact HB.out | apply below_alloc | apply pw_below_drewN | apply below_drew1) | exact HB.out)) hb); clear HB; have HB := n0_; clear n0_; (try clear hb); (try clear hb2); (try clear hk); (try clear hi)) | (go_at_call 15; (with_reducible refine (isoglosslaw06_kinds.calls k t356 true _ A8.out).mono ?_); rintro e w14 ⟨rfl, hb⟩; have n0_ := Aside0.mk (below_step (by repeat (first | (with_reducible first | exact HB.out | apply below_alloc | apply pw_below_drewN | apply below_drew1) | exact HB.out)) hb); clear HB; have HB := n0_; clear n0_; (try clear hb); (try clear hb2); (try clear hk); (try clear hi)) | (go_at_call 17; (with_reducible refine (isoglossref02_Lower.calls k t354 t358 _ A10.out).mono ?_); rintro e w15 ⟨rfl, hb⟩; have n0_ := Aside0.mk (below_step (by repeat (first | (with_reducible first | exact HB.out | apply below_alloc | apply pw_below_drewN | apply below_drew1) | exact HB.out)) hb); clear HB; have HB := n0_; clear n0_; (try clear hb); (try clear hb2); (try clear hk); (try clear hi)) | (go_at_call 15; (with_reducible refine (isoglosslaw06_kinds.calls k t358 t359 _ A11.out).mono ?_); rintro e w16 ⟨rfl, hb⟩; have n0_ := Aside0.mk (below_step (by repeat (first | (with_reducible first | exact HB.out | apply below_alloc | apply pw_below_drewN | apply below_drew1) | exact HB.out)) hb); clear HB; have HB := n0_; clear n0_; (try clear hb); (try clear hb2); (try clear hk); (try clear hi)))
        go_ret
        exact ⟨by first | rfl | (simp [errW_none, errW_some] <;> rfl) | (simp [*, errW_none, errW_some] <;> rfl), by repeat (first | (with_reducible first | exact HB.out | apply below_alloc | apply pw_below_drewN | apply below_drew1) | exact HB.out)⟩
      · replace c9 := Bool.eq_false_iff.mpr c9
        subst c9
        have H1 : (some false) = some r := by rw [if_neg (show ¬ (false = true) by decide)] at H; exact H
        clear H
        have H := H1
        clear H1
        obtain rfl := Option.some.inj H
        go_enter Try.func5, Try.ntmps5
        go_wp2_with (first | ((with_reducible refine gate_callee (f := 8) rfl ?_); refine goesL_ (some 4) rfl rfl Try.func8 (by kernel_rfl) rfl #[] rfl (by (try simp only [List.map_toArray, List.map_cons, List.map_nil]); first | done | rfl | (simp only [List.length_drop, List.length_take]; rfl)) ?_; (with_reducible refine (isoglosslaw06_awake.calls k  true _ A2.out).mono ?_); rintro e w' ⟨rfl, ⟨nd, rfl⟩⟩; refine ⟨_, rfl, ?_⟩) | ((with_reducible refine gate_callee (f := 14) rfl ?_); refine goesL_ (some 6) rfl rfl Try.func14 (by kernel_rfl) rfl #[.string a0] rfl (by (try simp only [List.map_toArray, List.map_cons, List.map_nil]); first | done | rfl | (simp only [List.length_drop, List.length_take]; rfl)) ?_; (with_reducible refine (isoglosslaw06_short.calls a0 t354 _ A3.out).mono ?_); rintro e w' ⟨rfl, ⟨nd, rfl⟩⟩; refine ⟨_, rfl, ?_⟩) | (go_at_call 15; (with_reducible refine (isoglosslaw06_kinds.calls k t354 true _ A5.out).mono ?_); rintro e w17 ⟨rfl, hb⟩; have n0_ := Aside0.mk (below_step (by repeat (first | (with_reducible first | exact HB.out | apply below_alloc | apply pw_below_drewN | apply below_drew1) | exact HB.out)) hb); clear HB; have HB := n0_; clear n0_; (try clear hb); (try clear hb2); (try clear hk); (try clear hi)) | (go_at_call 16; (with_reducible refine (isoglossref02_Upper.calls k t354 t356 _ A7.out).mono ?_); rintro e w18 ⟨rfl, hb⟩; have n0_ := Aside0.mk (below_step (by repeat (first | (with_reducible first | exact HB.out | apply below_alloc | apply pw_below_drewN | apply below_drew1) | exact HB.out)) hb); clear HB; have HB := n0_; clear n0_; (try clear hb); (try clear hb2); (try clear hk); (try clear hi)) | (go_at_call 15; (with_reducible refine (isoglosslaw06_kinds.calls k t356 false _ A8.out).mono ?_); rintro e w19 ⟨rfl, hb⟩; have n0_ := Aside0.mk (below_step (by repeat (first | (with_reducible first | exact HB.out | apply below_alloc | apply pw_below_drewN | apply below_drew1) | exact HB.out)) hb); clear HB; have HB := n0_; clear n0_; (try clear hb); (try clear hb2); (try clear hk); (try clear hi)))
        go_ret
        exact ⟨by first | rfl | (simp [errW_none, errW_some] <;> rfl) | (simp [*, errW_none, errW_some] <;> rfl), by repeat (first | (with_reducible first | exact HB.out | apply below_alloc | apply pw_below_drewN | apply below_drew1) | exact HB.out)⟩
    · replace c6 := Bool.eq_false_iff.mpr c6
      subst c6
      have H1 : (some false) = some r := by rw [if_neg (show ¬ (false = true) by decide)] at H; exact H
      clear H
      have H := H1
      clear H1
      obtain rfl := Option.some.inj H
      go_enter Try.func5, Try.ntmps5
      go_wp2_with (first | ((with_reducible refine gate_callee (f := 8) rfl ?_); refine goesL_ (some 4) rfl rfl Try.func8 (by kernel_rfl) rfl #[] rfl (by (try simp only [List.map_toArray, List.map_cons, List.map_nil]); first | done | rfl | (simp only [List.length_drop, List.length_take]; rfl)) ?_; (with_reducible refine (isoglosslaw06_awake.calls k  true _ A2.out).mono ?_); rintro e w' ⟨rfl, ⟨nd, rfl⟩⟩; refine ⟨_, rfl, ?_⟩) | ((with_reducible refine gate_callee (f := 14) rfl ?_); refine goesL_ (some 6) rfl rfl Try.func14 (by kernel_rfl) rfl #[.string a0] rfl (by (try simp only [List.map_toArray, List.map_cons, List.map_nil]); first | done | rfl | (simp only [List.length_drop, List.length_take]; rfl)) ?_; (with_reducible refine (isoglosslaw06_short.calls a0 t354 _ A3.out).mono ?_); rintro e w' ⟨rfl, ⟨nd, rfl⟩⟩; refine ⟨_, rfl, ?_⟩) | (go_at_call 15; (with_reducible refine (isoglosslaw06_kinds.calls k t354 false _ A5.out).mono ?_); rintro e w20 ⟨rfl, hb⟩; have n0_ := Aside0.mk (below_step (by repeat (first | (with_reducible first | exact HB.out | apply below_alloc | apply pw_below_drewN | apply below_drew1) | exact HB.out)) hb); clear HB; have HB := n0_; clear n0_; (try clear hb); (try clear hb2); (try clear hk); (try clear hi)))
      go_ret
      exact ⟨by first | rfl | (simp [errW_none, errW_some] <;> rfl) | (simp [*, errW_none, errW_some] <;> rfl), by repeat (first | (with_reducible first | exact HB.out | apply below_alloc | apply pw_below_drewN | apply below_drew1) | exact HB.out)⟩
  · replace c4 := Bool.eq_false_iff.mpr c4
    subst c4
    have H1 : (some false) = some r := by rw [if_neg (show ¬ (false = true) by decide)] at H; exact H
    clear H
    have H := H1
    clear H1
    obtain rfl := Option.some.inj H
    go_enter Try.func5, Try.ntmps5
    go_wp2_with (first | ((with_reducible refine gate_callee (f := 8) rfl ?_); refine goesL_ (some 4) rfl rfl Try.func8 (by kernel_rfl) rfl #[] rfl (by (try simp only [List.map_toArray, List.map_cons, List.map_nil]); first | done | rfl | (simp only [List.length_drop, List.length_take]; rfl)) ?_; (with_reducible refine (isoglosslaw06_awake.calls k  false _ A2.out).mono ?_); rintro e w' ⟨rfl, ⟨nd, rfl⟩⟩; refine ⟨_, rfl, ?_⟩) | ((with_reducible refine gate_callee (f := 14) rfl ?_); refine goesL_ (some 6) rfl rfl Try.func14 (by kernel_rfl) rfl #[.string a0] rfl (by (try simp only [List.map_toArray, List.map_cons, List.map_nil]); first | done | rfl | (simp only [List.length_drop, List.length_take]; rfl)) ?_; (with_reducible refine (isoglosslaw06_short.calls a0 t354 _ A3.out).mono ?_); rintro e w' ⟨rfl, ⟨nd, rfl⟩⟩; refine ⟨_, rfl, ?_⟩))
    go_ret
    exact ⟨by first | rfl | (simp [errW_none, errW_some] <;> rfl) | (simp [*, errW_none, errW_some] <;> rfl), by repeat (first | (with_reducible first | exact HB.out | apply below_alloc | apply pw_below_drewN | apply below_drew1) | exact HB.out)⟩

/-- THE ONE PURE STATEMENT of isoglosslaw06_TagKinds: yours. -/
def isoglosslaw06_TagKinds.Pure : Prop := ∀ (a0 : ByteArray), a0.size ≤ 140737488351232 → ∃ k, isoglosslaw06_TagKinds.f k a0 = some true
theorem isoglosslaw06_TagKinds.walk (P : isoglosslaw06_TagKinds.Pure) (a0 : ByteArray) (w : World) (w0 : a0.size ≤ 140737488351232) :
    Calls Try.prog 5 #[.string a0] w fun e w' => e = .returned (.bool true) ∧ Below w.heap.size w w' := by
  obtain ⟨k, h⟩ := P a0 w0
  refine (isoglosslaw06_TagKinds.calls k a0 true w h).mono ?_
  rintro e w' ⟨rfl, hd⟩
  exact ⟨rfl, hd⟩

/-! ### isoglossref04_Sub: function 23 -/
def isoglossref04_Sub.f (k : Nat) (a0 : ByteArray) : Option (Bool) := if (a0.size : Int) ≤ 8 then ((isoglossref02_Class.f k a0).bind fun t360 => (some (decide (t360 > 0)))) else (some false)
theorem isoglossref04_Sub.mono : ∀ a0 k, LeO (isoglossref04_Sub.f k a0) (isoglossref04_Sub.f (k + 1) a0) := by
  intro a0 k
  unfold isoglossref04_Sub.f
  repeat' first
      | (with_reducible exact isoglossref02_Class.mono _ _)
      | (with_reducible exact LeO.refl _)
      | (with_reducible exact LeO.none _)
      | (with_reducible refine LeO.ite ?_ ?_)
      | (with_reducible refine LeO.bind ?_ (fun _ => ?_))
      | exact isoglossref02_Class.mono _ _
      | exact LeO.none _
      | refine LeO.ite ?_ ?_
      | refine LeO.bind ?_ (fun _ => ?_)
set_option maxHeartbeats 8000000 in
set_option maxRecDepth 100000 in
theorem isoglossref04_Sub.calls (k : Nat) (a0 : ByteArray) (r : Bool) (w : World) (h : isoglossref04_Sub.f k a0 = some r) :
    Calls Try.prog 23 #[.string a0] w fun e w' => e = .returned (.bool r) ∧ Drawn0 w w' := by
  have H : (if (a0.size : Int) ≤ 8 then ((isoglossref02_Class.f k a0).bind fun t360 => (some (decide (t360 > 0)))) else (some false)) = some r := h
  clear h
  by_cases c2 : (a0.size : Int) ≤ 8
  · rw [if_pos c2] at H
    have c2b0 : decide ((a0.size : Int) ≤ 8) = true := decide_eq_true c2
    have c2b1 : decide (a0.size ≤ 8) = true := decide_eq_true (by omega)
    clear c2
    replace H := Option.bind_eq_some_iff.mp H
    obtain ⟨t360, A30, H⟩ := H
    replace H : (some (decide (t360 > 0))) = some r := H
    have A3 := Aside0.mk A30
    clear A30
    obtain rfl := Option.some.inj H
    go_enter Try.func23, Try.ntmps23
    go_wp2_with (first | (go_at_call 21; (with_reducible refine (isoglossref02_Class.calls k a0 t360 _ A3.out).mono ?_); rintro e w' ⟨rfl, ⟨nd, rfl⟩⟩))
    go_ret
    exact ⟨by first | rfl | (simp; done) | (simp [*]; done), by repeat (first | exact Drawn0.refl _ | apply Drawn0.step)⟩
  · rw [if_neg c2] at H
    have c2b0 : decide ((a0.size : Int) ≤ 8) = false := decide_eq_false c2
    have c2b1 : decide (a0.size ≤ 8) = false := decide_eq_false (by omega)
    clear c2
    obtain rfl := Option.some.inj H
    go_enter Try.func23, Try.ntmps23
    go_wp2
    go_ret
    exact ⟨by first | rfl | (simp; done) | (simp [*]; done), by repeat (first | exact Drawn0.refl _ | apply Drawn0.step)⟩

end Go.Proofs.Ytljadeeoaoiilaa.P
