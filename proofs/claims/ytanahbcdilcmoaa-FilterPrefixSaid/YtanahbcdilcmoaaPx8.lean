-- Written for this claim by the session's own run of the print, functions proved by hand put in.
import Derived.Test.YtanahbcdilcmoaaPx0
import Derived.Test.YtanahbcdilcmoaaPx3
import Derived.Test.YtanahbcdilcmoaaPx6
namespace Go.Proofs.Ytanahbcdilcmoaa.P
open Go.RowKit Go.Proofs.YtanahbcdilcmoaaW.PrintWords Go.Proofs.YtanahbcdilcmoaaW.PrintLast Go.Proofs.YtanahbcdilcmoaaW.PrintMore
attribute [local go_sem] max2_int min2_int max_two min_two max_three min_three max_four min_four   -- for this text's walks alone
set_option linter.unusedVariables false
set_option linter.unusedSimpArgs false

/-! ### isoglosslaw20_FilterPrefix: function 6 -/
mutual
def isoglosslaw20_FilterPrefix.j0 : Nat → ByteArray → ByteArray → Bool → Bool → Bool → Option (Bool)
  | 0, _, _, _, _, _ => none
  | k + 1, x0, x1, x5, x6, x30 => if x30 = true then (some false) else (if x6 = true then (if x0.toList = ([42] : List UInt8) then (isoglosslaw20_FilterPrefix.j1 k x0 x1 x5 x6 false) else (if x1.toList = ([] : List UInt8) then (isoglosslaw20_FilterPrefix.j1 k x0 x1 x5 x6 false) else (if 0 < (x1.size : Int) then (if (bt x1 0) = 45 then (isoglosslaw20_FilterPrefix.j1 k x0 x1 x5 x6 false) else (if x0.size + x1.size ≤ 9223372036854775807 then ((filter_Matches.f k x0 (x0 ++ x1)).bind fun t302 => (isoglosslaw20_FilterPrefix.j1 k x0 x1 x5 x6 t302)) else (none))) else (none)))) else (isoglosslaw20_FilterPrefix.j1 k x0 x1 x5 x6 false))
def isoglosslaw20_FilterPrefix.j1 : Nat → ByteArray → ByteArray → Bool → Bool → Bool → Option (Bool)
  | 0, _, _, _, _, _ => none
  | k + 1, x0, x1, x5, x6, x51 => if x51 = true then (some false) else ((isoglossref04_Split.f k x0).bind fun t303 => (isoglosslaw20_FilterPrefix.l0 k x0 x1 x5 x6 t303 1))
def isoglosslaw20_FilterPrefix.l0 : Nat → ByteArray → ByteArray → Bool → Bool → List ByteArray → Int → Option (Bool)
  | 0, _, _, _, _, _, _ => none
  | k + 1, x0, x1, x5, x6, x7, x8 => if x8 < (x7.length : Int) then (if x6 = true then (if 0 ≤ x8 then (if x8 ≤ (x7.length : Int) then ((isoglossref04_Join.f k (x7.take (x8 : Int).toNat)).bind fun t310 => (if x0.size + 1 ≤ 9223372036854775807 then (if (x0 ++ (⟨#[45]⟩ : ByteArray)).size + x1.size ≤ 9223372036854775807 then ((filter_Matches.f k t310 ((x0 ++ (⟨#[45]⟩ : ByteArray)) ++ x1)).bind fun t311 => (if t311 = true then (isoglosslaw20_FilterPrefix.l0 k x0 x1 x5 x6 x7 (wrap64 (x8 + 1))) else (some false))) else (none)) else (none))) else (none)) else (none)) else (isoglosslaw20_FilterPrefix.l0 k x0 x1 x5 x6 x7 (wrap64 (x8 + 1)))) else (some x5)
end
def isoglosslaw20_FilterPrefix.f (k : Nat) (a0 : ByteArray) (a1 : ByteArray) : Option (Bool) := (isoglosslaw20_awake.f k).bind fun t296 => ((isoglosslaw20_short.f a0).bind fun t297 => ((isoglosslaw20_short.f a1).bind fun t298 => ((filter_Basic.f k t297).bind fun t299 => ((filter_Matches.f k t297 t297).bind fun t300 => (if (t300 != t299) = true then (isoglosslaw20_FilterPrefix.j0 k t297 t298 t296 t299 true) else (if t297.size + 1 ≤ 9223372036854775807 then (if (t297 ++ (⟨#[45]⟩ : ByteArray)).size + t298.size ≤ 9223372036854775807 then ((filter_Matches.f k t297 ((t297 ++ (⟨#[45]⟩ : ByteArray)) ++ t298)).bind fun t301 => (isoglosslaw20_FilterPrefix.j0 k t297 t298 t296 t299 (t301 != t299))) else (none)) else (none)))))))
theorem isoglosslaw20_FilterPrefix.mono_l : ∀ k, (∀ y0 y1 y2 y3 y4, LeO (isoglosslaw20_FilterPrefix.j0 k y0 y1 y2 y3 y4) (isoglosslaw20_FilterPrefix.j0 (k + 1) y0 y1 y2 y3 y4)) ∧ (∀ y0 y1 y2 y3 y4, LeO (isoglosslaw20_FilterPrefix.j1 k y0 y1 y2 y3 y4) (isoglosslaw20_FilterPrefix.j1 (k + 1) y0 y1 y2 y3 y4)) ∧ (∀ y0 y1 y2 y3 y4 y5, LeO (isoglosslaw20_FilterPrefix.l0 k y0 y1 y2 y3 y4 y5) (isoglosslaw20_FilterPrefix.l0 (k + 1) y0 y1 y2 y3 y4 y5))
  | 0 => ⟨fun _ _ _ _ _ r h => by simp [isoglosslaw20_FilterPrefix.j0] at h, fun _ _ _ _ _ r h => by simp [isoglosslaw20_FilterPrefix.j1] at h, fun _ _ _ _ _ _ r h => by simp [isoglosslaw20_FilterPrefix.l0] at h⟩
  | k + 1 => by
    obtain ⟨ih0, ih1, ih2⟩ := isoglosslaw20_FilterPrefix.mono_l k
    refine ⟨?_, ?_, ?_⟩
    · intro y0 y1 y2 y3 y4
      unfold isoglosslaw20_FilterPrefix.j0
      repeat' first
      | (with_reducible exact ih0 _ _ _ _ _)
      | (with_reducible exact ih1 _ _ _ _ _)
      | (with_reducible exact ih2 _ _ _ _ _ _)
      | (with_reducible exact filter_Basic.mono _ _)
      | (with_reducible exact filter_Matches.mono _ _ _)
      | (with_reducible exact isoglosslaw20_awake.mono _)
      | (with_reducible exact isoglossref04_Join.mono _ _)
      | (with_reducible exact isoglossref04_Split.mono _ _)
      | (with_reducible exact LeO.refl _)
      | (with_reducible exact LeO.none _)
      | (with_reducible refine LeO.ite ?_ ?_)
      | (with_reducible refine LeO.bind ?_ (fun _ => ?_))
      | exact ih0 _ _ _ _ _
      | exact ih1 _ _ _ _ _
      | exact ih2 _ _ _ _ _ _
      | exact filter_Basic.mono _ _
      | exact filter_Matches.mono _ _ _
      | exact isoglosslaw20_awake.mono _
      | exact isoglossref04_Join.mono _ _
      | exact isoglossref04_Split.mono _ _
      | exact LeO.none _
      | refine LeO.ite ?_ ?_
      | refine LeO.bind ?_ (fun _ => ?_)
    · intro y0 y1 y2 y3 y4
      unfold isoglosslaw20_FilterPrefix.j1
      repeat' first
      | (with_reducible exact ih0 _ _ _ _ _)
      | (with_reducible exact ih1 _ _ _ _ _)
      | (with_reducible exact ih2 _ _ _ _ _ _)
      | (with_reducible exact filter_Basic.mono _ _)
      | (with_reducible exact filter_Matches.mono _ _ _)
      | (with_reducible exact isoglosslaw20_awake.mono _)
      | (with_reducible exact isoglossref04_Join.mono _ _)
      | (with_reducible exact isoglossref04_Split.mono _ _)
      | (with_reducible exact LeO.refl _)
      | (with_reducible exact LeO.none _)
      | (with_reducible refine LeO.ite ?_ ?_)
      | (with_reducible refine LeO.bind ?_ (fun _ => ?_))
      | exact ih0 _ _ _ _ _
      | exact ih1 _ _ _ _ _
      | exact ih2 _ _ _ _ _ _
      | exact filter_Basic.mono _ _
      | exact filter_Matches.mono _ _ _
      | exact isoglosslaw20_awake.mono _
      | exact isoglossref04_Join.mono _ _
      | exact isoglossref04_Split.mono _ _
      | exact LeO.none _
      | refine LeO.ite ?_ ?_
      | refine LeO.bind ?_ (fun _ => ?_)
    · intro y0 y1 y2 y3 y4 y5
      unfold isoglosslaw20_FilterPrefix.l0
      repeat' first
      | (with_reducible exact ih0 _ _ _ _ _)
      | (with_reducible exact ih1 _ _ _ _ _)
      | (with_reducible exact ih2 _ _ _ _ _ _)
      | (with_reducible exact filter_Basic.mono _ _)
      | (with_reducible exact filter_Matches.mono _ _ _)
      | (with_reducible exact isoglosslaw20_awake.mono _)
      | (with_reducible exact isoglossref04_Join.mono _ _)
      | (with_reducible exact isoglossref04_Split.mono _ _)
      | (with_reducible exact LeO.refl _)
      | (with_reducible exact LeO.none _)
      | (with_reducible refine LeO.ite ?_ ?_)
      | (with_reducible refine LeO.bind ?_ (fun _ => ?_))
      | exact ih0 _ _ _ _ _
      | exact ih1 _ _ _ _ _
      | exact ih2 _ _ _ _ _ _
      | exact filter_Basic.mono _ _
      | exact filter_Matches.mono _ _ _
      | exact isoglosslaw20_awake.mono _
      | exact isoglossref04_Join.mono _ _
      | exact isoglossref04_Split.mono _ _
      | exact LeO.none _
      | refine LeO.ite ?_ ?_
      | refine LeO.bind ?_ (fun _ => ?_)
theorem isoglosslaw20_FilterPrefix.mono : ∀ a0 a1 k, LeO (isoglosslaw20_FilterPrefix.f k a0 a1) (isoglosslaw20_FilterPrefix.f (k + 1) a0 a1) := by
  intro a0 a1 k
  obtain ⟨ih0, ih1, ih2⟩ := isoglosslaw20_FilterPrefix.mono_l k
  unfold isoglosslaw20_FilterPrefix.f
  repeat' first
      | (with_reducible exact ih0 _ _ _ _ _)
      | (with_reducible exact ih1 _ _ _ _ _)
      | (with_reducible exact ih2 _ _ _ _ _ _)
      | (with_reducible exact filter_Basic.mono _ _)
      | (with_reducible exact filter_Matches.mono _ _ _)
      | (with_reducible exact isoglosslaw20_awake.mono _)
      | (with_reducible exact isoglossref04_Join.mono _ _)
      | (with_reducible exact isoglossref04_Split.mono _ _)
      | (with_reducible exact LeO.refl _)
      | (with_reducible exact LeO.none _)
      | (with_reducible refine LeO.ite ?_ ?_)
      | (with_reducible refine LeO.bind ?_ (fun _ => ?_))
      | exact ih0 _ _ _ _ _
      | exact ih1 _ _ _ _ _
      | exact ih2 _ _ _ _ _ _
      | exact filter_Basic.mono _ _
      | exact filter_Matches.mono _ _ _
      | exact isoglosslaw20_awake.mono _
      | exact isoglossref04_Join.mono _ _
      | exact isoglossref04_Split.mono _ _
      | exact LeO.none _
      | refine LeO.ite ?_ ?_
      | refine LeO.bind ?_ (fun _ => ?_)
set_option maxHeartbeats 8000000 in
set_option maxRecDepth 100000 in
theorem isoglosslaw20_FilterPrefix.calls (k : Nat) (a0 : ByteArray) (a1 : ByteArray) (r : Bool) (w : World) (h : isoglosslaw20_FilterPrefix.f k a0 a1 = some r) :
    Calls Try.prog 6 #[.string a0, .string a1] w fun e w' => e = .returned (.bool r) ∧ Below w.heap.size w w' := by
  have HB := Aside0.mk (Below.refl w.heap.size w)
  have H : ((isoglosslaw20_awake.f k).bind fun t296 => ((isoglosslaw20_short.f a0).bind fun t297 => ((isoglosslaw20_short.f a1).bind fun t298 => ((filter_Basic.f k t297).bind fun t299 => ((filter_Matches.f k t297 t297).bind fun t300 => (if (t300 != t299) = true then (isoglosslaw20_FilterPrefix.j0 k t297 t298 t296 t299 true) else (if t297.size + 1 ≤ 9223372036854775807 then (if (t297 ++ (⟨#[45]⟩ : ByteArray)).size + t298.size ≤ 9223372036854775807 then ((filter_Matches.f k t297 ((t297 ++ (⟨#[45]⟩ : ByteArray)) ++ t298)).bind fun t301 => (isoglosslaw20_FilterPrefix.j0 k t297 t298 t296 t299 (t301 != t299))) else (none)) else (none)))))))) = some r := h
  clear h
  replace H := Option.bind_eq_some_iff.mp H
  obtain ⟨t296, A30, H⟩ := H
  replace H : ((isoglosslaw20_short.f a0).bind fun t297 => ((isoglosslaw20_short.f a1).bind fun t298 => ((filter_Basic.f k t297).bind fun t299 => ((filter_Matches.f k t297 t297).bind fun t300 => (if (t300 != t299) = true then (isoglosslaw20_FilterPrefix.j0 k t297 t298 t296 t299 true) else (if t297.size + 1 ≤ 9223372036854775807 then (if (t297 ++ (⟨#[45]⟩ : ByteArray)).size + t298.size ≤ 9223372036854775807 then ((filter_Matches.f k t297 ((t297 ++ (⟨#[45]⟩ : ByteArray)) ++ t298)).bind fun t301 => (isoglosslaw20_FilterPrefix.j0 k t297 t298 t296 t299 (t301 != t299))) else (none)) else (none))))))) = some r := H
  have A3 := Aside0.mk A30
  clear A30
  replace H := Option.bind_eq_some_iff.mp H
  obtain ⟨t297, A40, H⟩ := H
  replace H : ((isoglosslaw20_short.f a1).bind fun t298 => ((filter_Basic.f k t297).bind fun t299 => ((filter_Matches.f k t297 t297).bind fun t300 => (if (t300 != t299) = true then (isoglosslaw20_FilterPrefix.j0 k t297 t298 t296 t299 true) else (if t297.size + 1 ≤ 9223372036854775807 then (if (t297 ++ (⟨#[45]⟩ : ByteArray)).size + t298.size ≤ 9223372036854775807 then ((filter_Matches.f k t297 ((t297 ++ (⟨#[45]⟩ : ByteArray)) ++ t298)).bind fun t301 => (isoglosslaw20_FilterPrefix.j0 k t297 t298 t296 t299 (t301 != t299))) else (none)) else (none)))))) = some r := H
  have A4 := Aside0.mk A40
  clear A40
  replace H := Option.bind_eq_some_iff.mp H
  obtain ⟨t298, A50, H⟩ := H
  replace H : ((filter_Basic.f k t297).bind fun t299 => ((filter_Matches.f k t297 t297).bind fun t300 => (if (t300 != t299) = true then (isoglosslaw20_FilterPrefix.j0 k t297 t298 t296 t299 true) else (if t297.size + 1 ≤ 9223372036854775807 then (if (t297 ++ (⟨#[45]⟩ : ByteArray)).size + t298.size ≤ 9223372036854775807 then ((filter_Matches.f k t297 ((t297 ++ (⟨#[45]⟩ : ByteArray)) ++ t298)).bind fun t301 => (isoglosslaw20_FilterPrefix.j0 k t297 t298 t296 t299 (t301 != t299))) else (none)) else (none))))) = some r := H
  have A5 := Aside0.mk A50
  clear A50
  replace H := Option.bind_eq_some_iff.mp H
  obtain ⟨t299, A60, H⟩ := H
  replace H : ((filter_Matches.f k t297 t297).bind fun t300 => (if (t300 != t299) = true then (isoglosslaw20_FilterPrefix.j0 k t297 t298 t296 t299 true) else (if t297.size + 1 ≤ 9223372036854775807 then (if (t297 ++ (⟨#[45]⟩ : ByteArray)).size + t298.size ≤ 9223372036854775807 then ((filter_Matches.f k t297 ((t297 ++ (⟨#[45]⟩ : ByteArray)) ++ t298)).bind fun t301 => (isoglosslaw20_FilterPrefix.j0 k t297 t298 t296 t299 (t301 != t299))) else (none)) else (none)))) = some r := H
  have A6 := Aside0.mk A60
  clear A60
  have HC7 := Aside0.mk H
  clear H
  go_enter Try.func6, Try.ntmps6
  go_upto_region 5 with (first | ((with_reducible refine gate_callee (f := 9) rfl ?_); refine goesL_ (some 9) rfl rfl Try.func9 (by kernel_rfl) rfl #[] rfl (by (try simp only [List.map_toArray, List.map_cons, List.map_nil]); first | done | rfl | (simp only [List.length_drop, List.length_take]; rfl)) ?_; (with_reducible refine (isoglosslaw20_awake.calls k  t296 _ A3.out).mono ?_); rintro e w8 ⟨rfl, hb⟩; refine ⟨_, rfl, ?_⟩; have n0_ := Aside0.mk (below_step (by repeat (first | (with_reducible first | exact HB.out | apply below_alloc | apply pw_below_drewN | apply below_drew1) | exact HB.out)) hb); clear HB; have HB := n0_; clear n0_; (try clear hb); (try clear hb2); (try clear hk); (try clear hi)) | ((with_reducible refine gate_callee (f := 10) rfl ?_); refine goesL_ (some 11) rfl rfl Try.func10 (by kernel_rfl) rfl #[.string a0] rfl (by (try simp only [List.map_toArray, List.map_cons, List.map_nil]); first | done | rfl | (simp only [List.length_drop, List.length_take]; rfl)) ?_; (with_reducible refine (isoglosslaw20_short.calls a0 t297 _ A4.out).mono ?_); rintro e w' ⟨rfl, ⟨nd, rfl⟩⟩; refine ⟨_, rfl, ?_⟩) | ((with_reducible refine gate_callee (f := 10) rfl ?_); refine goesL_ (some 13) rfl rfl Try.func10 (by kernel_rfl) rfl #[.string a1] rfl (by (try simp only [List.map_toArray, List.map_cons, List.map_nil]); first | done | rfl | (simp only [List.length_drop, List.length_take]; rfl)) ?_; (with_reducible refine (isoglosslaw20_short.calls a1 t298 _ A5.out).mono ?_); rintro e w' ⟨rfl, ⟨nd, rfl⟩⟩; refine ⟨_, rfl, ?_⟩) | ((with_reducible refine gate_callee (f := 18) rfl ?_); refine goesL_ (some 15) rfl rfl Try.func18 (by kernel_rfl) rfl #[.string t297] rfl (by (try simp only [List.map_toArray, List.map_cons, List.map_nil]); first | done | rfl | (simp only [List.length_drop, List.length_take]; rfl)) ?_; (with_reducible refine (filter_Basic.calls k t297 t299 _ A6.out).mono ?_); rintro e w9 ⟨rfl, hb⟩; refine ⟨_, rfl, ?_⟩; have n0_ := Aside0.mk (below_step (by repeat (first | (with_reducible first | exact HB.out | apply below_alloc | apply pw_below_drewN | apply below_drew1) | exact HB.out)) hb); clear HB; have HB := n0_; clear n0_; (try clear hb); (try clear hb2); (try clear hk); (try clear hi)))
  (try simp only [Act.put, List.setIfInBounds_toArray, List.set_cons_zero, List.set_cons_succ])
  go_cut [30] (fun v30 wc => ∃ (kq : Nat) (x30_6 : Bool), v30 = .bool x30_6 ∧ Aside0 (isoglosslaw20_FilterPrefix.j0 kq t297 t298 t296 t299 x30_6 = some r) ∧ Aside0 (kq ≤ k) ∧ Aside0 (Below w.heap.size w wc))
  case first =>
    have H := HC7.out
    clear HC7
    replace H := Option.bind_eq_some_iff.mp H
    obtain ⟨t300, A100, H⟩ := H
    replace H : (if (t300 != t299) = true then (isoglosslaw20_FilterPrefix.j0 k t297 t298 t296 t299 true) else (if t297.size + 1 ≤ 9223372036854775807 then (if (t297 ++ (⟨#[45]⟩ : ByteArray)).size + t298.size ≤ 9223372036854775807 then ((filter_Matches.f k t297 ((t297 ++ (⟨#[45]⟩ : ByteArray)) ++ t298)).bind fun t301 => (isoglosslaw20_FilterPrefix.j0 k t297 t298 t296 t299 (t301 != t299))) else (none)) else (none))) = some r := H
    have A10 := Aside0.mk A100
    clear A100
    by_cases c11 : (t300 != t299) = true
    · rw [if_pos c11] at H
      have c11b0 : (t300 != t299) = true := c11
      (try (have c11b1 : decide (t300 = t299) = false := by simpa using c11))
      (try (have c11b2 : (t300 == t299) = false := by simpa using c11))
      (try (have c11b3 : ¬ (t300 = t299) := by simpa using c11))
      clear c11
      (first | rw [c11b0] | rw [c11b1] | (simp only [i64_w, i32_w]; rw [c11b0]) | skip)
      have H' := Aside0.mk H
      clear H
      go_wp2_with (first | ((with_reducible refine gate_callee (f := 12) rfl ?_); refine goesL_ (some 18) rfl rfl Try.func12 (by kernel_rfl) rfl #[.string t297, .string t297] rfl (by (try simp only [List.map_toArray, List.map_cons, List.map_nil]); first | done | rfl | (simp only [List.length_drop, List.length_take]; rfl)) ?_; (with_reducible refine (filter_Matches.calls k t297 t297 t300 _ A10.out).mono ?_); rintro e w12 ⟨rfl, hb⟩; refine ⟨_, rfl, ?_⟩; have n0_ := Aside0.mk (below_step (by repeat (first | (with_reducible first | exact HB.out | apply below_alloc | apply pw_below_drewN | apply below_drew1) | exact HB.out)) hb); clear HB; have HB := n0_; clear n0_; (try clear hb); (try clear hb2); (try clear hk); (try clear hi)))
      go_meet
      case rel => exact ⟨_, (true), (by first | rfl | (simp; done) | (simp [*]; done)), H', ⟨by first | omega | exact Nat.le_refl _⟩, ⟨by repeat (first | (with_reducible first | exact HB.out | apply below_alloc | apply pw_below_drewN | apply below_drew1) | exact HB.out)⟩⟩
    · rw [if_neg c11] at H
      have c11b0 : (t300 != t299) = false := by simpa using c11
      (try (have c11b1 : decide (t300 = t299) = true := by simpa using c11))
      (try (have c11b2 : (t300 == t299) = true := by simpa using c11))
      clear c11
      (first | rw [c11b0] | rw [c11b1] | (simp only [i64_w, i32_w]; rw [c11b0]) | skip)
      by_cases c13 : t297.size + 1 ≤ 9223372036854775807
      · rw [if_pos c13] at H
        have c13b0 := eq_true c13
        have c13b1 : decide (t297.size + 1 ≤ 9223372036854775807) = true := decide_eq_true c13
        try have c13b2 : (9223372036854775807 < t297.size + 1) = False := eq_false (Nat.not_lt.2 c13)
        by_cases c14 : (t297 ++ (⟨#[45]⟩ : ByteArray)).size + t298.size ≤ 9223372036854775807
        · rw [if_pos c14] at H
          have c14b0 := eq_true c14
          have c14b1 : decide ((t297 ++ (⟨#[45]⟩ : ByteArray)).size + t298.size ≤ 9223372036854775807) = true := decide_eq_true c14
          try have c14b2 : (9223372036854775807 < (t297 ++ (⟨#[45]⟩ : ByteArray)).size + t298.size) = False := eq_false (Nat.not_lt.2 c14)
          replace H := Option.bind_eq_some_iff.mp H
          obtain ⟨t301, A150, H⟩ := H
          replace H : (isoglosslaw20_FilterPrefix.j0 k t297 t298 t296 t299 (t301 != t299)) = some r := H
          have A15 := Aside0.mk A150
          clear A150
          have H' := Aside0.mk H
          clear H
          go_wp2_with (first | ((with_reducible refine gate_callee (f := 12) rfl ?_); refine goesL_ (some 18) rfl rfl Try.func12 (by kernel_rfl) rfl #[.string t297, .string t297] rfl (by (try simp only [List.map_toArray, List.map_cons, List.map_nil]); first | done | rfl | (simp only [List.length_drop, List.length_take]; rfl)) ?_; (with_reducible refine (filter_Matches.calls k t297 t297 t300 _ A10.out).mono ?_); rintro e w16 ⟨rfl, hb⟩; refine ⟨_, rfl, ?_⟩; have n0_ := Aside0.mk (below_step (by repeat (first | (with_reducible first | exact HB.out | apply below_alloc | apply pw_below_drewN | apply below_drew1) | exact HB.out)) hb); clear HB; have HB := n0_; clear n0_; (try clear hb); (try clear hb2); (try clear hk); (try clear hi)) | (go_at_call 12; (with_reducible refine (filter_Matches.calls k t297 ((t297 ++ (⟨#[45]⟩ : ByteArray)) ++ t298) t301 _ A15.out).mono ?_); rintro e w17 ⟨rfl, hb⟩; have n0_ := Aside0.mk (below_step (by repeat (first | (with_reducible first | exact HB.out | apply below_alloc | apply pw_below_drewN | apply below_drew1) | exact HB.out)) hb); clear HB; have HB := n0_; clear n0_; (try clear hb); (try clear hb2); (try clear hk); (try clear hi)))
          go_meet
          case rel => exact ⟨_, ((t301 != t299)), (by first | rfl | (simp; done) | (simp [*]; done)), H', ⟨by first | omega | exact Nat.le_refl _⟩, ⟨by repeat (first | (with_reducible first | exact HB.out | apply below_alloc | apply pw_below_drewN | apply below_drew1) | exact HB.out)⟩⟩
        · rw [if_neg c14] at H
          exact absurd H (by simp)
      · rw [if_neg c13] at H
        exact absurd H (by simp)
  case rest =>
    clear HC7
    try clear c1
    try clear p2
    try clear c6
    try clear c9
    try clear c10
    try clear c11
    try clear c11b0
    try clear c11b1
    try clear c11b2
    try clear c12
    try clear c13
    try clear c13b0
    try clear c13b1
    try clear c13b2
    try clear c14
    try clear c14b0
    try clear c14b1
    try clear c14b2
    obtain ⟨kq, x30_6, rfl, HA, HJ6, HB⟩ := hcut
    cases kq with
    | zero => exact absurd HA.out (by simp [isoglosslaw20_FilterPrefix.j0])
    | succ kj6 =>
      have H := HA.out
      clear HA
      simp only [isoglosslaw20_FilterPrefix.j0] at H
      by_cases c18 : x30_6 = true
      · subst c18
        have H1 : (some false) = some r := by rw [if_pos rfl] at H; exact H
        clear H
        have H := H1
        clear H1
        obtain rfl := Option.some.inj H
        go_wp2
        go_ret
        exact ⟨by first | rfl | (simp [errW_none, errW_some] <;> rfl) | (simp [*, errW_none, errW_some] <;> rfl), by repeat (first | (with_reducible first | exact HB.out | apply below_alloc | apply pw_below_drewN | apply below_drew1) | exact HB.out)⟩
      · replace c18 := Bool.eq_false_iff.mpr c18
        subst c18
        have H1 : (if t299 = true then (if t297.toList = ([42] : List UInt8) then (isoglosslaw20_FilterPrefix.j1 kj6 t297 t298 t296 t299 false) else (if t298.toList = ([] : List UInt8) then (isoglosslaw20_FilterPrefix.j1 kj6 t297 t298 t296 t299 false) else (if 0 < (t298.size : Int) then (if (bt t298 0) = 45 then (isoglosslaw20_FilterPrefix.j1 kj6 t297 t298 t296 t299 false) else (if t297.size + t298.size ≤ 9223372036854775807 then ((filter_Matches.f kj6 t297 (t297 ++ t298)).bind fun t302 => (isoglosslaw20_FilterPrefix.j1 kj6 t297 t298 t296 t299 t302)) else (none))) else (none)))) else (isoglosslaw20_FilterPrefix.j1 kj6 t297 t298 t296 t299 false)) = some r := by rw [if_neg (show ¬ (false = true) by decide)] at H; exact H
        clear H
        have H := H1
        clear H1
        have HC19 := Aside0.mk H
        clear H
        go_upto_region 7 with (fail)
        go_cut [51] (fun v51 wc => ∃ (kq : Nat) (x51_18 : Bool), v51 = .bool x51_18 ∧ Aside0 (isoglosslaw20_FilterPrefix.j1 kq t297 t298 t296 t299 x51_18 = some r) ∧ Aside0 (kq ≤ kj6) ∧ Aside0 (Below w.heap.size w wc))
        case first =>
          have H := HC19.out
          clear HC19
          by_cases c20 : t299 = true
          · subst c20
            have H1 : (if t297.toList = ([42] : List UInt8) then (isoglosslaw20_FilterPrefix.j1 kj6 t297 t298 t296 true false) else (if t298.toList = ([] : List UInt8) then (isoglosslaw20_FilterPrefix.j1 kj6 t297 t298 t296 true false) else (if 0 < (t298.size : Int) then (if (bt t298 0) = 45 then (isoglosslaw20_FilterPrefix.j1 kj6 t297 t298 t296 true false) else (if t297.size + t298.size ≤ 9223372036854775807 then ((filter_Matches.f kj6 t297 (t297 ++ t298)).bind fun t302 => (isoglosslaw20_FilterPrefix.j1 kj6 t297 t298 t296 true t302)) else (none))) else (none)))) = some r := by rw [if_pos rfl] at H; exact H
            clear H
            have H := H1
            clear H1
            by_cases c21 : t297.toList = ([42] : List UInt8)
            · rw [if_pos c21] at H
              have c21b0 : (t297.toList == ([42] : List UInt8)) = true := beq_iff_eq.mpr c21
              have c21b1 : (t297.toList != ([42] : List UInt8)) = false := bne_eq_false_iff_eq.mpr c21
              clear c21
              (first | rw [c21b0] | rw [c21b1] | (simp only [i64_w, i32_w]; rw [c21b0]) | skip)
              have H' := Aside0.mk H
              clear H
              go_wp2
              go_meet
              case rel => exact ⟨_, (false), (by first | rfl | (simp; done) | (simp [*]; done)), H', ⟨by have := HJ6.out; first | omega | exact Nat.le_refl _⟩, ⟨by repeat (first | (with_reducible first | exact HB.out | apply below_alloc | apply pw_below_drewN | apply below_drew1) | exact HB.out)⟩⟩
            · rw [if_neg c21] at H
              have c21b0 : (t297.toList == ([42] : List UInt8)) = false := beq_eq_false_iff_ne.mpr c21
              have c21b1 : (t297.toList != ([42] : List UInt8)) = true := bne_iff_ne.mpr c21
              (first | rw [c21b0] | rw [c21b1] | (simp only [i64_w, i32_w]; rw [c21b0]) | skip)
              by_cases c22 : t298.toList = ([] : List UInt8)
              · rw [if_pos c22] at H
                have c22b0 : (t298.toList == ([] : List UInt8)) = true := beq_iff_eq.mpr c22
                have c22e0 : t298.toList.isEmpty = true := List.isEmpty_iff.2 c22
                have c22e1 : (!t298.toList.isEmpty) = false := by rw [c22e0]; rfl
                have c22b1 : (t298.toList != ([] : List UInt8)) = false := bne_eq_false_iff_eq.mpr c22
                clear c22
                have H' := Aside0.mk H
                clear H
                go_wp2
                go_meet
                case rel => exact ⟨_, (false), (by first | rfl | (simp; done) | (simp [*]; done)), H', ⟨by have := HJ6.out; first | omega | exact Nat.le_refl _⟩, ⟨by repeat (first | (with_reducible first | exact HB.out | apply below_alloc | apply pw_below_drewN | apply below_drew1) | exact HB.out)⟩⟩
              · rw [if_neg c22] at H
                have c22b0 : (t298.toList == ([] : List UInt8)) = false := beq_eq_false_iff_ne.mpr c22
                have c22e0 : t298.toList.isEmpty = false := List.isEmpty_eq_false_iff.2 c22
                have c22e1 : (!t298.toList.isEmpty) = true := by rw [c22e0]; rfl
                have c22b1 : (t298.toList != ([] : List UInt8)) = true := bne_iff_ne.mpr c22
                by_cases c23 : 0 < (t298.size : Int)
                · rw [if_pos c23] at H
                  have c23b0 : decide (0 < (t298.size : Int)) = true := decide_eq_true c23
                  have c23b1 : decide (0 < t298.size) = true := decide_eq_true (by omega)
                  clear c23
                  by_cases c25 : (bt t298 0) = 45
                  · rw [if_pos c25] at H
                    have c25b0 : ((bt t298 0) == 45) = true := beq_iff_eq.mpr c25
                    have c25b1 : ((bt t298 0) != 45) = false := bne_eq_false_iff_eq.mpr c25
                    clear c25
                    have H' := Aside0.mk H
                    clear H
                    have p24 : 0 ≤ (0 : Int) := (by omega)
                    have q24 : 0 < t298.size := (by have : (0 : Int) < (t298.size : Int) := of_decide_eq_true (by first | (with_reducible assumption) | assumption); omega)
                    have hx24 : ∀ h : 0 < t298.size, ((t298[0]'h).toNat : Int) = bt t298 0 := bt_at t298 0
                    clear p24
                    have qi24 : (0 < (t298.size : Int)) = True := eq_true (of_decide_eq_true (by first | (with_reducible assumption) | assumption))
                    replace q24 := eq_true q24
                    go_wp2
                    go_meet
                    case rel => exact ⟨_, (false), (by first | rfl | (simp; done) | (simp [*]; done)), H', ⟨by have := HJ6.out; first | omega | exact Nat.le_refl _⟩, ⟨by repeat (first | (with_reducible first | exact HB.out | apply below_alloc | apply pw_below_drewN | apply below_drew1) | exact HB.out)⟩⟩
                  · rw [if_neg c25] at H
                    have c25b0 : ((bt t298 0) == 45) = false := beq_eq_false_iff_ne.mpr c25
                    have c25b1 : ((bt t298 0) != 45) = true := bne_iff_ne.mpr c25
                    by_cases c26 : t297.size + t298.size ≤ 9223372036854775807
                    · rw [if_pos c26] at H
                      have c26b0 := eq_true c26
                      have c26b1 : decide (t297.size + t298.size ≤ 9223372036854775807) = true := decide_eq_true c26
                      try have c26b2 : (9223372036854775807 < t297.size + t298.size) = False := eq_false (Nat.not_lt.2 c26)
                      replace H := Option.bind_eq_some_iff.mp H
                      obtain ⟨t302, A270, H⟩ := H
                      replace H : (isoglosslaw20_FilterPrefix.j1 kj6 t297 t298 t296 true t302) = some r := H
                      have A27 := Aside0.mk A270
                      clear A270
                      have H' := Aside0.mk H
                      clear H
                      have p24 : 0 ≤ (0 : Int) := (by omega)
                      have q24 : 0 < t298.size := (by have : (0 : Int) < (t298.size : Int) := of_decide_eq_true (by first | (with_reducible assumption) | assumption); omega)
                      have hx24 : ∀ h : 0 < t298.size, ((t298[0]'h).toNat : Int) = bt t298 0 := bt_at t298 0
                      clear p24
                      have qi24 : (0 < (t298.size : Int)) = True := eq_true (of_decide_eq_true (by first | (with_reducible assumption) | assumption))
                      replace q24 := eq_true q24
                      go_wp2_with (first | (go_at_call 12; (with_reducible refine (filter_Matches.calls kj6 t297 (t297 ++ t298) t302 _ A27.out).mono ?_); rintro e w28 ⟨rfl, hb⟩; have n0_ := Aside0.mk (below_step (by repeat (first | (with_reducible first | exact HB.out | apply below_alloc | apply pw_below_drewN | apply below_drew1) | exact HB.out)) hb); clear HB; have HB := n0_; clear n0_; (try clear hb); (try clear hb2); (try clear hk); (try clear hi)))
                      go_meet
                      case rel => exact ⟨_, (t302), (by first | rfl | (simp; done) | (simp [*]; done)), H', ⟨by have := HJ6.out; first | omega | exact Nat.le_refl _⟩, ⟨by repeat (first | (with_reducible first | exact HB.out | apply below_alloc | apply pw_below_drewN | apply below_drew1) | exact HB.out)⟩⟩
                    · rw [if_neg c26] at H
                      exact absurd H (by simp)
                · rw [if_neg c23] at H
                  exact absurd H (by simp)
          · replace c20 := Bool.eq_false_iff.mpr c20
            subst c20
            have H1 : (isoglosslaw20_FilterPrefix.j1 kj6 t297 t298 t296 false false) = some r := by rw [if_neg (show ¬ (false = true) by decide)] at H; exact H
            clear H
            have H := H1
            clear H1
            have H' := Aside0.mk H
            clear H
            go_wp2
            go_meet
            case rel => exact ⟨_, (false), (by first | rfl | (simp; done) | (simp [*]; done)), H', ⟨by have := HJ6.out; first | omega | exact Nat.le_refl _⟩, ⟨by repeat (first | (with_reducible first | exact HB.out | apply below_alloc | apply pw_below_drewN | apply below_drew1) | exact HB.out)⟩⟩
        case rest =>
          clear HC19
          try clear c1
          try clear c2
          try clear p2
          try clear q2
          try clear hx2
          try clear qi2
          try clear c6
          try clear c9
          try clear c10
          try clear c11
          try clear c11b0
          try clear c11b1
          try clear c11b2
          try clear c12
          try clear c13
          try clear c13b0
          try clear c13b1
          try clear c13b2
          try clear c14
          try clear c14b0
          try clear c14b1
          try clear c14b2
          try clear c18
          try clear c20
          try clear c21
          try clear c21b0
          try clear c21b1
          try clear c22
          try clear c22b0
          try clear c22b1
          try clear c23
          try clear c23b0
          try clear c23b1
          try clear p24
          try clear q24
          try clear hx24
          try clear qi24
          try clear c25
          try clear c25b0
          try clear c25b1
          try clear c26
          try clear c26b0
          try clear c26b1
          try clear c26b2
          try clear p2
          try clear p24
          try clear q24
          obtain ⟨kq, x51_18, rfl, HA, HJ18, HB⟩ := hcut
          cases kq with
          | zero => exact absurd HA.out (by simp [isoglosslaw20_FilterPrefix.j1])
          | succ kj18 =>
            have H := HA.out
            clear HA
            simp only [isoglosslaw20_FilterPrefix.j1] at H
            by_cases c29 : x51_18 = true
            · subst c29
              have H1 : (some false) = some r := by rw [if_pos rfl] at H; exact H
              clear H
              have H := H1
              clear H1
              obtain rfl := Option.some.inj H
              go_wp2
              go_ret
              exact ⟨by first | rfl | (simp [errW_none, errW_some] <;> rfl) | (simp [*, errW_none, errW_some] <;> rfl), by repeat (first | (with_reducible first | exact HB.out | apply below_alloc | apply pw_below_drewN | apply below_drew1) | exact HB.out)⟩
            · replace c29 := Bool.eq_false_iff.mpr c29
              subst c29
              have H1 : ((isoglossref04_Split.f kj18 t297).bind fun t303 => (isoglosslaw20_FilterPrefix.l0 kj18 t297 t298 t296 t299 t303 1)) = some r := by rw [if_neg (show ¬ (false = true) by decide)] at H; exact H
              clear H
              have H := H1
              clear H1
              replace H := Option.bind_eq_some_iff.mp H
              obtain ⟨t303, A300, H⟩ := H
              replace H : (isoglosslaw20_FilterPrefix.l0 kj18 t297 t298 t296 t299 t303 1) = some r := H
              have A30 := Aside0.mk A300
              clear A300
              have H' := Aside0.mk H
              clear H
              go_wp2_with (first | ((with_reducible refine gate_callee (f := 16) rfl ?_); refine goesL_ (some 53) rfl rfl Try.func16 (by kernel_rfl) rfl #[.string t297] rfl (by (try simp only [List.map_toArray, List.map_cons, List.map_nil]); first | done | rfl | (simp only [List.length_drop, List.length_take]; rfl)) ?_; (with_reducible refine (isoglossref04_Split.calls kj18 t297 t303 _ A30.out).mono ?_); rintro e w31 ⟨v304, rfl, ho0, hb⟩; refine ⟨_, rfl, ?_⟩; have n0_ := Aside0.mk (Kd.R_lower ho0 (below_size (by repeat (first | (with_reducible first | exact HB.out | apply below_alloc | apply pw_below_drewN | apply below_drew1) | exact HB.out)))); have n1_ := Aside0.mk (below_step (by repeat (first | (with_reducible first | exact HB.out | apply below_alloc | apply pw_below_drewN | apply below_drew1) | exact HB.out)) hb); clear HB; have HO305 := n0_; have HB := n1_; clear n0_ n1_; (try clear hb); (try clear hb2); (try clear hk); (try clear hi); (try clear ho0)))
              go_loopg [8] kj18 (fun kq v8 w' => ∃ (x8_3 : Int), v8 = .int .i64 x8_3 ∧ Aside0 (isoglosslaw20_FilterPrefix.l0 kq t297 t298 t296 t299 t303 x8_3 = some r) ∧ Aside0 (kq ≤ kj18) ∧ Aside0 (Kd.R Kd.string 9 w' w.heap.size (fun _ => True) v304 t303) ∧ Aside0 (Below w.heap.size w w'))
              case atStart => exact ⟨(1), (by first | rfl | (simp; done) | (simp [*]; done)), H', ⟨Nat.le_refl _⟩, ⟨by (with_reducible repeat (first | apply Kd.R_alloc | apply Kd.R_drewN | apply Kd.R_drew)); exact HO305.out⟩, ⟨by repeat (first | (with_reducible first | exact HB.out | apply below_alloc | apply pw_below_drewN | apply below_drew1) | exact HB.out)⟩⟩
              case round =>
                clear H'
                try clear c1
                try clear c2
                try clear p2
                try clear q2
                try clear hx2
                try clear qi2
                try clear c6
                try clear c9
                try clear c10
                try clear c11
                try clear c11b0
                try clear c11b1
                try clear c11b2
                try clear c12
                try clear c13
                try clear c13b0
                try clear c13b1
                try clear c13b2
                try clear c14
                try clear c14b0
                try clear c14b1
                try clear c14b2
                try clear c16
                try clear c18
                try clear c20
                try clear c21
                try clear c21b0
                try clear c21b1
                try clear c22
                try clear c22b0
                try clear c22b1
                try clear c23
                try clear c23b0
                try clear c23b1
                try clear p24
                try clear q24
                try clear hx24
                try clear qi24
                try clear c25
                try clear c25b0
                try clear c25b1
                try clear c26
                try clear c26b0
                try clear c26b1
                try clear c26b2
                try clear c29
                try clear p2
                try clear p24
                try clear q2
                try clear q24
                obtain ⟨x8_3, rfl, HA, HK3, HO_7, HB⟩ := hrel
                cases gk with
                | zero => exact absurd HA.out (by simp [isoglosslaw20_FilterPrefix.l0])
                | succ k3 =>
                  have H := HA.out
                  clear HA
                  simp only [isoglosslaw20_FilterPrefix.l0] at H
                  by_cases c32 : x8_3 < (t303.length : Int)
                  · rw [if_pos c32] at H
                    have c32b0 : decide (x8_3 < (t303.length : Int)) = true := decide_eq_true c32
                    clear c32
                    by_cases c33 : t299 = true
                    · subst c33
                      have H1 : (if 0 ≤ x8_3 then (if x8_3 ≤ (t303.length : Int) then ((isoglossref04_Join.f k3 (t303.take (x8_3 : Int).toNat)).bind fun t310 => (if t297.size + 1 ≤ 9223372036854775807 then (if (t297 ++ (⟨#[45]⟩ : ByteArray)).size + t298.size ≤ 9223372036854775807 then ((filter_Matches.f k3 t310 ((t297 ++ (⟨#[45]⟩ : ByteArray)) ++ t298)).bind fun t311 => (if t311 = true then (isoglosslaw20_FilterPrefix.l0 k3 t297 t298 t296 true t303 (wrap64 (x8_3 + 1))) else (some false))) else (none)) else (none))) else (none)) else (none)) = some r := by rw [if_pos rfl] at H; exact H
                      clear H
                      have H := H1
                      clear H1
                      by_cases c34 : 0 ≤ x8_3
                      · rw [if_pos c34] at H
                        have c34b0 := eq_true c34
                        have c34b1 : decide (0 ≤ x8_3) = true := decide_eq_true c34
                        clear c34
                        by_cases c35 : x8_3 ≤ (t303.length : Int)
                        · rw [if_pos c35] at H
                          have c35b0 := eq_true c35
                          have c35b1 : decide (x8_3 ≤ (t303.length : Int)) = true := decide_eq_true c35
                          clear c35
                          obtain ⟨y306, hy306⟩ : ∃ y_ : List ByteArray, y_ = (t303.take (x8_3 : Int).toNat) := ⟨_, rfl⟩
                          replace H : ((isoglossref04_Join.f k3 y306).bind fun t310 => (if t297.size + 1 ≤ 9223372036854775807 then (if (t297 ++ (⟨#[45]⟩ : ByteArray)).size + t298.size ≤ 9223372036854775807 then ((filter_Matches.f k3 t310 ((t297 ++ (⟨#[45]⟩ : ByteArray)) ++ t298)).bind fun t311 => (if t311 = true then (isoglosslaw20_FilterPrefix.l0 k3 t297 t298 t296 true t303 (wrap64 (x8_3 + 1))) else (some false))) else (none)) else (none))) = some r := by first | (rw [hy306]; with_reducible exact H) | (have H2_ := (Option.bind_some _ _).symm.trans H; rw [hy306]; with_reducible exact H2_) | (have H2_ := (Option.bind_some _ _).symm.trans H; with_reducible exact H2_) | with_reducible exact H | (rw [hy306]; exact H) | exact H
                          have Ny306 := Aside0.mk hy306
                          clear hy306
                          replace H := Option.bind_eq_some_iff.mp H
                          obtain ⟨t310, A360, H⟩ := H
                          replace H : (if t297.size + 1 ≤ 9223372036854775807 then (if (t297 ++ (⟨#[45]⟩ : ByteArray)).size + t298.size ≤ 9223372036854775807 then ((filter_Matches.f k3 t310 ((t297 ++ (⟨#[45]⟩ : ByteArray)) ++ t298)).bind fun t311 => (if t311 = true then (isoglosslaw20_FilterPrefix.l0 k3 t297 t298 t296 true t303 (wrap64 (x8_3 + 1))) else (some false))) else (none)) else (none)) = some r := H
                          have A36 := Aside0.mk A360
                          clear A360
                          by_cases c37 : t297.size + 1 ≤ 9223372036854775807
                          · rw [if_pos c37] at H
                            have c37b0 := eq_true c37
                            have c37b1 : decide (t297.size + 1 ≤ 9223372036854775807) = true := decide_eq_true c37
                            try have c37b2 : (9223372036854775807 < t297.size + 1) = False := eq_false (Nat.not_lt.2 c37)
                            by_cases c38 : (t297 ++ (⟨#[45]⟩ : ByteArray)).size + t298.size ≤ 9223372036854775807
                            · rw [if_pos c38] at H
                              have c38b0 := eq_true c38
                              have c38b1 : decide ((t297 ++ (⟨#[45]⟩ : ByteArray)).size + t298.size ≤ 9223372036854775807) = true := decide_eq_true c38
                              try have c38b2 : (9223372036854775807 < (t297 ++ (⟨#[45]⟩ : ByteArray)).size + t298.size) = False := eq_false (Nat.not_lt.2 c38)
                              replace H := Option.bind_eq_some_iff.mp H
                              obtain ⟨t311, A390, H⟩ := H
                              replace H : (if t311 = true then (isoglosslaw20_FilterPrefix.l0 k3 t297 t298 t296 true t303 (wrap64 (x8_3 + 1))) else (some false)) = some r := H
                              have A39 := Aside0.mk A390
                              clear A390
                              by_cases c40 : t311 = true
                              · subst c40
                                have H1 : (isoglosslaw20_FilterPrefix.l0 k3 t297 t298 t296 true t303 (wrap64 (x8_3 + 1))) = some r := by rw [if_pos rfl] at H; exact H
                                clear H
                                have H := H1
                                clear H1
                                have H' := Aside0.mk H
                                clear H
                                obtain ⟨Ao41, co41, eo41⟩ := Kd.R_slice HO_7.out
                                subst eo41
                                have q42 : (x8_3 : Int) ≤ ((t303.length : Int) : Int) := of_decide_eq_true (by first | (with_reducible assumption) | assumption)
                                obtain ⟨i042, hi042, _, hsz42, _⟩ := info_parts info9
                                have hroom42 : t303.length ≤ co41 := (Kd.R_reads' HO_7.out).2.1
                                have hC42 : Kd.C Kd.string _ Ao41 t303.length t303 := (Kd.R_reads' HO_7.out).2.2
                                have hcut42 := cut_to (P := Try.prog) 25 9 .i64 Try.underlying25 hi042 Ao41 t303.length co41 x8_3 (of_decide_eq_true (by first | (with_reducible assumption) | assumption)) q42 hroom42
                                have hr42 := Kd.C_take (m := (x8_3 : Int).toNat) hC42 (by omega)
                                have hy42 : y306.length = (x8_3 : Int).toNat := (by rw [Ny306.out, List.length_take]; omega)
                                rw [← Ny306.out] at hr42
                                rw [← hy42] at hcut42
                                have HR309 := Aside0.mk hr42
                                have HC309 := Aside0.mk (show y306.length ≤ co41 from by omega)
                                clear hr42 hC42 hroom42 hi042 hsz42
                                have KY42 := Aside0.mk hy42
                                clear hy42
                                have KL42 := Aside0.mk (show (x8_3 : Int).toNat ≤ t303.length from by omega)
                                replace q42 := eq_true q42
                                go_wp2_with (first | (go_at_call 17; (with_reducible refine (isoglossref04_Join.calls k3 _ _ y306 t310 _ ?side1 ?side2 A36.out).mono ?_); (case side1 => repeat (first | exact (by repeat (first | (with_reducible exact HR309.out) | (with_reducible refine Kd.C_alloc ?_ _) | (with_reducible refine Kd.C_drewN ?_ _) | (with_reducible refine Kd.C_drew ?_) | exact HR309.out)) | (with_reducible refine Kd.C_alloc ?_ _) | (with_reducible refine Kd.C_drewN ?_ _) | (with_reducible refine Kd.C_drew ?_))); (case side2 => exact HC309.out); rintro e w' ⟨rfl, ⟨nd, rfl⟩⟩) | (go_at_call 12; (with_reducible refine (filter_Matches.calls k3 t310 ((t297 ++ (⟨#[45]⟩ : ByteArray)) ++ t298) true _ A39.out).mono ?_); rintro e w43 ⟨rfl, hb⟩; have n0_ := Aside0.mk (Kd.R_below (by (with_reducible repeat (first | apply Kd.R_alloc | apply Kd.R_drewN | apply Kd.R_drew)); exact HO_7.out) hb); have n1_ := Aside0.mk (Kd.C_below (by repeat (first | (with_reducible exact HR309.out) | (with_reducible refine Kd.C_alloc ?_ _) | (with_reducible refine Kd.C_drewN ?_ _) | (with_reducible refine Kd.C_drew ?_) | exact HR309.out)) hb); have n2_ := Aside0.mk (below_step (by repeat (first | (with_reducible first | exact HB.out | apply below_alloc | apply pw_below_drewN | apply below_drew1) | exact HB.out)) hb); clear HO_7; clear HR309; clear HB; have HO_7 := n0_; have HR309 := n1_; have HB := n2_; clear n0_ n1_ n2_; (try clear hb); (try clear hb2); (try clear hk); (try clear hi)))
                                go_roundg k3
                                case measure => have := HJ6.out; have := HJ18.out; have := HK3.out; omega
                                case rel => exact ⟨(wrap64 (x8_3 + 1)), (by first | rfl | (simp; done) | (simp [*]; done)), H', ⟨by have := HJ6.out; have := HJ18.out; have := HK3.out; omega⟩, ⟨by (with_reducible repeat (first | apply Kd.R_alloc | apply Kd.R_drewN | apply Kd.R_drew)); exact HO_7.out⟩, ⟨by repeat (first | (with_reducible first | exact HB.out | apply below_alloc | apply pw_below_drewN | apply below_drew1) | exact HB.out)⟩⟩
                              · replace c40 := Bool.eq_false_iff.mpr c40
                                subst c40
                                have H1 : (some false) = some r := by rw [if_neg (show ¬ (false = true) by decide)] at H; exact H
                                clear H
                                have H := H1
                                clear H1
                                obtain rfl := Option.some.inj H
                                obtain ⟨Ao44, co44, eo44⟩ := Kd.R_slice HO_7.out
                                subst eo44
                                have q45 : (x8_3 : Int) ≤ ((t303.length : Int) : Int) := of_decide_eq_true (by first | (with_reducible assumption) | assumption)
                                obtain ⟨i045, hi045, _, hsz45, _⟩ := info_parts info9
                                have hroom45 : t303.length ≤ co44 := (Kd.R_reads' HO_7.out).2.1
                                have hC45 : Kd.C Kd.string _ Ao44 t303.length t303 := (Kd.R_reads' HO_7.out).2.2
                                have hcut45 := cut_to (P := Try.prog) 25 9 .i64 Try.underlying25 hi045 Ao44 t303.length co44 x8_3 (of_decide_eq_true (by first | (with_reducible assumption) | assumption)) q45 hroom45
                                have hr45 := Kd.C_take (m := (x8_3 : Int).toNat) hC45 (by omega)
                                have hy45 : y306.length = (x8_3 : Int).toNat := (by rw [Ny306.out, List.length_take]; omega)
                                rw [← Ny306.out] at hr45
                                rw [← hy45] at hcut45
                                have HR309 := Aside0.mk hr45
                                have HC309 := Aside0.mk (show y306.length ≤ co44 from by omega)
                                clear hr45 hC45 hroom45 hi045 hsz45
                                have KY45 := Aside0.mk hy45
                                clear hy45
                                have KL45 := Aside0.mk (show (x8_3 : Int).toNat ≤ t303.length from by omega)
                                replace q45 := eq_true q45
                                go_wp2_with (first | (go_at_call 17; (with_reducible refine (isoglossref04_Join.calls k3 _ _ y306 t310 _ ?side1 ?side2 A36.out).mono ?_); (case side1 => repeat (first | exact (by repeat (first | (with_reducible exact HR309.out) | (with_reducible refine Kd.C_alloc ?_ _) | (with_reducible refine Kd.C_drewN ?_ _) | (with_reducible refine Kd.C_drew ?_) | exact HR309.out)) | (with_reducible refine Kd.C_alloc ?_ _) | (with_reducible refine Kd.C_drewN ?_ _) | (with_reducible refine Kd.C_drew ?_))); (case side2 => exact HC309.out); rintro e w' ⟨rfl, ⟨nd, rfl⟩⟩) | (go_at_call 12; (with_reducible refine (filter_Matches.calls k3 t310 ((t297 ++ (⟨#[45]⟩ : ByteArray)) ++ t298) false _ A39.out).mono ?_); rintro e w46 ⟨rfl, hb⟩; have n0_ := Aside0.mk (Kd.R_below (by (with_reducible repeat (first | apply Kd.R_alloc | apply Kd.R_drewN | apply Kd.R_drew)); exact HO_7.out) hb); have n1_ := Aside0.mk (Kd.C_below (by repeat (first | (with_reducible exact HR309.out) | (with_reducible refine Kd.C_alloc ?_ _) | (with_reducible refine Kd.C_drewN ?_ _) | (with_reducible refine Kd.C_drew ?_) | exact HR309.out)) hb); have n2_ := Aside0.mk (below_step (by repeat (first | (with_reducible first | exact HB.out | apply below_alloc | apply pw_below_drewN | apply below_drew1) | exact HB.out)) hb); clear HO_7; clear HR309; clear HB; have HO_7 := n0_; have HR309 := n1_; have HB := n2_; clear n0_ n1_ n2_; (try clear hb); (try clear hb2); (try clear hk); (try clear hi)))
                                go_ret
                                exact ⟨by first | rfl | (simp [errW_none, errW_some] <;> rfl) | (simp [*, errW_none, errW_some] <;> rfl), by repeat (first | (with_reducible first | exact HB.out | apply below_alloc | apply pw_below_drewN | apply below_drew1) | exact HB.out)⟩
                            · rw [if_neg c38] at H
                              exact absurd H (by simp)
                          · rw [if_neg c37] at H
                            exact absurd H (by simp)
                        · rw [if_neg c35] at H
                          exact absurd H (by simp)
                      · rw [if_neg c34] at H
                        exact absurd H (by simp)
                    · replace c33 := Bool.eq_false_iff.mpr c33
                      subst c33
                      have H1 : (isoglosslaw20_FilterPrefix.l0 k3 t297 t298 t296 false t303 (wrap64 (x8_3 + 1))) = some r := by rw [if_neg (show ¬ (false = true) by decide)] at H; exact H
                      clear H
                      have H := H1
                      clear H1
                      have H' := Aside0.mk H
                      clear H
                      obtain ⟨Ao47, co47, eo47⟩ := Kd.R_slice HO_7.out
                      subst eo47
                      go_wp2
                      go_roundg k3
                      case measure => have := HJ6.out; have := HJ18.out; have := HK3.out; omega
                      case rel => exact ⟨(wrap64 (x8_3 + 1)), (by first | rfl | (simp; done) | (simp [*]; done)), H', ⟨by have := HJ6.out; have := HJ18.out; have := HK3.out; omega⟩, ⟨by (with_reducible repeat (first | apply Kd.R_alloc | apply Kd.R_drewN | apply Kd.R_drew)); exact HO_7.out⟩, ⟨by repeat (first | (with_reducible first | exact HB.out | apply below_alloc | apply pw_below_drewN | apply below_drew1) | exact HB.out)⟩⟩
                  · rw [if_neg c32] at H
                    have c32b0 : decide (x8_3 < (t303.length : Int)) = false := decide_eq_false c32
                    clear c32
                    obtain rfl := Option.some.inj H
                    obtain ⟨Ao48, co48, eo48⟩ := Kd.R_slice HO_7.out
                    subst eo48
                    go_wp2
                    go_ret
                    exact ⟨by first | rfl | (simp [errW_none, errW_some] <;> rfl) | (simp [*, errW_none, errW_some] <;> rfl), by repeat (first | (with_reducible first | exact HB.out | apply below_alloc | apply pw_below_drewN | apply below_drew1) | exact HB.out)⟩

/-- THE ONE PURE STATEMENT of isoglosslaw20_FilterPrefix: yours. -/
def isoglosslaw20_FilterPrefix.Pure : Prop := ∀ (a0 : ByteArray) (a1 : ByteArray), a0.size ≤ 140737488351232 → a1.size ≤ 140737488351232 → ∃ k, isoglosslaw20_FilterPrefix.f k a0 a1 = some true
theorem isoglosslaw20_FilterPrefix.walk (P : isoglosslaw20_FilterPrefix.Pure) (a0 : ByteArray) (a1 : ByteArray) (w : World) (w0 : a0.size ≤ 140737488351232) (w1 : a1.size ≤ 140737488351232) :
    Calls Try.prog 6 #[.string a0, .string a1] w fun e w' => e = .returned (.bool true) ∧ Below w.heap.size w w' := by
  obtain ⟨k, h⟩ := P a0 a1 w0 w1
  refine (isoglosslaw20_FilterPrefix.calls k a0 a1 true w h).mono ?_
  rintro e w' ⟨rfl, hd⟩
  exact ⟨rfl, hd⟩

end Go.Proofs.Ytanahbcdilcmoaa.P
