-- Written for this claim by the session's own run of the print, functions proved by hand put in.
import Derived.Test.YtanahbcdilcmoaaPx0
import Derived.Test.YtanahbcdilcmoaaPx1
import Derived.Test.YtanahbcdilcmoaaPx2
import Derived.Test.YtanahbcdilcmoaaPx3
import Derived.Test.YtanahbcdilcmoaaPx4
namespace Go.Proofs.Ytanahbcdilcmoaa.P
open Go.RowKit Go.Proofs.YtanahbcdilcmoaaW.PrintWords Go.Proofs.YtanahbcdilcmoaaW.PrintLast Go.Proofs.YtanahbcdilcmoaaW.PrintMore
attribute [local go_sem] max2_int min2_int max_two min_two max_three min_three max_four min_four   -- for this text's walks alone
set_option linter.unusedVariables false
set_option linter.unusedSimpArgs false

/-! ### isoglossref20_MatchesExtended: function 28 -/
def isoglossref20_MatchesExtended.f (k : Nat) (a0 : ByteArray) (a1 : ByteArray) : Option (Bool) := (isoglossref20_Extended.f k a0).bind fun t200 => ((isoglossref04_Split.f k a0).bind fun t201 => ((isoglossref04_Split.f k a1).bind fun t204 => (if t200 = true then (if 0 < (t201.length : Int) then (if (rdOf ByteArray.empty t201 0).toList = ([42] : List UInt8) then (if 1 ≤ (t201.length : Int) then (if 1 ≤ (t204.length : Int) then ((isoglossref20_walk.f k (t201.drop 1) (t204.drop 1)).bind fun t216 => (some t216)) else (none)) else (none)) else (if 0 < (t204.length : Int) then ((isoglossref02_Compare.f k (rdOf ByteArray.empty t201 0) (rdOf ByteArray.empty t204 0)).bind fun t219 => (if t219 = 0 then (if 1 ≤ (t201.length : Int) then (if 1 ≤ (t204.length : Int) then ((isoglossref20_walk.f k (t201.drop 1) (t204.drop 1)).bind fun t228 => (some t228)) else (none)) else (none)) else (some false))) else (none))) else (none)) else (some false))))
theorem isoglossref20_MatchesExtended.mono : ∀ a0 a1 k, LeO (isoglossref20_MatchesExtended.f k a0 a1) (isoglossref20_MatchesExtended.f (k + 1) a0 a1) := by
 intro a0 a1 k
 unfold isoglossref20_MatchesExtended.f
 repeat' first
   | (with_reducible exact isoglossref02_Compare.mono _ _ _)
   | (with_reducible exact isoglossref04_Split.mono _ _)
   | (with_reducible exact isoglossref20_Extended.mono _ _)
   | (with_reducible exact isoglossref20_walk.mono _ _ _)
   | (with_reducible exact LeO.refl _)
   | (with_reducible exact LeO.none _)
   | (with_reducible refine LeO.ite ?_ ?_)
   | (with_reducible refine LeO.bind ?_ (fun _ => ?_))
   | exact isoglossref02_Compare.mono _ _ _
   | exact isoglossref04_Split.mono _ _
   | exact isoglossref20_Extended.mono _ _
   | exact isoglossref20_walk.mono _ _ _
   | exact LeO.none _
   | refine LeO.ite ?_ ?_
   | refine LeO.bind ?_ (fun _ => ?_)
def isoglossref20_MatchesExtended.T4 : Bool × List (List Nat × List Nat) := (true, [([], []), ([0], [0]), ([1], [1]), ([2], [2]), ([3, 2], [2, 3]), ([4, 2], [2, 4]), ([5, 2], [2, 5]), ([6, 2, 2], [2, 6]), ([7], [7]), ([8, 7], [7, 8]), ([9, 7], [7, 9]), ([7], [7]), ([11, 7], [7, 11]), ([12, 7], [7, 12]), ([10, 13, 7, 7], [7, 10, 13]), ([14, 7], [7, 14]), ([7, 15, 2], [2, 7, 15]), ([2, 16], [2, 16])])
def isoglossref20_MatchesExtended.B4 : List Nat := [0, 1, 3, 7, 15, 31, 63, 127, 255, 511, 1023, 255, 2303, 6399, 16383, 32767, 65535, 131071]
theorem isoglossref20_MatchesExtended.tab4 : rtab .any (opsOf Try.f28 4) = isoglossref20_MatchesExtended.T4 := by kernel_rfl
theorem isoglossref20_MatchesExtended.bits4 : waitsOk isoglossref20_MatchesExtended.T4.2 isoglossref20_MatchesExtended.B4 = true := by kernel_rfl
set_option maxHeartbeats 8000000 in
set_option maxRecDepth 100000 in
theorem isoglossref20_MatchesExtended.calls (k : Nat) (a0 : ByteArray) (a1 : ByteArray) (r : Bool) (w : World) (h : isoglossref20_MatchesExtended.f k a0 a1 = some r) :
  Calls Try.prog 28 #[.string a0, .string a1] w fun e w' => e = .returned (.bool r) ∧ Below w.heap.size w w' := by
 have HB := Aside0.mk (Below.refl w.heap.size w)
 have H : ((isoglossref20_Extended.f k a0).bind fun t200 => ((isoglossref04_Split.f k a0).bind fun t201 => ((isoglossref04_Split.f k a1).bind fun t204 => (if t200 = true then (if 0 < (t201.length : Int) then (if (rdOf ByteArray.empty t201 0).toList = ([42] : List UInt8) then (if 1 ≤ (t201.length : Int) then (if 1 ≤ (t204.length : Int) then ((isoglossref20_walk.f k (t201.drop 1) (t204.drop 1)).bind fun t216 => (some t216)) else (none)) else (none)) else (if 0 < (t204.length : Int) then ((isoglossref02_Compare.f k (rdOf ByteArray.empty t201 0) (rdOf ByteArray.empty t204 0)).bind fun t219 => (if t219 = 0 then (if 1 ≤ (t201.length : Int) then (if 1 ≤ (t204.length : Int) then ((isoglossref20_walk.f k (t201.drop 1) (t204.drop 1)).bind fun t228 => (some t228)) else (none)) else (none)) else (some false))) else (none))) else (none)) else (some false))))) = some r := h
 clear h
 replace H := Option.bind_eq_some_iff.mp H
 obtain ⟨t200, A30, H⟩ := H
 replace H : ((isoglossref04_Split.f k a0).bind fun t201 => ((isoglossref04_Split.f k a1).bind fun t204 => (if t200 = true then (if 0 < (t201.length : Int) then (if (rdOf ByteArray.empty t201 0).toList = ([42] : List UInt8) then (if 1 ≤ (t201.length : Int) then (if 1 ≤ (t204.length : Int) then ((isoglossref20_walk.f k (t201.drop 1) (t204.drop 1)).bind fun t216 => (some t216)) else (none)) else (none)) else (if 0 < (t204.length : Int) then ((isoglossref02_Compare.f k (rdOf ByteArray.empty t201 0) (rdOf ByteArray.empty t204 0)).bind fun t219 => (if t219 = 0 then (if 1 ≤ (t201.length : Int) then (if 1 ≤ (t204.length : Int) then ((isoglossref20_walk.f k (t201.drop 1) (t204.drop 1)).bind fun t228 => (some t228)) else (none)) else (none)) else (some false))) else (none))) else (none)) else (some false)))) = some r := H
 have A3 := Aside0.mk A30
 clear A30
 replace H := Option.bind_eq_some_iff.mp H
 obtain ⟨t201, A40, H⟩ := H
 replace H : ((isoglossref04_Split.f k a1).bind fun t204 => (if t200 = true then (if 0 < (t201.length : Int) then (if (rdOf ByteArray.empty t201 0).toList = ([42] : List UInt8) then (if 1 ≤ (t201.length : Int) then (if 1 ≤ (t204.length : Int) then ((isoglossref20_walk.f k (t201.drop 1) (t204.drop 1)).bind fun t216 => (some t216)) else (none)) else (none)) else (if 0 < (t204.length : Int) then ((isoglossref02_Compare.f k (rdOf ByteArray.empty t201 0) (rdOf ByteArray.empty t204 0)).bind fun t219 => (if t219 = 0 then (if 1 ≤ (t201.length : Int) then (if 1 ≤ (t204.length : Int) then ((isoglossref20_walk.f k (t201.drop 1) (t204.drop 1)).bind fun t228 => (some t228)) else (none)) else (none)) else (some false))) else (none))) else (none)) else (some false))) = some r := H
 have A4 := Aside0.mk A40
 clear A40
 replace H := Option.bind_eq_some_iff.mp H
 obtain ⟨t204, A50, H⟩ := H
 replace H : (if t200 = true then (if 0 < (t201.length : Int) then (if (rdOf ByteArray.empty t201 0).toList = ([42] : List UInt8) then (if 1 ≤ (t201.length : Int) then (if 1 ≤ (t204.length : Int) then ((isoglossref20_walk.f k (t201.drop 1) (t204.drop 1)).bind fun t216 => (some t216)) else (none)) else (none)) else (if 0 < (t204.length : Int) then ((isoglossref02_Compare.f k (rdOf ByteArray.empty t201 0) (rdOf ByteArray.empty t204 0)).bind fun t219 => (if t219 = 0 then (if 1 ≤ (t201.length : Int) then (if 1 ≤ (t204.length : Int) then ((isoglossref20_walk.f k (t201.drop 1) (t204.drop 1)).bind fun t228 => (some t228)) else (none)) else (none)) else (some false))) else (none))) else (none)) else (some false)) = some r := H
 have A5 := Aside0.mk A50
 clear A50
 by_cases c6 : t200 = true
 ·subst c6
  have H1 : (if 0 < (t201.length : Int) then (if (rdOf ByteArray.empty t201 0).toList = ([42] : List UInt8) then (if 1 ≤ (t201.length : Int) then (if 1 ≤ (t204.length : Int) then ((isoglossref20_walk.f k (t201.drop 1) (t204.drop 1)).bind fun t216 => (some t216)) else (none)) else (none)) else (if 0 < (t204.length : Int) then ((isoglossref02_Compare.f k (rdOf ByteArray.empty t201 0) (rdOf ByteArray.empty t204 0)).bind fun t219 => (if t219 = 0 then (if 1 ≤ (t201.length : Int) then (if 1 ≤ (t204.length : Int) then ((isoglossref20_walk.f k (t201.drop 1) (t204.drop 1)).bind fun t228 => (some t228)) else (none)) else (none)) else (some false))) else (none))) else (none)) = some r := by rw [if_pos rfl] at H; exact H
  clear H
  have H := H1
  clear H1
  by_cases c7 : 0 < (t201.length : Int)
  ·rw [if_pos c7] at H
   have c7b0 : decide (0 < (t201.length : Int)) = true := decide_eq_true c7
   have c7b1 : decide (0 < t201.length) = true := decide_eq_true (by omega)
   clear c7
   by_cases c8 : (rdOf ByteArray.empty t201 0).toList = ([42] : List UInt8)
   ·rw [if_pos c8] at H
    have c8b0 : ((rdOf ByteArray.empty t201 0).toList == ([42] : List UInt8)) = true := beq_iff_eq.mpr c8
    have c8b1 : ((rdOf ByteArray.empty t201 0).toList != ([42] : List UInt8)) = false := bne_eq_false_iff_eq.mpr c8
    clear c8
    by_cases c9 : 1 ≤ (t201.length : Int)
    ·rw [if_pos c9] at H
     have c9b0 := eq_true c9
     have c9b1 : decide (1 ≤ (t201.length : Int)) = true := decide_eq_true c9
     clear c9
     obtain ⟨y208, hy208⟩ : ∃ y_ : List ByteArray, y_ = (t201.drop 1) := ⟨_, rfl⟩
     replace H : (if 1 ≤ (t204.length : Int) then ((isoglossref20_walk.f k y208 (t204.drop 1)).bind fun t216 => (some t216)) else (none)) = some r := by first | (rw [hy208]; with_reducible exact H) | (have H2_ := (Option.bind_some _ _).symm.trans H; rw [hy208]; with_reducible exact H2_) | (have H2_ := (Option.bind_some _ _).symm.trans H; with_reducible exact H2_) | with_reducible exact H | (rw [hy208]; exact H) | exact H
     have Ny208 := Aside0.mk hy208
     clear hy208
     by_cases c10 : 1 ≤ (t204.length : Int)
     ·rw [if_pos c10] at H
      have c10b0 := eq_true c10
      have c10b1 : decide (1 ≤ (t204.length : Int)) = true := decide_eq_true c10
      clear c10
      obtain ⟨y212, hy212⟩ : ∃ y_ : List ByteArray, y_ = (t204.drop 1) := ⟨_, rfl⟩
      replace H : ((isoglossref20_walk.f k y208 y212).bind fun t216 => (some t216)) = some r := by first | (rw [hy212]; with_reducible exact H) | (have H2_ := (Option.bind_some _ _).symm.trans H; rw [hy212]; with_reducible exact H2_) | (have H2_ := (Option.bind_some _ _).symm.trans H; with_reducible exact H2_) | with_reducible exact H | (rw [hy212]; exact H) | exact H
      have Ny212 := Aside0.mk hy212
      clear hy212
      replace H := Option.bind_eq_some_iff.mp H
      obtain ⟨t216, A110, H⟩ := H
      replace H : (some t216) = some r := H
      have A11 := Aside0.mk A110
      clear A110
      obtain rfl := Option.some.inj H
      go_enter Try.func28, Try.ntmps28
      try go_wp2_with (first | ((with_reducible refine gate_callee (f := 26) rfl ?_); refine goesL_ (some 9) rfl rfl Try.func26 (by kernel_rfl) rfl #[.string a0] rfl (by (try simp only [List.map_toArray, List.map_cons, List.map_nil]); first | done | rfl | (simp only [List.length_drop, List.length_take]; rfl)) ?_; (with_reducible refine (isoglossref20_Extended.calls k a0 true _ A3.out).mono ?_); rintro e w12 ⟨rfl, hb⟩; refine ⟨_, rfl, ?_⟩; have n0_ := Aside0.mk (below_step (by repeat (first | (with_reducible first | exact HB.out | apply below_alloc | apply pw_below_drewN | apply below_drew1) | exact HB.out)) hb); clear HB; have HB := n0_; clear n0_; (try clear hb); (try clear hb2); (try clear hk); (try clear hi)) | ((with_reducible refine gate_callee (f := 16) rfl ?_); refine goesL_ (some 11) rfl rfl Try.func16 (by kernel_rfl) rfl #[.string a0] rfl (by (try simp only [List.map_toArray, List.map_cons, List.map_nil]); first | done | rfl | (simp only [List.length_drop, List.length_take]; rfl)) ?_; (with_reducible refine (isoglossref04_Split.calls k a0 t201 _ A4.out).mono ?_); rintro e w13 ⟨v202, rfl, ho0, hb⟩; refine ⟨_, rfl, ?_⟩; have n0_ := Aside0.mk (Kd.R_lower ho0 (below_size (by repeat (first | (with_reducible first | exact HB.out | apply below_alloc | apply pw_below_drewN | apply below_drew1) | exact HB.out)))); have n1_ := Aside0.mk (below_step (by repeat (first | (with_reducible first | exact HB.out | apply below_alloc | apply pw_below_drewN | apply below_drew1) | exact HB.out)) hb); clear HB; have HO203 := n0_; have HB := n1_; clear n0_ n1_; (try clear hb); (try clear hb2); (try clear hk); (try clear hi); (try clear ho0)) | ((with_reducible refine gate_callee (f := 16) rfl ?_); refine goesL_ (some 13) rfl rfl Try.func16 (by kernel_rfl) rfl #[.string a1] rfl (by (try simp only [List.map_toArray, List.map_cons, List.map_nil]); first | done | rfl | (simp only [List.length_drop, List.length_take]; rfl)) ?_; (with_reducible refine (isoglossref04_Split.calls k a1 t204 _ A5.out).mono ?_); rintro e w14 ⟨v205, rfl, ho0, hb⟩; refine ⟨_, rfl, ?_⟩; have n0_ := Aside0.mk (Kd.R_elder' (by (with_reducible repeat (first | apply Kd.R_alloc | apply Kd.R_drewN | apply Kd.R_drew)); exact HO203.out) (Kd.R_base ho0) hb); have n1_ := Aside0.mk (Kd.R_lower (Kd.R_new' ho0 (Kd.R_lt (by (with_reducible repeat (first | apply Kd.R_alloc | apply Kd.R_drewN | apply Kd.R_drew)); exact HO203.out))) (below_size (by repeat (first | (with_reducible first | exact HB.out | apply below_alloc | apply pw_below_drewN | apply below_drew1) | exact HB.out)))); have n2_ := Aside0.mk (below_step (by repeat (first | (with_reducible first | exact HB.out | apply below_alloc | apply pw_below_drewN | apply below_drew1) | exact HB.out)) hb); clear HO203; clear HB; have HO203 := n0_; have HO206 := n1_; have HB := n2_; clear n0_ n1_ n2_; (try clear hb); (try clear hb2); (try clear hk); (try clear hi); (try clear ho0)))
      have n0_ := Aside0.mk (Kd.R_drew HO203.out)
      have n1_ := Aside0.mk (Kd.R_drew HO206.out)
      have n2_ := Aside0.mk (below_drew1 HB.out)
      clear HO203
      clear HO206
      clear HB
      have HO203 := n0_
      have HO206 := n1_
      have HB := n2_
      clear n0_ n1_ n2_
      obtain ⟨Ao16, co16, eo16⟩ := Kd.R_slice HO203.out
      (first | subst eo16 | (injection eo16 with f1_ f2_ f3_; have f4_ := f1_.symm; have f5_ := f3_.symm; clear f1_ f2_ f3_; subst f4_; subst f5_))
      have p207 : 0 ≤ (0 : Int) := (by omega)
      have q207 : 0 < (t201.length : Int) := of_decide_eq_true (by first | (with_reducible assumption) | assumption)
      obtain ⟨ad207, e207, hx207_0⟩ := Kd.at_string (Kd.R_reads' HO203.out).2.2 0 p207 q207
      cases e207
      have qi207 : (0 < t201.length) = True := eq_true (by omega)
      (try rw [show ((0 : Int)).toNat = 0 from rfl] at hx207_0)
      (try rw [Addr.add_zero'] at hx207_0)
      replace p207 := eq_true p207
      replace q207 := eq_true q207
      refine start_ (n := 18) (S := fun w' => w'.cell? ad207 = some (.string (rdOf ByteArray.empty t201 0))) (ds := []) #[false, false, false, false, false, false, false, false, false, false, false, false, false, false, false, false, false, false] (by kernel_rfl) rfl rfl (hx207_0) (fun hHeld => ?_); refine with_tabW isoglossref20_MatchesExtended.tab4 isoglossref20_MatchesExtended.bits4 (fun HT_ HW_ => ?_)
      generalize w14.drew = w15 at HO203 HO206 HB hx207_0 hHeld ⊢
      refine pure_ (i := 0) (N := some 14) (v := ?_) (a' := ?_) #[true, false, false, false, false, false, false, false, false, false, false, false, false, false, false, false, false, false] rfl rfl (any_of HT_.out (by kernel_rfl)) (fun _ _ _ h => h) (Or.inl ⟨by rfl, ?_⟩) ?_ ?_
      rotate_left
      ·intro w'
       go_simp
       with_reducible rfl
      rotate_left
      ·simp only [Act.put, List.setIfInBounds_toArray, List.set_cons_zero, List.set_cons_succ, i64_w, i32_w]
       rfl
      refine pure_ (i := 1) (N := some 15) (v := ?_) (a' := ?_) #[true, true, false, false, false, false, false, false, false, false, false, false, false, false, false, false, false, false] rfl rfl (any_of HT_.out (by kernel_rfl)) (fun _ _ _ h => h) (Or.inl ⟨by rfl, ?_⟩) ?_ ?_
      rotate_left
      ·intro w'
       go_simp
       with_reducible rfl
      rotate_left
      ·simp only [Act.put, List.setIfInBounds_toArray, List.set_cons_zero, List.set_cons_succ, i64_w, i32_w]
       rfl
      refine pure_ (i := 2) (N := some 16) (v := ?_) (a' := ?_) #[true, true, true, false, false, false, false, false, false, false, false, false, false, false, false, false, false, false] rfl rfl (any_of HT_.out (by kernel_rfl)) (fun _ _ _ h => h) (Or.inl ⟨by rfl, ?_⟩) ?_ ?_
      rotate_left
      ·intro w'
       go_simp
       with_reducible rfl
      rotate_left
      ·simp only [Act.put, List.setIfInBounds_toArray, List.set_cons_zero, List.set_cons_succ, i64_w, i32_w]
       rfl
      refine pure_ (i := 3) (N := some 17) (v := ?_) (a' := ?_) #[true, true, true, true, false, false, false, false, false, false, false, false, false, false, false, false, false, false] rfl rfl (any_of HT_.out (by kernel_rfl)) (fun _ _ _ h => h) (Or.inl ⟨by rfl, ?_⟩) ?_ ?_
      rotate_left
      ·intro w'
       go_simp
       with_reducible rfl
      rotate_left
      ·simp only [Act.put, List.setIfInBounds_toArray, List.set_cons_zero, List.set_cons_succ, i64_w, i32_w]
       rfl
      refine pure_ (i := 4) (N := some 18) (v := ?_) (a' := ?_) #[true, true, true, true, true, false, false, false, false, false, false, false, false, false, false, false, false, false] rfl rfl (any_of HT_.out (by kernel_rfl)) (fun _ _ _ h => h) (Or.inl ⟨by rfl, ?_⟩) ?_ ?_
      rotate_left
      ·intro w'
       go_simp
       with_reducible rfl
      rotate_left
      ·simp only [Act.put, List.setIfInBounds_toArray, List.set_cons_zero, List.set_cons_succ, i64_w, i32_w]
       rfl
      refine take_ (i := 5) (N := some 19) (v := ?_) (a' := ?_) #[true, true, true, true, true, true, false, false, false, false, false, false, false, false, false, false, false, false] rfl rfl (take_ofW HT_.out HW_.out (by kernel_rfl)) (fun _ _ _ h => h) (Or.inl ⟨by rfl, ?_⟩) hHeld ?_ ?_
      rotate_left
      ·intro w' s0
       go_simp
       with_reducible rfl
      rotate_left
      ·simp only [Act.put, List.setIfInBounds_toArray, List.set_cons_zero, List.set_cons_succ, i64_w, i32_w]
       rfl
      refine pure_ (i := 6) (N := some 20) (v := ?_) (a' := ?_) #[true, true, true, true, true, true, true, false, false, false, false, false, false, false, false, false, false, false] rfl rfl (any_of HT_.out (by kernel_rfl)) (fun _ _ _ h => h) (Or.inl ⟨by rfl, ?_⟩) ?_ ?_
      rotate_left
      ·intro w'
       go_simp
       with_reducible rfl
      rotate_left
      ·simp only [Act.put, List.setIfInBounds_toArray, List.set_cons_zero, List.set_cons_succ, i64_w, i32_w]
       rfl
      refine pure_ (i := 7) (N := some 21) (v := ?_) (a' := ?_) #[true, true, true, true, true, true, true, true, false, false, false, false, false, false, false, false, false, false] rfl rfl (any_of HT_.out (by kernel_rfl)) (fun _ _ _ h => h) (Or.inl ⟨by rfl, ?_⟩) ?_ ?_
      rotate_left
      ·intro w'
       go_simp
       with_reducible rfl
      rotate_left
      ·simp only [Act.put, List.setIfInBounds_toArray, List.set_cons_zero, List.set_cons_succ, i64_w, i32_w]
       rfl
      refine pure_ (i := 8) (N := some 22) (v := undef) (a' := ?_) #[true, true, true, true, true, true, true, true, true, false, false, false, false, false, false, false, false, false] rfl rfl (any_of HT_.out (by kernel_rfl)) (fun _ _ _ h => h) (Or.inr ⟨by rfl, rfl⟩) ?_ ?_
      rotate_left
      ·simp only [Act.put, List.setIfInBounds_toArray, List.set_cons_zero, List.set_cons_succ, i64_w, i32_w]
       rfl
      refine pure_ (i := 9) (N := some 23) (v := undef) (a' := ?_) #[true, true, true, true, true, true, true, true, true, true, false, false, false, false, false, false, false, false] rfl rfl (any_of HT_.out (by kernel_rfl)) (fun _ _ _ h => h) (Or.inr ⟨by rfl, rfl⟩) ?_ ?_
      rotate_left
      ·simp only [Act.put, List.setIfInBounds_toArray, List.set_cons_zero, List.set_cons_succ, i64_w, i32_w]
       rfl
      refine pure_ (i := 10) (N := some 24) (v := undef) (a' := ?_) #[true, true, true, true, true, true, true, true, true, true, true, false, false, false, false, false, false, false] rfl rfl (any_of HT_.out (by kernel_rfl)) (fun _ _ _ h => h) (Or.inr ⟨by rfl, rfl⟩) ?_ ?_
      rotate_left
      ·simp only [Act.put, List.setIfInBounds_toArray, List.set_cons_zero, List.set_cons_succ, i64_w, i32_w]
       rfl
      refine pure_ (i := 11) (N := some 25) (v := undef) (a' := ?_) #[true, true, true, true, true, true, true, true, true, true, true, true, false, false, false, false, false, false] rfl rfl (any_of HT_.out (by kernel_rfl)) (fun _ _ _ h => h) (Or.inr ⟨by rfl, rfl⟩) ?_ ?_
      rotate_left
      ·simp only [Act.put, List.setIfInBounds_toArray, List.set_cons_zero, List.set_cons_succ, i64_w, i32_w]
       rfl
      refine pure_ (i := 12) (N := some 26) (v := undef) (a' := ?_) #[true, true, true, true, true, true, true, true, true, true, true, true, true, false, false, false, false, false] rfl rfl (any_of HT_.out (by kernel_rfl)) (fun _ _ _ h => h) (Or.inr ⟨by rfl, rfl⟩) ?_ ?_
      rotate_left
      ·simp only [Act.put, List.setIfInBounds_toArray, List.set_cons_zero, List.set_cons_succ, i64_w, i32_w]
       rfl
      refine pure_ (i := 13) (N := some 27) (v := undef) (a' := ?_) #[true, true, true, true, true, true, true, true, true, true, true, true, true, true, false, false, false, false] rfl rfl (any_of HT_.out (by kernel_rfl)) (fun _ _ _ h => h) (Or.inr ⟨by rfl, rfl⟩) ?_ ?_
      rotate_left
      ·simp only [Act.put, List.setIfInBounds_toArray, List.set_cons_zero, List.set_cons_succ, i64_w, i32_w]
       rfl
      refine pure_ (i := 14) (N := some 28) (v := undef) (a' := ?_) #[true, true, true, true, true, true, true, true, true, true, true, true, true, true, true, false, false, false] rfl rfl (any_of HT_.out (by kernel_rfl)) (fun _ _ _ h => h) (Or.inr ⟨by rfl, rfl⟩) ?_ ?_
      rotate_left
      ·simp only [Act.put, List.setIfInBounds_toArray, List.set_cons_zero, List.set_cons_succ, i64_w, i32_w]
       rfl
      refine pure_ (i := 15) (N := some 29) (v := undef) (a' := ?_) #[true, true, true, true, true, true, true, true, true, true, true, true, true, true, true, true, false, false] rfl rfl (any_of HT_.out (by kernel_rfl)) (fun _ _ _ h => h) (Or.inr ⟨by rfl, rfl⟩) ?_ ?_
      rotate_left
      ·simp only [Act.put, List.setIfInBounds_toArray, List.set_cons_zero, List.set_cons_succ, i64_w, i32_w]
       rfl
      refine pure_ (i := 16) (N := some 30) (v := ?_) (a' := ?_) #[true, true, true, true, true, true, true, true, true, true, true, true, true, true, true, true, true, false] rfl rfl (any_of HT_.out (by kernel_rfl)) (fun _ _ _ h => h) (Or.inl ⟨by rfl, ?_⟩) ?_ ?_
      rotate_left
      ·intro w'
       go_simp
       with_reducible rfl
      rotate_left
      ·simp only [Act.put, List.setIfInBounds_toArray, List.set_cons_zero, List.set_cons_succ, i64_w, i32_w]
       rfl
      refine pure_ (i := 17) (N := some 31) (v := ?_) (a' := ?_) #[true, true, true, true, true, true, true, true, true, true, true, true, true, true, true, true, true, true] rfl rfl (any_of HT_.out (by kernel_rfl)) (fun _ _ _ h => h) (Or.inl ⟨by rfl, ?_⟩) ?_ ?_
      rotate_left
      ·intro w'
       go_simp
       with_reducible rfl
      rotate_left
      ·simp only [Act.put, List.setIfInBounds_toArray, List.set_cons_zero, List.set_cons_succ, i64_w, i32_w]
       rfl
      refine done_ (done_of HT_.out (by kernel_rfl)) ?_
      try go_wp2
      have n0_ := Aside0.mk (Kd.R_drew HO203.out)
      have n1_ := Aside0.mk (Kd.R_drew HO206.out)
      have n2_ := Aside0.mk (below_drew1 HB.out)
      clear HO203
      clear HO206
      clear HB
      have HO203 := n0_
      have HO206 := n1_
      have HB := n2_
      clear n0_ n1_ n2_
      have q18 : (1 : Int) ≤ ((t201.length : Int) : Int) := of_decide_eq_true (by first | (with_reducible assumption) | assumption)
      obtain ⟨i018, hi018, _, hsz18, _⟩ := info_parts info9
      have hroom18 : t201.length ≤ co16 := (Kd.R_reads' HO203.out).2.1
      have hC18 : Kd.C Kd.string _ (some ad207) t201.length t201 := (Kd.R_reads' HO203.out).2.2
      have hcut18 := cut_from (P := Try.prog) 25 9 .i64 Try.underlying25 hi018 1 hsz18 (some ad207) t201.length co16 1 (by omega) q18
      have hr18 := Kd.C_drop (m := (1 : Int).toNat) (c := co16) hC18 (by omega) hroom18
      obtain ⟨A18, hA18⟩ : ∃ A1, A1 = (if co16 = (1 : Int).toNat then (some ad207) else ((some ad207) : Option Addr).map (·.add ((1 : Int).toNat * 1))) := ⟨_, rfl⟩
      obtain ⟨c18, hc18⟩ : ∃ c1, c1 = co16 - (1 : Int).toNat := ⟨_, rfl⟩
      have hy18 : y208.length = t201.length - (1 : Int).toNat := (by rw [Ny208.out, List.length_drop] <;> omega)
      rw [show (t201).drop (1 : Int).toNat = y208 from Ny208.out.symm] at hr18
      replace hr18 : Kd.C Kd.string _ A18 y208.length y208 := (by rw [hA18]; exact hr18)
      rw [← hy18, ← hA18, ← hc18] at hcut18
      have HR211 := Aside0.mk hr18
      have HC211 := Aside0.mk (show y208.length ≤ c18 from by rw [hy18, hc18]; exact Nat.sub_le_sub_right hroom18 _)
      clear hr18 hC18 hroom18 hi018 hsz18 hc18
      have KY18 := Aside0.mk hy18
      have KA18 := Aside0.mk hA18
      clear hy18 hA18
      have KL18 := Aside0.mk (show 1 ≤ t201.length from by omega)
      replace q18 := eq_true q18
      obtain ⟨Ao20, co20, eo20⟩ := Kd.R_slice HO206.out
      (first | subst eo20 | (injection eo20 with f1_ f2_ f3_; have f4_ := f1_.symm; have f5_ := f3_.symm; clear f1_ f2_ f3_; subst f4_; subst f5_))
      have q19 : (1 : Int) ≤ ((t204.length : Int) : Int) := of_decide_eq_true (by first | (with_reducible assumption) | assumption)
      obtain ⟨i019, hi019, _, hsz19, _⟩ := info_parts info9
      have hroom19 : t204.length ≤ co20 := (Kd.R_reads' HO206.out).2.1
      have hC19 : Kd.C Kd.string _ Ao20 t204.length t204 := (Kd.R_reads' HO206.out).2.2
      have hcut19 := cut_from (P := Try.prog) 25 9 .i64 Try.underlying25 hi019 1 hsz19 Ao20 t204.length co20 1 (by omega) q19
      have hr19 := Kd.C_drop (m := (1 : Int).toNat) (c := co20) hC19 (by omega) hroom19
      obtain ⟨A19, hA19⟩ : ∃ A1, A1 = (if co20 = (1 : Int).toNat then Ao20 else (Ao20 : Option Addr).map (·.add ((1 : Int).toNat * 1))) := ⟨_, rfl⟩
      obtain ⟨c19, hc19⟩ : ∃ c1, c1 = co20 - (1 : Int).toNat := ⟨_, rfl⟩
      have hy19 : y212.length = t204.length - (1 : Int).toNat := (by rw [Ny212.out, List.length_drop] <;> omega)
      rw [show (t204).drop (1 : Int).toNat = y212 from Ny212.out.symm] at hr19
      replace hr19 : Kd.C Kd.string _ A19 y212.length y212 := (by rw [hA19]; exact hr19)
      rw [← hy19, ← hA19, ← hc19] at hcut19
      have HR215 := Aside0.mk hr19
      have HC215 := Aside0.mk (show y212.length ≤ c19 from by rw [hy19, hc19]; exact Nat.sub_le_sub_right hroom19 _)
      clear hr19 hC19 hroom19 hi019 hsz19 hc19
      have KY19 := Aside0.mk hy19
      have KA19 := Aside0.mk hA19
      clear hy19 hA19
      have KL19 := Aside0.mk (show 1 ≤ t204.length from by omega)
      replace q19 := eq_true q19
      refine start_ (n := 6) (S := fun w' => True) (ds := []) #[false, false, false, false, false, false] (by kernel_rfl) rfl rfl trivial (fun hHeld => ?_)
      generalize w15.drew = w17 at HO203 HO206 HB HR211 HR215 hHeld ⊢
      refine pure_ (i := 0) (N := some 32) (v := ?_) (a' := ?_) #[true, false, false, false, false, false] rfl rfl (by kernel_rfl) (fun _ _ _ h => h) (Or.inl ⟨by rfl, ?_⟩) ?_ ?_
      rotate_left
      ·intro w'
       go_simp
       with_reducible rfl
      rotate_left
      ·simp only [Act.put, List.setIfInBounds_toArray, List.set_cons_zero, List.set_cons_succ, i64_w, i32_w]
       rfl
      refine pure_ (i := 1) (N := some 33) (v := ?_) (a' := ?_) #[true, true, false, false, false, false] rfl rfl (by kernel_rfl) (fun _ _ _ h => h) (Or.inl ⟨by rfl, ?_⟩) ?_ ?_
      rotate_left
      ·intro w'
       go_simp
       with_reducible rfl
      rotate_left
      ·simp only [Act.put, List.setIfInBounds_toArray, List.set_cons_zero, List.set_cons_succ, i64_w, i32_w]
       rfl
      refine pure_ (i := 2) (N := some 34) (v := ?_) (a' := ?_) #[true, true, true, false, false, false] rfl rfl (by kernel_rfl) (fun _ _ _ h => h) (Or.inl ⟨by rfl, ?_⟩) ?_ ?_
      rotate_left
      ·intro w'
       go_simp
       with_reducible rfl
      rotate_left
      ·simp only [Act.put, List.setIfInBounds_toArray, List.set_cons_zero, List.set_cons_succ, i64_w, i32_w]
       rfl
      refine pure_ (i := 3) (N := some 35) (v := ?_) (a' := ?_) #[true, true, true, true, false, false] rfl rfl (by kernel_rfl) (fun _ _ _ h => h) (Or.inl ⟨by rfl, ?_⟩) ?_ ?_
      rotate_left
      ·intro w'
       go_simp
       with_reducible rfl
      rotate_left
      ·simp only [Act.put, List.setIfInBounds_toArray, List.set_cons_zero, List.set_cons_succ, i64_w, i32_w]
       rfl
      refine one_ (i := 4) (N := some 36) #[true, true, true, true, true, false] rfl rfl (by kernel_rfl) (by decide) (fun K hK => ?_)
      refine goes_ Try.func40 (by kernel_rfl) rfl #[.slice A18 y208.length c18, .slice A19 y212.length c19] (by rfl) rfl rfl (by (try simp only [List.map_toArray, List.map_cons, List.map_nil]); first | done | rfl | (simp only [List.length_drop, List.length_take]; rfl)) ?_
      with_reducible refine (isoglossref20_walk.calls k _ _ y208 _ _ y212 t216 _ ?side1 ?side2 ?side3 ?side4 A11.out).mono ?_
      (case side1 => repeat (first | exact (by repeat (first | (with_reducible exact HR211.out) | (with_reducible refine Kd.C_alloc ?_ _) | (with_reducible refine Kd.C_drewN ?_ _) | (with_reducible refine Kd.C_drew ?_) | exact HR211.out)) | (with_reducible refine Kd.C_alloc ?_ _) | (with_reducible refine Kd.C_drewN ?_ _) | (with_reducible refine Kd.C_drew ?_)))
      (case side2 => exact HC211.out)
      (case side3 => repeat (first | exact (by repeat (first | (with_reducible exact HR215.out) | (with_reducible refine Kd.C_alloc ?_ _) | (with_reducible refine Kd.C_drewN ?_ _) | (with_reducible refine Kd.C_drew ?_) | exact HR215.out)) | (with_reducible refine Kd.C_alloc ?_ _) | (with_reducible refine Kd.C_drewN ?_ _) | (with_reducible refine Kd.C_drew ?_)))
      (case side4 => exact HC215.out)
      rintro e w21 ⟨rfl, hb⟩
      refine ⟨_, rfl, ?_⟩
      have n0_ := Aside0.mk (Kd.R_below (by (with_reducible repeat (first | apply Kd.R_alloc | apply Kd.R_drewN | apply Kd.R_drew)); exact HO203.out) hb)
      have n1_ := Aside0.mk (Kd.R_below (by (with_reducible repeat (first | apply Kd.R_alloc | apply Kd.R_drewN | apply Kd.R_drew)); exact HO206.out) hb)
      have n2_ := Aside0.mk (Kd.C_below (by repeat (first | (with_reducible exact HR211.out) | (with_reducible refine Kd.C_alloc ?_ _) | (with_reducible refine Kd.C_drewN ?_ _) | (with_reducible refine Kd.C_drew ?_) | exact HR211.out)) hb)
      have n3_ := Aside0.mk (Kd.C_below (by repeat (first | (with_reducible exact HR215.out) | (with_reducible refine Kd.C_alloc ?_ _) | (with_reducible refine Kd.C_drewN ?_ _) | (with_reducible refine Kd.C_drew ?_) | exact HR215.out)) hb)
      have n4_ := Aside0.mk (below_step (by repeat (first | (with_reducible first | exact HB.out | apply below_alloc | apply pw_below_drewN | apply below_drew1) | exact HB.out)) hb)
      clear HO203
      clear HO206
      clear HR211
      clear HR215
      clear HB
      have HO203 := n0_
      have HO206 := n1_
      have HR211 := n2_
      have HR215 := n3_
      have HB := n4_
      clear n0_ n1_ n2_ n3_ n4_
      (try clear hb)
      (try clear hb2)
      (try clear hk)
      (try clear hi)
      refine hK.out _ _ trivial (fun hHeld => ?_)
      clear hK K
      refine norm_ (a' := ?_) ?_ ?_
      rotate_left
      ·show Act.put _ (some 36) _ = _
       simp only [Act.put, List.setIfInBounds_toArray, List.set_cons_zero, List.set_cons_succ, i64_w, i32_w]
       rfl
      refine pure_ (i := 5) (N := some 4) (v := ?_) (a' := ?_) #[true, true, true, true, true, true] rfl rfl (by kernel_rfl) (fun _ _ _ h => h) (Or.inl ⟨by rfl, ?_⟩) ?_ ?_
      rotate_left
      ·intro w'
       go_simp
       with_reducible rfl
      rotate_left
      ·simp only [Act.put, List.setIfInBounds_toArray, List.set_cons_zero, List.set_cons_succ, i64_w, i32_w]
       rfl
      refine done_ (by kernel_rfl) ?_
      try go_wp2
      go_ret
      exact ⟨by first | rfl | (simp [errW_none, errW_some] <;> rfl) | (simp [*, errW_none, errW_some] <;> rfl), by repeat (first | (with_reducible first | exact HB.out | apply below_alloc | apply pw_below_drewN | apply below_drew1) | exact HB.out)⟩
     ·rw [if_neg c10] at H
      exact absurd H (by simp)
    ·rw [if_neg c9] at H
     exact absurd H (by simp)
   ·rw [if_neg c8] at H
    have c8b0 : ((rdOf ByteArray.empty t201 0).toList == ([42] : List UInt8)) = false := beq_eq_false_iff_ne.mpr c8
    have c8b1 : ((rdOf ByteArray.empty t201 0).toList != ([42] : List UInt8)) = true := bne_iff_ne.mpr c8
    by_cases c22 : 0 < (t204.length : Int)
    ·rw [if_pos c22] at H
     have c22b0 : decide (0 < (t204.length : Int)) = true := decide_eq_true c22
     have c22b1 : decide (0 < t204.length) = true := decide_eq_true (by omega)
     clear c22
     replace H := Option.bind_eq_some_iff.mp H
     obtain ⟨t219, A230, H⟩ := H
     replace H : (if t219 = 0 then (if 1 ≤ (t201.length : Int) then (if 1 ≤ (t204.length : Int) then ((isoglossref20_walk.f k (t201.drop 1) (t204.drop 1)).bind fun t228 => (some t228)) else (none)) else (none)) else (some false)) = some r := H
     have A23 := Aside0.mk A230
     clear A230
     by_cases c24 : t219 = 0
     ·rw [if_pos c24] at H
      have c24b0 : (t219 == 0) = true := beq_iff_eq.mpr c24
      have c24b1 : (t219 != 0) = false := bne_eq_false_iff_eq.mpr c24
      clear c24
      by_cases c25 : 1 ≤ (t201.length : Int)
      ·rw [if_pos c25] at H
       have c25b0 := eq_true c25
       have c25b1 : decide (1 ≤ (t201.length : Int)) = true := decide_eq_true c25
       clear c25
       obtain ⟨y220, hy220⟩ : ∃ y_ : List ByteArray, y_ = (t201.drop 1) := ⟨_, rfl⟩
       replace H : (if 1 ≤ (t204.length : Int) then ((isoglossref20_walk.f k y220 (t204.drop 1)).bind fun t228 => (some t228)) else (none)) = some r := by first | (rw [hy220]; with_reducible exact H) | (have H2_ := (Option.bind_some _ _).symm.trans H; rw [hy220]; with_reducible exact H2_) | (have H2_ := (Option.bind_some _ _).symm.trans H; with_reducible exact H2_) | with_reducible exact H | (rw [hy220]; exact H) | exact H
       have Ny220 := Aside0.mk hy220
       clear hy220
       by_cases c26 : 1 ≤ (t204.length : Int)
       ·rw [if_pos c26] at H
        have c26b0 := eq_true c26
        have c26b1 : decide (1 ≤ (t204.length : Int)) = true := decide_eq_true c26
        clear c26
        obtain ⟨y224, hy224⟩ : ∃ y_ : List ByteArray, y_ = (t204.drop 1) := ⟨_, rfl⟩
        replace H : ((isoglossref20_walk.f k y220 y224).bind fun t228 => (some t228)) = some r := by first | (rw [hy224]; with_reducible exact H) | (have H2_ := (Option.bind_some _ _).symm.trans H; rw [hy224]; with_reducible exact H2_) | (have H2_ := (Option.bind_some _ _).symm.trans H; with_reducible exact H2_) | with_reducible exact H | (rw [hy224]; exact H) | exact H
        have Ny224 := Aside0.mk hy224
        clear hy224
        replace H := Option.bind_eq_some_iff.mp H
        obtain ⟨t228, A270, H⟩ := H
        replace H : (some t228) = some r := H
        have A27 := Aside0.mk A270
        clear A270
        obtain rfl := Option.some.inj H
        go_enter Try.func28, Try.ntmps28
        try go_wp2_with (first | ((with_reducible refine gate_callee (f := 26) rfl ?_); refine goesL_ (some 9) rfl rfl Try.func26 (by kernel_rfl) rfl #[.string a0] rfl (by (try simp only [List.map_toArray, List.map_cons, List.map_nil]); first | done | rfl | (simp only [List.length_drop, List.length_take]; rfl)) ?_; (with_reducible refine (isoglossref20_Extended.calls k a0 true _ A3.out).mono ?_); rintro e w28 ⟨rfl, hb⟩; refine ⟨_, rfl, ?_⟩; have n0_ := Aside0.mk (below_step (by repeat (first | (with_reducible first | exact HB.out | apply below_alloc | apply pw_below_drewN | apply below_drew1) | exact HB.out)) hb); clear HB; have HB := n0_; clear n0_; (try clear hb); (try clear hb2); (try clear hk); (try clear hi)) | ((with_reducible refine gate_callee (f := 16) rfl ?_); refine goesL_ (some 11) rfl rfl Try.func16 (by kernel_rfl) rfl #[.string a0] rfl (by (try simp only [List.map_toArray, List.map_cons, List.map_nil]); first | done | rfl | (simp only [List.length_drop, List.length_take]; rfl)) ?_; (with_reducible refine (isoglossref04_Split.calls k a0 t201 _ A4.out).mono ?_); rintro e w29 ⟨v202, rfl, ho0, hb⟩; refine ⟨_, rfl, ?_⟩; have n0_ := Aside0.mk (Kd.R_lower ho0 (below_size (by repeat (first | (with_reducible first | exact HB.out | apply below_alloc | apply pw_below_drewN | apply below_drew1) | exact HB.out)))); have n1_ := Aside0.mk (below_step (by repeat (first | (with_reducible first | exact HB.out | apply below_alloc | apply pw_below_drewN | apply below_drew1) | exact HB.out)) hb); clear HB; have HO203 := n0_; have HB := n1_; clear n0_ n1_; (try clear hb); (try clear hb2); (try clear hk); (try clear hi); (try clear ho0)) | ((with_reducible refine gate_callee (f := 16) rfl ?_); refine goesL_ (some 13) rfl rfl Try.func16 (by kernel_rfl) rfl #[.string a1] rfl (by (try simp only [List.map_toArray, List.map_cons, List.map_nil]); first | done | rfl | (simp only [List.length_drop, List.length_take]; rfl)) ?_; (with_reducible refine (isoglossref04_Split.calls k a1 t204 _ A5.out).mono ?_); rintro e w30 ⟨v205, rfl, ho0, hb⟩; refine ⟨_, rfl, ?_⟩; have n0_ := Aside0.mk (Kd.R_elder' (by (with_reducible repeat (first | apply Kd.R_alloc | apply Kd.R_drewN | apply Kd.R_drew)); exact HO203.out) (Kd.R_base ho0) hb); have n1_ := Aside0.mk (Kd.R_lower (Kd.R_new' ho0 (Kd.R_lt (by (with_reducible repeat (first | apply Kd.R_alloc | apply Kd.R_drewN | apply Kd.R_drew)); exact HO203.out))) (below_size (by repeat (first | (with_reducible first | exact HB.out | apply below_alloc | apply pw_below_drewN | apply below_drew1) | exact HB.out)))); have n2_ := Aside0.mk (below_step (by repeat (first | (with_reducible first | exact HB.out | apply below_alloc | apply pw_below_drewN | apply below_drew1) | exact HB.out)) hb); clear HO203; clear HB; have HO203 := n0_; have HO206 := n1_; have HB := n2_; clear n0_ n1_ n2_; (try clear hb); (try clear hb2); (try clear hk); (try clear hi); (try clear ho0)))
        have n0_ := Aside0.mk (Kd.R_drew HO203.out)
        have n1_ := Aside0.mk (Kd.R_drew HO206.out)
        have n2_ := Aside0.mk (below_drew1 HB.out)
        clear HO203
        clear HO206
        clear HB
        have HO203 := n0_
        have HO206 := n1_
        have HB := n2_
        clear n0_ n1_ n2_
        obtain ⟨Ao32, co32, eo32⟩ := Kd.R_slice HO203.out
        (first | subst eo32 | (injection eo32 with f1_ f2_ f3_; have f4_ := f1_.symm; have f5_ := f3_.symm; clear f1_ f2_ f3_; subst f4_; subst f5_))
        have p207 : 0 ≤ (0 : Int) := (by omega)
        have q207 : 0 < (t201.length : Int) := of_decide_eq_true (by first | (with_reducible assumption) | assumption)
        obtain ⟨ad207, e207, hx207_0⟩ := Kd.at_string (Kd.R_reads' HO203.out).2.2 0 p207 q207
        cases e207
        have qi207 : (0 < t201.length) = True := eq_true (by omega)
        (try rw [show ((0 : Int)).toNat = 0 from rfl] at hx207_0)
        (try rw [Addr.add_zero'] at hx207_0)
        replace p207 := eq_true p207
        replace q207 := eq_true q207
        have p217 : 0 ≤ (0 : Int) := (by omega)
        have q217 : 0 < (t201.length : Int) := of_decide_eq_true (by first | (with_reducible assumption) | assumption)
        obtain ⟨ad217, e217, hx217_0⟩ := Kd.at_string (Kd.R_reads' HO203.out).2.2 0 p217 q217
        obtain rfl : ad207 = ad217 := (by injection e217)
        have qi217 : (0 < t201.length) = True := eq_true (by omega)
        (try rw [show ((0 : Int)).toNat = 0 from rfl] at hx217_0)
        (try rw [Addr.add_zero'] at hx217_0)
        replace p217 := eq_true p217
        replace q217 := eq_true q217
        obtain ⟨Ao33, co33, eo33⟩ := Kd.R_slice HO206.out
        (first | subst eo33 | (injection eo33 with f1_ f2_ f3_; have f4_ := f1_.symm; have f5_ := f3_.symm; clear f1_ f2_ f3_; subst f4_; subst f5_))
        have p218 : 0 ≤ (0 : Int) := (by omega)
        have q218 : 0 < (t204.length : Int) := of_decide_eq_true (by first | (with_reducible assumption) | assumption)
        obtain ⟨ad218, e218, hx218_0⟩ := Kd.at_string (Kd.R_reads' HO206.out).2.2 0 p218 q218
        cases e218
        have qi218 : (0 < t204.length) = True := eq_true (by omega)
        (try rw [show ((0 : Int)).toNat = 0 from rfl] at hx218_0)
        (try rw [Addr.add_zero'] at hx218_0)
        replace p218 := eq_true p218
        replace q218 := eq_true q218
        refine start_ (n := 18) (S := fun w' => w'.cell? ad207 = some (.string (rdOf ByteArray.empty t201 0)) ∧ w'.cell? ad207 = some (.string (rdOf ByteArray.empty t201 0)) ∧ w'.cell? ad218 = some (.string (rdOf ByteArray.empty t204 0))) (ds := []) #[false, false, false, false, false, false, false, false, false, false, false, false, false, false, false, false, false, false] (by kernel_rfl) rfl rfl ⟨hx207_0, hx217_0, hx218_0⟩ (fun hHeld => ?_); refine with_tabW isoglossref20_MatchesExtended.tab4 isoglossref20_MatchesExtended.bits4 (fun HT_ HW_ => ?_)
        generalize w30.drew = w31 at HO203 HO206 HB hx207_0 hx217_0 hx218_0 hHeld ⊢
        refine pure_ (i := 0) (N := some 14) (v := ?_) (a' := ?_) #[true, false, false, false, false, false, false, false, false, false, false, false, false, false, false, false, false, false] rfl rfl (any_of HT_.out (by kernel_rfl)) (fun _ _ _ h => h) (Or.inl ⟨by rfl, ?_⟩) ?_ ?_
        rotate_left
        ·intro w'
         go_simp
         with_reducible rfl
        rotate_left
        ·simp only [Act.put, List.setIfInBounds_toArray, List.set_cons_zero, List.set_cons_succ, i64_w, i32_w]
         rfl
        refine pure_ (i := 1) (N := some 15) (v := ?_) (a' := ?_) #[true, true, false, false, false, false, false, false, false, false, false, false, false, false, false, false, false, false] rfl rfl (any_of HT_.out (by kernel_rfl)) (fun _ _ _ h => h) (Or.inl ⟨by rfl, ?_⟩) ?_ ?_
        rotate_left
        ·intro w'
         go_simp
         with_reducible rfl
        rotate_left
        ·simp only [Act.put, List.setIfInBounds_toArray, List.set_cons_zero, List.set_cons_succ, i64_w, i32_w]
         rfl
        refine pure_ (i := 2) (N := some 16) (v := ?_) (a' := ?_) #[true, true, true, false, false, false, false, false, false, false, false, false, false, false, false, false, false, false] rfl rfl (any_of HT_.out (by kernel_rfl)) (fun _ _ _ h => h) (Or.inl ⟨by rfl, ?_⟩) ?_ ?_
        rotate_left
        ·intro w'
         go_simp
         with_reducible rfl
        rotate_left
        ·simp only [Act.put, List.setIfInBounds_toArray, List.set_cons_zero, List.set_cons_succ, i64_w, i32_w]
         rfl
        refine pure_ (i := 3) (N := some 17) (v := ?_) (a' := ?_) #[true, true, true, true, false, false, false, false, false, false, false, false, false, false, false, false, false, false] rfl rfl (any_of HT_.out (by kernel_rfl)) (fun _ _ _ h => h) (Or.inl ⟨by rfl, ?_⟩) ?_ ?_
        rotate_left
        ·intro w'
         go_simp
         with_reducible rfl
        rotate_left
        ·simp only [Act.put, List.setIfInBounds_toArray, List.set_cons_zero, List.set_cons_succ, i64_w, i32_w]
         rfl
        refine pure_ (i := 4) (N := some 18) (v := ?_) (a' := ?_) #[true, true, true, true, true, false, false, false, false, false, false, false, false, false, false, false, false, false] rfl rfl (any_of HT_.out (by kernel_rfl)) (fun _ _ _ h => h) (Or.inl ⟨by rfl, ?_⟩) ?_ ?_
        rotate_left
        ·intro w'
         go_simp
         with_reducible rfl
        rotate_left
        ·simp only [Act.put, List.setIfInBounds_toArray, List.set_cons_zero, List.set_cons_succ, i64_w, i32_w]
         rfl
        refine take_ (i := 5) (N := some 19) (v := ?_) (a' := ?_) #[true, true, true, true, true, true, false, false, false, false, false, false, false, false, false, false, false, false] rfl rfl (take_ofW HT_.out HW_.out (by kernel_rfl)) (fun _ _ _ h => h) (Or.inl ⟨by rfl, ?_⟩) hHeld ?_ ?_
        rotate_left
        ·rintro w' ⟨s0, s1, s2⟩
         go_simp
         with_reducible rfl
        rotate_left
        ·simp only [Act.put, List.setIfInBounds_toArray, List.set_cons_zero, List.set_cons_succ, i64_w, i32_w]
         rfl
        refine pure_ (i := 6) (N := some 20) (v := ?_) (a' := ?_) #[true, true, true, true, true, true, true, false, false, false, false, false, false, false, false, false, false, false] rfl rfl (any_of HT_.out (by kernel_rfl)) (fun _ _ _ h => h) (Or.inl ⟨by rfl, ?_⟩) ?_ ?_
        rotate_left
        ·intro w'
         go_simp
         with_reducible rfl
        rotate_left
        ·simp only [Act.put, List.setIfInBounds_toArray, List.set_cons_zero, List.set_cons_succ, i64_w, i32_w]
         rfl
        refine pure_ (i := 7) (N := some 21) (v := ?_) (a' := ?_) #[true, true, true, true, true, true, true, true, false, false, false, false, false, false, false, false, false, false] rfl rfl (any_of HT_.out (by kernel_rfl)) (fun _ _ _ h => h) (Or.inl ⟨by rfl, ?_⟩) ?_ ?_
        rotate_left
        ·intro w'
         go_simp
         with_reducible rfl
        rotate_left
        ·simp only [Act.put, List.setIfInBounds_toArray, List.set_cons_zero, List.set_cons_succ, i64_w, i32_w]
         rfl
        refine pure_ (i := 8) (N := some 22) (v := ?_) (a' := ?_) #[true, true, true, true, true, true, true, true, true, false, false, false, false, false, false, false, false, false] rfl rfl (any_of HT_.out (by kernel_rfl)) (fun _ _ _ h => h) (Or.inl ⟨by rfl, ?_⟩) ?_ ?_
        rotate_left
        ·intro w'
         go_simp
         with_reducible rfl
        rotate_left
        ·simp only [Act.put, List.setIfInBounds_toArray, List.set_cons_zero, List.set_cons_succ, i64_w, i32_w]
         rfl
        refine pure_ (i := 9) (N := some 23) (v := ?_) (a' := ?_) #[true, true, true, true, true, true, true, true, true, true, false, false, false, false, false, false, false, false] rfl rfl (any_of HT_.out (by kernel_rfl)) (fun _ _ _ h => h) (Or.inl ⟨by rfl, ?_⟩) ?_ ?_
        rotate_left
        ·intro w'
         go_simp
         with_reducible rfl
        rotate_left
        ·simp only [Act.put, List.setIfInBounds_toArray, List.set_cons_zero, List.set_cons_succ, i64_w, i32_w]
         rfl
        refine pure_ (i := 11) (N := some 25) (v := ?_) (a' := ?_) #[true, true, true, true, true, true, true, true, true, true, false, true, false, false, false, false, false, false] rfl rfl (any_of HT_.out (by kernel_rfl)) (fun _ _ _ h => h) (Or.inl ⟨by rfl, ?_⟩) ?_ ?_
        rotate_left
        ·intro w'
         go_simp
         with_reducible rfl
        rotate_left
        ·simp only [Act.put, List.setIfInBounds_toArray, List.set_cons_zero, List.set_cons_succ, i64_w, i32_w]
         rfl
        refine pure_ (i := 12) (N := some 26) (v := ?_) (a' := ?_) #[true, true, true, true, true, true, true, true, true, true, false, true, true, false, false, false, false, false] rfl rfl (any_of HT_.out (by kernel_rfl)) (fun _ _ _ h => h) (Or.inl ⟨by rfl, ?_⟩) ?_ ?_
        rotate_left
        ·intro w'
         go_simp
         with_reducible rfl
        rotate_left
        ·simp only [Act.put, List.setIfInBounds_toArray, List.set_cons_zero, List.set_cons_succ, i64_w, i32_w]
         rfl
        refine take_ (i := 10) (N := some 24) (v := ?_) (a' := ?_) #[true, true, true, true, true, true, true, true, true, true, true, true, true, false, false, false, false, false] rfl rfl (take_ofW HT_.out HW_.out (by kernel_rfl)) (fun _ _ _ h => h) (Or.inl ⟨by rfl, ?_⟩) hHeld ?_ ?_
        rotate_left
        ·rintro w' ⟨s0, s1, s2⟩
         go_simp
         with_reducible rfl
        rotate_left
        ·simp only [Act.put, List.setIfInBounds_toArray, List.set_cons_zero, List.set_cons_succ, i64_w, i32_w]
         rfl
        refine take_ (i := 13) (N := some 27) (v := ?_) (a' := ?_) #[true, true, true, true, true, true, true, true, true, true, true, true, true, true, false, false, false, false] rfl rfl (take_ofW HT_.out HW_.out (by kernel_rfl)) (fun _ _ _ h => h) (Or.inl ⟨by rfl, ?_⟩) hHeld ?_ ?_
        rotate_left
        ·rintro w' ⟨s0, s1, s2⟩
         go_simp
         with_reducible rfl
        rotate_left
        ·simp only [Act.put, List.setIfInBounds_toArray, List.set_cons_zero, List.set_cons_succ, i64_w, i32_w]
         rfl
        refine one_ (i := 14) (N := some 28) #[true, true, true, true, true, true, true, true, true, true, true, true, true, true, true, false, false, false] rfl rfl (one_of HT_.out (by kernel_rfl)) (by decide) (fun K hK => ?_)
        refine goes_ Try.func39 (by kernel_rfl) rfl #[.string (rdOf ByteArray.empty t201 0), .string (rdOf ByteArray.empty t204 0)] (by rfl) rfl rfl (by (try simp only [List.map_toArray, List.map_cons, List.map_nil]); first | done | rfl | (simp only [List.length_drop, List.length_take]; rfl)) ?_
        with_reducible refine (isoglossref02_Compare.calls k (rdOf ByteArray.empty t201 0) (rdOf ByteArray.empty t204 0) t219 _ A23.out).mono ?_
        rintro e w34 ⟨rfl, hb⟩
        have HS0_ := (hb.cell (World.block_lt_of_cell? _ _ (hHeld.1))).trans (hHeld.1)
        have HS1_ := (hb.cell (World.block_lt_of_cell? _ _ (hHeld.2.1))).trans (hHeld.2.1)
        have HS2_ := (hb.cell (World.block_lt_of_cell? _ _ (hHeld.2.2))).trans (hHeld.2.2)
        refine ⟨_, rfl, ?_⟩
        have n0_ := Aside0.mk (Kd.R_below (by (with_reducible repeat (first | apply Kd.R_alloc | apply Kd.R_drewN | apply Kd.R_drew)); exact HO203.out) hb)
        have n1_ := Aside0.mk (Kd.R_below (by (with_reducible repeat (first | apply Kd.R_alloc | apply Kd.R_drewN | apply Kd.R_drew)); exact HO206.out) hb)
        have n2_ := Aside0.mk (below_step (by repeat (first | (with_reducible first | exact HB.out | apply below_alloc | apply pw_below_drewN | apply below_drew1) | exact HB.out)) hb)
        clear HO203
        clear HO206
        clear HB
        have HO203 := n0_
        have HO206 := n1_
        have HB := n2_
        clear n0_ n1_ n2_
        (try clear hb)
        (try clear hb2)
        (try clear hk)
        (try clear hi)
        refine hK.out _ _ ⟨HS0_, HS1_, HS2_⟩ (fun hHeld => ?_)
        clear hK K
        refine norm_ (a' := ?_) ?_ ?_
        rotate_left
        ·show Act.put _ (some 28) _ = _
         simp only [Act.put, List.setIfInBounds_toArray, List.set_cons_zero, List.set_cons_succ, i64_w, i32_w]
         rfl
        refine pure_ (i := 15) (N := some 29) (v := ?_) (a' := ?_) #[true, true, true, true, true, true, true, true, true, true, true, true, true, true, true, true, false, false] rfl rfl (any_of HT_.out (by kernel_rfl)) (fun _ _ _ h => h) (Or.inl ⟨by rfl, ?_⟩) ?_ ?_
        rotate_left
        ·intro w'
         go_simp
         with_reducible rfl
        rotate_left
        ·simp only [Act.put, List.setIfInBounds_toArray, List.set_cons_zero, List.set_cons_succ, i64_w, i32_w]
         rfl
        refine pure_ (i := 16) (N := some 30) (v := ?_) (a' := ?_) #[true, true, true, true, true, true, true, true, true, true, true, true, true, true, true, true, true, false] rfl rfl (any_of HT_.out (by kernel_rfl)) (fun _ _ _ h => h) (Or.inl ⟨by rfl, ?_⟩) ?_ ?_
        rotate_left
        ·intro w'
         go_simp
         with_reducible rfl
        rotate_left
        ·simp only [Act.put, List.setIfInBounds_toArray, List.set_cons_zero, List.set_cons_succ, i64_w, i32_w]
         rfl
        refine pure_ (i := 17) (N := some 31) (v := ?_) (a' := ?_) #[true, true, true, true, true, true, true, true, true, true, true, true, true, true, true, true, true, true] rfl rfl (any_of HT_.out (by kernel_rfl)) (fun _ _ _ h => h) (Or.inl ⟨by rfl, ?_⟩) ?_ ?_
        rotate_left
        ·intro w'
         go_simp
         with_reducible rfl
        rotate_left
        ·simp only [Act.put, List.setIfInBounds_toArray, List.set_cons_zero, List.set_cons_succ, i64_w, i32_w]
         rfl
        refine done_ (done_of HT_.out (by kernel_rfl)) ?_
        try go_wp2
        have n0_ := Aside0.mk (Kd.R_drew HO203.out)
        have n1_ := Aside0.mk (Kd.R_drew HO206.out)
        have n2_ := Aside0.mk (below_drew1 HB.out)
        clear HO203
        clear HO206
        clear HB
        have HO203 := n0_
        have HO206 := n1_
        have HB := n2_
        clear n0_ n1_ n2_
        have q36 : (1 : Int) ≤ ((t201.length : Int) : Int) := of_decide_eq_true (by first | (with_reducible assumption) | assumption)
        obtain ⟨i036, hi036, _, hsz36, _⟩ := info_parts info9
        have hroom36 : t201.length ≤ co32 := (Kd.R_reads' HO203.out).2.1
        have hC36 : Kd.C Kd.string _ (some ad207) t201.length t201 := (Kd.R_reads' HO203.out).2.2
        have hcut36 := cut_from (P := Try.prog) 25 9 .i64 Try.underlying25 hi036 1 hsz36 (some ad207) t201.length co32 1 (by omega) q36
        have hr36 := Kd.C_drop (m := (1 : Int).toNat) (c := co32) hC36 (by omega) hroom36
        obtain ⟨A36, hA36⟩ : ∃ A1, A1 = (if co32 = (1 : Int).toNat then (some ad207) else ((some ad207) : Option Addr).map (·.add ((1 : Int).toNat * 1))) := ⟨_, rfl⟩
        obtain ⟨c36, hc36⟩ : ∃ c1, c1 = co32 - (1 : Int).toNat := ⟨_, rfl⟩
        have hy36 : y220.length = t201.length - (1 : Int).toNat := (by rw [Ny220.out, List.length_drop] <;> omega)
        rw [show (t201).drop (1 : Int).toNat = y220 from Ny220.out.symm] at hr36
        replace hr36 : Kd.C Kd.string _ A36 y220.length y220 := (by rw [hA36]; exact hr36)
        rw [← hy36, ← hA36, ← hc36] at hcut36
        have HR223 := Aside0.mk hr36
        have HC223 := Aside0.mk (show y220.length ≤ c36 from by rw [hy36, hc36]; exact Nat.sub_le_sub_right hroom36 _)
        clear hr36 hC36 hroom36 hi036 hsz36 hc36
        have KY36 := Aside0.mk hy36
        have KA36 := Aside0.mk hA36
        clear hy36 hA36
        have KL36 := Aside0.mk (show 1 ≤ t201.length from by omega)
        replace q36 := eq_true q36
        have q37 : (1 : Int) ≤ ((t204.length : Int) : Int) := of_decide_eq_true (by first | (with_reducible assumption) | assumption)
        obtain ⟨i037, hi037, _, hsz37, _⟩ := info_parts info9
        have hroom37 : t204.length ≤ co33 := (Kd.R_reads' HO206.out).2.1
        have hC37 : Kd.C Kd.string _ (some ad218) t204.length t204 := (Kd.R_reads' HO206.out).2.2
        have hcut37 := cut_from (P := Try.prog) 25 9 .i64 Try.underlying25 hi037 1 hsz37 (some ad218) t204.length co33 1 (by omega) q37
        have hr37 := Kd.C_drop (m := (1 : Int).toNat) (c := co33) hC37 (by omega) hroom37
        obtain ⟨A37, hA37⟩ : ∃ A1, A1 = (if co33 = (1 : Int).toNat then (some ad218) else ((some ad218) : Option Addr).map (·.add ((1 : Int).toNat * 1))) := ⟨_, rfl⟩
        obtain ⟨c37, hc37⟩ : ∃ c1, c1 = co33 - (1 : Int).toNat := ⟨_, rfl⟩
        have hy37 : y224.length = t204.length - (1 : Int).toNat := (by rw [Ny224.out, List.length_drop] <;> omega)
        rw [show (t204).drop (1 : Int).toNat = y224 from Ny224.out.symm] at hr37
        replace hr37 : Kd.C Kd.string _ A37 y224.length y224 := (by rw [hA37]; exact hr37)
        rw [← hy37, ← hA37, ← hc37] at hcut37
        have HR227 := Aside0.mk hr37
        have HC227 := Aside0.mk (show y224.length ≤ c37 from by rw [hy37, hc37]; exact Nat.sub_le_sub_right hroom37 _)
        clear hr37 hC37 hroom37 hi037 hsz37 hc37
        have KY37 := Aside0.mk hy37
        have KA37 := Aside0.mk hA37
        clear hy37 hA37
        have KL37 := Aside0.mk (show 1 ≤ t204.length from by omega)
        replace q37 := eq_true q37
        refine start_ (n := 6) (S := fun w' => True) (ds := []) #[false, false, false, false, false, false] (by kernel_rfl) rfl rfl trivial (fun hHeld => ?_)
        generalize w34.drew = w35 at HO203 HO206 HB HR223 HR227 hHeld ⊢
        refine pure_ (i := 0) (N := some 32) (v := ?_) (a' := ?_) #[true, false, false, false, false, false] rfl rfl (by kernel_rfl) (fun _ _ _ h => h) (Or.inl ⟨by rfl, ?_⟩) ?_ ?_
        rotate_left
        ·intro w'
         go_simp
         with_reducible rfl
        rotate_left
        ·simp only [Act.put, List.setIfInBounds_toArray, List.set_cons_zero, List.set_cons_succ, i64_w, i32_w]
         rfl
        refine pure_ (i := 1) (N := some 33) (v := ?_) (a' := ?_) #[true, true, false, false, false, false] rfl rfl (by kernel_rfl) (fun _ _ _ h => h) (Or.inl ⟨by rfl, ?_⟩) ?_ ?_
        rotate_left
        ·intro w'
         go_simp
         with_reducible rfl
        rotate_left
        ·simp only [Act.put, List.setIfInBounds_toArray, List.set_cons_zero, List.set_cons_succ, i64_w, i32_w]
         rfl
        refine pure_ (i := 2) (N := some 34) (v := ?_) (a' := ?_) #[true, true, true, false, false, false] rfl rfl (by kernel_rfl) (fun _ _ _ h => h) (Or.inl ⟨by rfl, ?_⟩) ?_ ?_
        rotate_left
        ·intro w'
         go_simp
         with_reducible rfl
        rotate_left
        ·simp only [Act.put, List.setIfInBounds_toArray, List.set_cons_zero, List.set_cons_succ, i64_w, i32_w]
         rfl
        refine pure_ (i := 3) (N := some 35) (v := ?_) (a' := ?_) #[true, true, true, true, false, false] rfl rfl (by kernel_rfl) (fun _ _ _ h => h) (Or.inl ⟨by rfl, ?_⟩) ?_ ?_
        rotate_left
        ·intro w'
         go_simp
         with_reducible rfl
        rotate_left
        ·simp only [Act.put, List.setIfInBounds_toArray, List.set_cons_zero, List.set_cons_succ, i64_w, i32_w]
         rfl
        refine one_ (i := 4) (N := some 36) #[true, true, true, true, true, false] rfl rfl (by kernel_rfl) (by decide) (fun K hK => ?_)
        refine goes_ Try.func40 (by kernel_rfl) rfl #[.slice A36 y220.length c36, .slice A37 y224.length c37] (by rfl) rfl rfl (by (try simp only [List.map_toArray, List.map_cons, List.map_nil]); first | done | rfl | (simp only [List.length_drop, List.length_take]; rfl)) ?_
        with_reducible refine (isoglossref20_walk.calls k _ _ y220 _ _ y224 t228 _ ?side1 ?side2 ?side3 ?side4 A27.out).mono ?_
        (case side1 => repeat (first | exact (by repeat (first | (with_reducible exact HR223.out) | (with_reducible refine Kd.C_alloc ?_ _) | (with_reducible refine Kd.C_drewN ?_ _) | (with_reducible refine Kd.C_drew ?_) | exact HR223.out)) | (with_reducible refine Kd.C_alloc ?_ _) | (with_reducible refine Kd.C_drewN ?_ _) | (with_reducible refine Kd.C_drew ?_)))
        (case side2 => exact HC223.out)
        (case side3 => repeat (first | exact (by repeat (first | (with_reducible exact HR227.out) | (with_reducible refine Kd.C_alloc ?_ _) | (with_reducible refine Kd.C_drewN ?_ _) | (with_reducible refine Kd.C_drew ?_) | exact HR227.out)) | (with_reducible refine Kd.C_alloc ?_ _) | (with_reducible refine Kd.C_drewN ?_ _) | (with_reducible refine Kd.C_drew ?_)))
        (case side4 => exact HC227.out)
        rintro e w38 ⟨rfl, hb⟩
        refine ⟨_, rfl, ?_⟩
        have n0_ := Aside0.mk (Kd.R_below (by (with_reducible repeat (first | apply Kd.R_alloc | apply Kd.R_drewN | apply Kd.R_drew)); exact HO203.out) hb)
        have n1_ := Aside0.mk (Kd.R_below (by (with_reducible repeat (first | apply Kd.R_alloc | apply Kd.R_drewN | apply Kd.R_drew)); exact HO206.out) hb)
        have n2_ := Aside0.mk (Kd.C_below (by repeat (first | (with_reducible exact HR223.out) | (with_reducible refine Kd.C_alloc ?_ _) | (with_reducible refine Kd.C_drewN ?_ _) | (with_reducible refine Kd.C_drew ?_) | exact HR223.out)) hb)
        have n3_ := Aside0.mk (Kd.C_below (by repeat (first | (with_reducible exact HR227.out) | (with_reducible refine Kd.C_alloc ?_ _) | (with_reducible refine Kd.C_drewN ?_ _) | (with_reducible refine Kd.C_drew ?_) | exact HR227.out)) hb)
        have n4_ := Aside0.mk (below_step (by repeat (first | (with_reducible first | exact HB.out | apply below_alloc | apply pw_below_drewN | apply below_drew1) | exact HB.out)) hb)
        clear HO203
        clear HO206
        clear HR223
        clear HR227
        clear HB
        have HO203 := n0_
        have HO206 := n1_
        have HR223 := n2_
        have HR227 := n3_
        have HB := n4_
        clear n0_ n1_ n2_ n3_ n4_
        (try clear hb)
        (try clear hb2)
        (try clear hk)
        (try clear hi)
        refine hK.out _ _ trivial (fun hHeld => ?_)
        clear hK K
        refine norm_ (a' := ?_) ?_ ?_
        rotate_left
        ·show Act.put _ (some 36) _ = _
         simp only [Act.put, List.setIfInBounds_toArray, List.set_cons_zero, List.set_cons_succ, i64_w, i32_w]
         rfl
        refine pure_ (i := 5) (N := some 4) (v := ?_) (a' := ?_) #[true, true, true, true, true, true] rfl rfl (by kernel_rfl) (fun _ _ _ h => h) (Or.inl ⟨by rfl, ?_⟩) ?_ ?_
        rotate_left
        ·intro w'
         go_simp
         with_reducible rfl
        rotate_left
        ·simp only [Act.put, List.setIfInBounds_toArray, List.set_cons_zero, List.set_cons_succ, i64_w, i32_w]
         rfl
        refine done_ (by kernel_rfl) ?_
        try go_wp2
        go_ret
        exact ⟨by first | rfl | (simp [errW_none, errW_some] <;> rfl) | (simp [*, errW_none, errW_some] <;> rfl), by repeat (first | (with_reducible first | exact HB.out | apply below_alloc | apply pw_below_drewN | apply below_drew1) | exact HB.out)⟩
       ·rw [if_neg c26] at H
        exact absurd H (by simp)
      ·rw [if_neg c25] at H
       exact absurd H (by simp)
     ·rw [if_neg c24] at H
      have c24b0 : (t219 == 0) = false := beq_eq_false_iff_ne.mpr c24
      have c24b1 : (t219 != 0) = true := bne_iff_ne.mpr c24
      obtain rfl := Option.some.inj H
      go_enter Try.func28, Try.ntmps28
      try go_wp2_with (first | ((with_reducible refine gate_callee (f := 26) rfl ?_); refine goesL_ (some 9) rfl rfl Try.func26 (by kernel_rfl) rfl #[.string a0] rfl (by (try simp only [List.map_toArray, List.map_cons, List.map_nil]); first | done | rfl | (simp only [List.length_drop, List.length_take]; rfl)) ?_; (with_reducible refine (isoglossref20_Extended.calls k a0 true _ A3.out).mono ?_); rintro e w39 ⟨rfl, hb⟩; refine ⟨_, rfl, ?_⟩; have n0_ := Aside0.mk (below_step (by repeat (first | (with_reducible first | exact HB.out | apply below_alloc | apply pw_below_drewN | apply below_drew1) | exact HB.out)) hb); clear HB; have HB := n0_; clear n0_; (try clear hb); (try clear hb2); (try clear hk); (try clear hi)) | ((with_reducible refine gate_callee (f := 16) rfl ?_); refine goesL_ (some 11) rfl rfl Try.func16 (by kernel_rfl) rfl #[.string a0] rfl (by (try simp only [List.map_toArray, List.map_cons, List.map_nil]); first | done | rfl | (simp only [List.length_drop, List.length_take]; rfl)) ?_; (with_reducible refine (isoglossref04_Split.calls k a0 t201 _ A4.out).mono ?_); rintro e w40 ⟨v202, rfl, ho0, hb⟩; refine ⟨_, rfl, ?_⟩; have n0_ := Aside0.mk (Kd.R_lower ho0 (below_size (by repeat (first | (with_reducible first | exact HB.out | apply below_alloc | apply pw_below_drewN | apply below_drew1) | exact HB.out)))); have n1_ := Aside0.mk (below_step (by repeat (first | (with_reducible first | exact HB.out | apply below_alloc | apply pw_below_drewN | apply below_drew1) | exact HB.out)) hb); clear HB; have HO203 := n0_; have HB := n1_; clear n0_ n1_; (try clear hb); (try clear hb2); (try clear hk); (try clear hi); (try clear ho0)) | ((with_reducible refine gate_callee (f := 16) rfl ?_); refine goesL_ (some 13) rfl rfl Try.func16 (by kernel_rfl) rfl #[.string a1] rfl (by (try simp only [List.map_toArray, List.map_cons, List.map_nil]); first | done | rfl | (simp only [List.length_drop, List.length_take]; rfl)) ?_; (with_reducible refine (isoglossref04_Split.calls k a1 t204 _ A5.out).mono ?_); rintro e w41 ⟨v205, rfl, ho0, hb⟩; refine ⟨_, rfl, ?_⟩; have n0_ := Aside0.mk (Kd.R_elder' (by (with_reducible repeat (first | apply Kd.R_alloc | apply Kd.R_drewN | apply Kd.R_drew)); exact HO203.out) (Kd.R_base ho0) hb); have n1_ := Aside0.mk (Kd.R_lower (Kd.R_new' ho0 (Kd.R_lt (by (with_reducible repeat (first | apply Kd.R_alloc | apply Kd.R_drewN | apply Kd.R_drew)); exact HO203.out))) (below_size (by repeat (first | (with_reducible first | exact HB.out | apply below_alloc | apply pw_below_drewN | apply below_drew1) | exact HB.out)))); have n2_ := Aside0.mk (below_step (by repeat (first | (with_reducible first | exact HB.out | apply below_alloc | apply pw_below_drewN | apply below_drew1) | exact HB.out)) hb); clear HO203; clear HB; have HO203 := n0_; have HO206 := n1_; have HB := n2_; clear n0_ n1_ n2_; (try clear hb); (try clear hb2); (try clear hk); (try clear hi); (try clear ho0)))
      have n0_ := Aside0.mk (Kd.R_drew HO203.out)
      have n1_ := Aside0.mk (Kd.R_drew HO206.out)
      have n2_ := Aside0.mk (below_drew1 HB.out)
      clear HO203
      clear HO206
      clear HB
      have HO203 := n0_
      have HO206 := n1_
      have HB := n2_
      clear n0_ n1_ n2_
      obtain ⟨Ao43, co43, eo43⟩ := Kd.R_slice HO203.out
      (first | subst eo43 | (injection eo43 with f1_ f2_ f3_; have f4_ := f1_.symm; have f5_ := f3_.symm; clear f1_ f2_ f3_; subst f4_; subst f5_))
      have p207 : 0 ≤ (0 : Int) := (by omega)
      have q207 : 0 < (t201.length : Int) := of_decide_eq_true (by first | (with_reducible assumption) | assumption)
      obtain ⟨ad207, e207, hx207_0⟩ := Kd.at_string (Kd.R_reads' HO203.out).2.2 0 p207 q207
      cases e207
      have qi207 : (0 < t201.length) = True := eq_true (by omega)
      (try rw [show ((0 : Int)).toNat = 0 from rfl] at hx207_0)
      (try rw [Addr.add_zero'] at hx207_0)
      replace p207 := eq_true p207
      replace q207 := eq_true q207
      have p217 : 0 ≤ (0 : Int) := (by omega)
      have q217 : 0 < (t201.length : Int) := of_decide_eq_true (by first | (with_reducible assumption) | assumption)
      obtain ⟨ad217, e217, hx217_0⟩ := Kd.at_string (Kd.R_reads' HO203.out).2.2 0 p217 q217
      obtain rfl : ad207 = ad217 := (by injection e217)
      have qi217 : (0 < t201.length) = True := eq_true (by omega)
      (try rw [show ((0 : Int)).toNat = 0 from rfl] at hx217_0)
      (try rw [Addr.add_zero'] at hx217_0)
      replace p217 := eq_true p217
      replace q217 := eq_true q217
      obtain ⟨Ao44, co44, eo44⟩ := Kd.R_slice HO206.out
      (first | subst eo44 | (injection eo44 with f1_ f2_ f3_; have f4_ := f1_.symm; have f5_ := f3_.symm; clear f1_ f2_ f3_; subst f4_; subst f5_))
      have p218 : 0 ≤ (0 : Int) := (by omega)
      have q218 : 0 < (t204.length : Int) := of_decide_eq_true (by first | (with_reducible assumption) | assumption)
      obtain ⟨ad218, e218, hx218_0⟩ := Kd.at_string (Kd.R_reads' HO206.out).2.2 0 p218 q218
      cases e218
      have qi218 : (0 < t204.length) = True := eq_true (by omega)
      (try rw [show ((0 : Int)).toNat = 0 from rfl] at hx218_0)
      (try rw [Addr.add_zero'] at hx218_0)
      replace p218 := eq_true p218
      replace q218 := eq_true q218
      refine start_ (n := 18) (S := fun w' => w'.cell? ad207 = some (.string (rdOf ByteArray.empty t201 0)) ∧ w'.cell? ad207 = some (.string (rdOf ByteArray.empty t201 0)) ∧ w'.cell? ad218 = some (.string (rdOf ByteArray.empty t204 0))) (ds := []) #[false, false, false, false, false, false, false, false, false, false, false, false, false, false, false, false, false, false] (by kernel_rfl) rfl rfl ⟨hx207_0, hx217_0, hx218_0⟩ (fun hHeld => ?_); refine with_tabW isoglossref20_MatchesExtended.tab4 isoglossref20_MatchesExtended.bits4 (fun HT_ HW_ => ?_)
      generalize w41.drew = w42 at HO203 HO206 HB hx207_0 hx217_0 hx218_0 hHeld ⊢
      refine pure_ (i := 0) (N := some 14) (v := ?_) (a' := ?_) #[true, false, false, false, false, false, false, false, false, false, false, false, false, false, false, false, false, false] rfl rfl (any_of HT_.out (by kernel_rfl)) (fun _ _ _ h => h) (Or.inl ⟨by rfl, ?_⟩) ?_ ?_
      rotate_left
      ·intro w'
       go_simp
       with_reducible rfl
      rotate_left
      ·simp only [Act.put, List.setIfInBounds_toArray, List.set_cons_zero, List.set_cons_succ, i64_w, i32_w]
       rfl
      refine pure_ (i := 1) (N := some 15) (v := ?_) (a' := ?_) #[true, true, false, false, false, false, false, false, false, false, false, false, false, false, false, false, false, false] rfl rfl (any_of HT_.out (by kernel_rfl)) (fun _ _ _ h => h) (Or.inl ⟨by rfl, ?_⟩) ?_ ?_
      rotate_left
      ·intro w'
       go_simp
       with_reducible rfl
      rotate_left
      ·simp only [Act.put, List.setIfInBounds_toArray, List.set_cons_zero, List.set_cons_succ, i64_w, i32_w]
       rfl
      refine pure_ (i := 2) (N := some 16) (v := ?_) (a' := ?_) #[true, true, true, false, false, false, false, false, false, false, false, false, false, false, false, false, false, false] rfl rfl (any_of HT_.out (by kernel_rfl)) (fun _ _ _ h => h) (Or.inl ⟨by rfl, ?_⟩) ?_ ?_
      rotate_left
      ·intro w'
       go_simp
       with_reducible rfl
      rotate_left
      ·simp only [Act.put, List.setIfInBounds_toArray, List.set_cons_zero, List.set_cons_succ, i64_w, i32_w]
       rfl
      refine pure_ (i := 3) (N := some 17) (v := ?_) (a' := ?_) #[true, true, true, true, false, false, false, false, false, false, false, false, false, false, false, false, false, false] rfl rfl (any_of HT_.out (by kernel_rfl)) (fun _ _ _ h => h) (Or.inl ⟨by rfl, ?_⟩) ?_ ?_
      rotate_left
      ·intro w'
       go_simp
       with_reducible rfl
      rotate_left
      ·simp only [Act.put, List.setIfInBounds_toArray, List.set_cons_zero, List.set_cons_succ, i64_w, i32_w]
       rfl
      refine pure_ (i := 4) (N := some 18) (v := ?_) (a' := ?_) #[true, true, true, true, true, false, false, false, false, false, false, false, false, false, false, false, false, false] rfl rfl (any_of HT_.out (by kernel_rfl)) (fun _ _ _ h => h) (Or.inl ⟨by rfl, ?_⟩) ?_ ?_
      rotate_left
      ·intro w'
       go_simp
       with_reducible rfl
      rotate_left
      ·simp only [Act.put, List.setIfInBounds_toArray, List.set_cons_zero, List.set_cons_succ, i64_w, i32_w]
       rfl
      refine take_ (i := 5) (N := some 19) (v := ?_) (a' := ?_) #[true, true, true, true, true, true, false, false, false, false, false, false, false, false, false, false, false, false] rfl rfl (take_ofW HT_.out HW_.out (by kernel_rfl)) (fun _ _ _ h => h) (Or.inl ⟨by rfl, ?_⟩) hHeld ?_ ?_
      rotate_left
      ·rintro w' ⟨s0, s1, s2⟩
       go_simp
       with_reducible rfl
      rotate_left
      ·simp only [Act.put, List.setIfInBounds_toArray, List.set_cons_zero, List.set_cons_succ, i64_w, i32_w]
       rfl
      refine pure_ (i := 6) (N := some 20) (v := ?_) (a' := ?_) #[true, true, true, true, true, true, true, false, false, false, false, false, false, false, false, false, false, false] rfl rfl (any_of HT_.out (by kernel_rfl)) (fun _ _ _ h => h) (Or.inl ⟨by rfl, ?_⟩) ?_ ?_
      rotate_left
      ·intro w'
       go_simp
       with_reducible rfl
      rotate_left
      ·simp only [Act.put, List.setIfInBounds_toArray, List.set_cons_zero, List.set_cons_succ, i64_w, i32_w]
       rfl
      refine pure_ (i := 7) (N := some 21) (v := ?_) (a' := ?_) #[true, true, true, true, true, true, true, true, false, false, false, false, false, false, false, false, false, false] rfl rfl (any_of HT_.out (by kernel_rfl)) (fun _ _ _ h => h) (Or.inl ⟨by rfl, ?_⟩) ?_ ?_
      rotate_left
      ·intro w'
       go_simp
       with_reducible rfl
      rotate_left
      ·simp only [Act.put, List.setIfInBounds_toArray, List.set_cons_zero, List.set_cons_succ, i64_w, i32_w]
       rfl
      refine pure_ (i := 8) (N := some 22) (v := ?_) (a' := ?_) #[true, true, true, true, true, true, true, true, true, false, false, false, false, false, false, false, false, false] rfl rfl (any_of HT_.out (by kernel_rfl)) (fun _ _ _ h => h) (Or.inl ⟨by rfl, ?_⟩) ?_ ?_
      rotate_left
      ·intro w'
       go_simp
       with_reducible rfl
      rotate_left
      ·simp only [Act.put, List.setIfInBounds_toArray, List.set_cons_zero, List.set_cons_succ, i64_w, i32_w]
       rfl
      refine pure_ (i := 9) (N := some 23) (v := ?_) (a' := ?_) #[true, true, true, true, true, true, true, true, true, true, false, false, false, false, false, false, false, false] rfl rfl (any_of HT_.out (by kernel_rfl)) (fun _ _ _ h => h) (Or.inl ⟨by rfl, ?_⟩) ?_ ?_
      rotate_left
      ·intro w'
       go_simp
       with_reducible rfl
      rotate_left
      ·simp only [Act.put, List.setIfInBounds_toArray, List.set_cons_zero, List.set_cons_succ, i64_w, i32_w]
       rfl
      refine pure_ (i := 11) (N := some 25) (v := ?_) (a' := ?_) #[true, true, true, true, true, true, true, true, true, true, false, true, false, false, false, false, false, false] rfl rfl (any_of HT_.out (by kernel_rfl)) (fun _ _ _ h => h) (Or.inl ⟨by rfl, ?_⟩) ?_ ?_
      rotate_left
      ·intro w'
       go_simp
       with_reducible rfl
      rotate_left
      ·simp only [Act.put, List.setIfInBounds_toArray, List.set_cons_zero, List.set_cons_succ, i64_w, i32_w]
       rfl
      refine pure_ (i := 12) (N := some 26) (v := ?_) (a' := ?_) #[true, true, true, true, true, true, true, true, true, true, false, true, true, false, false, false, false, false] rfl rfl (any_of HT_.out (by kernel_rfl)) (fun _ _ _ h => h) (Or.inl ⟨by rfl, ?_⟩) ?_ ?_
      rotate_left
      ·intro w'
       go_simp
       with_reducible rfl
      rotate_left
      ·simp only [Act.put, List.setIfInBounds_toArray, List.set_cons_zero, List.set_cons_succ, i64_w, i32_w]
       rfl
      refine take_ (i := 10) (N := some 24) (v := ?_) (a' := ?_) #[true, true, true, true, true, true, true, true, true, true, true, true, true, false, false, false, false, false] rfl rfl (take_ofW HT_.out HW_.out (by kernel_rfl)) (fun _ _ _ h => h) (Or.inl ⟨by rfl, ?_⟩) hHeld ?_ ?_
      rotate_left
      ·rintro w' ⟨s0, s1, s2⟩
       go_simp
       with_reducible rfl
      rotate_left
      ·simp only [Act.put, List.setIfInBounds_toArray, List.set_cons_zero, List.set_cons_succ, i64_w, i32_w]
       rfl
      refine take_ (i := 13) (N := some 27) (v := ?_) (a' := ?_) #[true, true, true, true, true, true, true, true, true, true, true, true, true, true, false, false, false, false] rfl rfl (take_ofW HT_.out HW_.out (by kernel_rfl)) (fun _ _ _ h => h) (Or.inl ⟨by rfl, ?_⟩) hHeld ?_ ?_
      rotate_left
      ·rintro w' ⟨s0, s1, s2⟩
       go_simp
       with_reducible rfl
      rotate_left
      ·simp only [Act.put, List.setIfInBounds_toArray, List.set_cons_zero, List.set_cons_succ, i64_w, i32_w]
       rfl
      refine one_ (i := 14) (N := some 28) #[true, true, true, true, true, true, true, true, true, true, true, true, true, true, true, false, false, false] rfl rfl (one_of HT_.out (by kernel_rfl)) (by decide) (fun K hK => ?_)
      refine goes_ Try.func39 (by kernel_rfl) rfl #[.string (rdOf ByteArray.empty t201 0), .string (rdOf ByteArray.empty t204 0)] (by rfl) rfl rfl (by (try simp only [List.map_toArray, List.map_cons, List.map_nil]); first | done | rfl | (simp only [List.length_drop, List.length_take]; rfl)) ?_
      with_reducible refine (isoglossref02_Compare.calls k (rdOf ByteArray.empty t201 0) (rdOf ByteArray.empty t204 0) t219 _ A23.out).mono ?_
      rintro e w45 ⟨rfl, hb⟩
      have HS0_ := (hb.cell (World.block_lt_of_cell? _ _ (hHeld.1))).trans (hHeld.1)
      have HS1_ := (hb.cell (World.block_lt_of_cell? _ _ (hHeld.2.1))).trans (hHeld.2.1)
      have HS2_ := (hb.cell (World.block_lt_of_cell? _ _ (hHeld.2.2))).trans (hHeld.2.2)
      refine ⟨_, rfl, ?_⟩
      have n0_ := Aside0.mk (Kd.R_below (by (with_reducible repeat (first | apply Kd.R_alloc | apply Kd.R_drewN | apply Kd.R_drew)); exact HO203.out) hb)
      have n1_ := Aside0.mk (Kd.R_below (by (with_reducible repeat (first | apply Kd.R_alloc | apply Kd.R_drewN | apply Kd.R_drew)); exact HO206.out) hb)
      have n2_ := Aside0.mk (below_step (by repeat (first | (with_reducible first | exact HB.out | apply below_alloc | apply pw_below_drewN | apply below_drew1) | exact HB.out)) hb)
      clear HO203
      clear HO206
      clear HB
      have HO203 := n0_
      have HO206 := n1_
      have HB := n2_
      clear n0_ n1_ n2_
      (try clear hb)
      (try clear hb2)
      (try clear hk)
      (try clear hi)
      refine hK.out _ _ ⟨HS0_, HS1_, HS2_⟩ (fun hHeld => ?_)
      clear hK K
      refine norm_ (a' := ?_) ?_ ?_
      rotate_left
      ·show Act.put _ (some 28) _ = _
       simp only [Act.put, List.setIfInBounds_toArray, List.set_cons_zero, List.set_cons_succ, i64_w, i32_w]
       rfl
      refine pure_ (i := 15) (N := some 29) (v := ?_) (a' := ?_) #[true, true, true, true, true, true, true, true, true, true, true, true, true, true, true, true, false, false] rfl rfl (any_of HT_.out (by kernel_rfl)) (fun _ _ _ h => h) (Or.inl ⟨by rfl, ?_⟩) ?_ ?_
      rotate_left
      ·intro w'
       go_simp
       with_reducible rfl
      rotate_left
      ·simp only [Act.put, List.setIfInBounds_toArray, List.set_cons_zero, List.set_cons_succ, i64_w, i32_w]
       rfl
      refine pure_ (i := 16) (N := some 30) (v := ?_) (a' := ?_) #[true, true, true, true, true, true, true, true, true, true, true, true, true, true, true, true, true, false] rfl rfl (any_of HT_.out (by kernel_rfl)) (fun _ _ _ h => h) (Or.inl ⟨by rfl, ?_⟩) ?_ ?_
      rotate_left
      ·intro w'
       go_simp
       with_reducible rfl
      rotate_left
      ·simp only [Act.put, List.setIfInBounds_toArray, List.set_cons_zero, List.set_cons_succ, i64_w, i32_w]
       rfl
      refine pure_ (i := 17) (N := some 31) (v := ?_) (a' := ?_) #[true, true, true, true, true, true, true, true, true, true, true, true, true, true, true, true, true, true] rfl rfl (any_of HT_.out (by kernel_rfl)) (fun _ _ _ h => h) (Or.inl ⟨by rfl, ?_⟩) ?_ ?_
      rotate_left
      ·intro w'
       go_simp
       with_reducible rfl
      rotate_left
      ·simp only [Act.put, List.setIfInBounds_toArray, List.set_cons_zero, List.set_cons_succ, i64_w, i32_w]
       rfl
      refine done_ (done_of HT_.out (by kernel_rfl)) ?_
      try go_wp2
      go_ret
      exact ⟨by first | rfl | (simp [errW_none, errW_some] <;> rfl) | (simp [*, errW_none, errW_some] <;> rfl), by repeat (first | (with_reducible first | exact HB.out | apply below_alloc | apply pw_below_drewN | apply below_drew1) | exact HB.out)⟩
    ·rw [if_neg c22] at H
     exact absurd H (by simp)
  ·rw [if_neg c7] at H
   exact absurd H (by simp)
 ·replace c6 := Bool.eq_false_iff.mpr c6
  subst c6
  have H1 : (some false) = some r := by rw [if_neg (show ¬ (false = true) by decide)] at H; exact H
  clear H
  have H := H1
  clear H1
  obtain rfl := Option.some.inj H
  go_enter Try.func28, Try.ntmps28
  try go_wp2_with (first | ((with_reducible refine gate_callee (f := 26) rfl ?_); refine goesL_ (some 9) rfl rfl Try.func26 (by kernel_rfl) rfl #[.string a0] rfl (by (try simp only [List.map_toArray, List.map_cons, List.map_nil]); first | done | rfl | (simp only [List.length_drop, List.length_take]; rfl)) ?_; (with_reducible refine (isoglossref20_Extended.calls k a0 false _ A3.out).mono ?_); rintro e w46 ⟨rfl, hb⟩; refine ⟨_, rfl, ?_⟩; have n0_ := Aside0.mk (below_step (by repeat (first | (with_reducible first | exact HB.out | apply below_alloc | apply pw_below_drewN | apply below_drew1) | exact HB.out)) hb); clear HB; have HB := n0_; clear n0_; (try clear hb); (try clear hb2); (try clear hk); (try clear hi)) | ((with_reducible refine gate_callee (f := 16) rfl ?_); refine goesL_ (some 11) rfl rfl Try.func16 (by kernel_rfl) rfl #[.string a0] rfl (by (try simp only [List.map_toArray, List.map_cons, List.map_nil]); first | done | rfl | (simp only [List.length_drop, List.length_take]; rfl)) ?_; (with_reducible refine (isoglossref04_Split.calls k a0 t201 _ A4.out).mono ?_); rintro e w47 ⟨v202, rfl, ho0, hb⟩; refine ⟨_, rfl, ?_⟩; have n0_ := Aside0.mk (Kd.R_lower ho0 (below_size (by repeat (first | (with_reducible first | exact HB.out | apply below_alloc | apply pw_below_drewN | apply below_drew1) | exact HB.out)))); have n1_ := Aside0.mk (below_step (by repeat (first | (with_reducible first | exact HB.out | apply below_alloc | apply pw_below_drewN | apply below_drew1) | exact HB.out)) hb); clear HB; have HO203 := n0_; have HB := n1_; clear n0_ n1_; (try clear hb); (try clear hb2); (try clear hk); (try clear hi); (try clear ho0)) | ((with_reducible refine gate_callee (f := 16) rfl ?_); refine goesL_ (some 13) rfl rfl Try.func16 (by kernel_rfl) rfl #[.string a1] rfl (by (try simp only [List.map_toArray, List.map_cons, List.map_nil]); first | done | rfl | (simp only [List.length_drop, List.length_take]; rfl)) ?_; (with_reducible refine (isoglossref04_Split.calls k a1 t204 _ A5.out).mono ?_); rintro e w48 ⟨v205, rfl, ho0, hb⟩; refine ⟨_, rfl, ?_⟩; have n0_ := Aside0.mk (Kd.R_elder' (by (with_reducible repeat (first | apply Kd.R_alloc | apply Kd.R_drewN | apply Kd.R_drew)); exact HO203.out) (Kd.R_base ho0) hb); have n1_ := Aside0.mk (Kd.R_lower (Kd.R_new' ho0 (Kd.R_lt (by (with_reducible repeat (first | apply Kd.R_alloc | apply Kd.R_drewN | apply Kd.R_drew)); exact HO203.out))) (below_size (by repeat (first | (with_reducible first | exact HB.out | apply below_alloc | apply pw_below_drewN | apply below_drew1) | exact HB.out)))); have n2_ := Aside0.mk (below_step (by repeat (first | (with_reducible first | exact HB.out | apply below_alloc | apply pw_below_drewN | apply below_drew1) | exact HB.out)) hb); clear HO203; clear HB; have HO203 := n0_; have HO206 := n1_; have HB := n2_; clear n0_ n1_ n2_; (try clear hb); (try clear hb2); (try clear hk); (try clear hi); (try clear ho0)))
  have n0_ := Aside0.mk (Kd.R_drew HO203.out)
  have n1_ := Aside0.mk (Kd.R_drew HO206.out)
  have n2_ := Aside0.mk (below_drew1 HB.out)
  clear HO203
  clear HO206
  clear HB
  have HO203 := n0_
  have HO206 := n1_
  have HB := n2_
  clear n0_ n1_ n2_
  refine start_ (n := 18) (S := fun w' => True) (ds := []) #[false, false, false, false, false, false, false, false, false, false, false, false, false, false, false, false, false, false] (by kernel_rfl) rfl rfl trivial (fun hHeld => ?_); refine with_tabW isoglossref20_MatchesExtended.tab4 isoglossref20_MatchesExtended.bits4 (fun HT_ HW_ => ?_)
  generalize w48.drew = w49 at HO203 HO206 HB hHeld ⊢
  refine pure_ (i := 0) (N := some 14) (v := ?_) (a' := ?_) #[true, false, false, false, false, false, false, false, false, false, false, false, false, false, false, false, false, false] rfl rfl (any_of HT_.out (by kernel_rfl)) (fun _ _ _ h => h) (Or.inl ⟨by rfl, ?_⟩) ?_ ?_
  rotate_left
  ·intro w'
   go_simp
   with_reducible rfl
  rotate_left
  ·simp only [Act.put, List.setIfInBounds_toArray, List.set_cons_zero, List.set_cons_succ, i64_w, i32_w]
   rfl
  refine pure_ (i := 1) (N := some 15) (v := ?_) (a' := ?_) #[true, true, false, false, false, false, false, false, false, false, false, false, false, false, false, false, false, false] rfl rfl (any_of HT_.out (by kernel_rfl)) (fun _ _ _ h => h) (Or.inl ⟨by rfl, ?_⟩) ?_ ?_
  rotate_left
  ·intro w'
   go_simp
   with_reducible rfl
  rotate_left
  ·simp only [Act.put, List.setIfInBounds_toArray, List.set_cons_zero, List.set_cons_succ, i64_w, i32_w]
   rfl
  refine pure_ (i := 2) (N := some 16) (v := ?_) (a' := ?_) #[true, true, true, false, false, false, false, false, false, false, false, false, false, false, false, false, false, false] rfl rfl (any_of HT_.out (by kernel_rfl)) (fun _ _ _ h => h) (Or.inl ⟨by rfl, ?_⟩) ?_ ?_
  rotate_left
  ·intro w'
   go_simp
   with_reducible rfl
  rotate_left
  ·simp only [Act.put, List.setIfInBounds_toArray, List.set_cons_zero, List.set_cons_succ, i64_w, i32_w]
   rfl
  refine pure_ (i := 3) (N := some 17) (v := undef) (a' := ?_) #[true, true, true, true, false, false, false, false, false, false, false, false, false, false, false, false, false, false] rfl rfl (any_of HT_.out (by kernel_rfl)) (fun _ _ _ h => h) (Or.inr ⟨by rfl, rfl⟩) ?_ ?_
  rotate_left
  ·simp only [Act.put, List.setIfInBounds_toArray, List.set_cons_zero, List.set_cons_succ, i64_w, i32_w]
   rfl
  refine pure_ (i := 4) (N := some 18) (v := undef) (a' := ?_) #[true, true, true, true, true, false, false, false, false, false, false, false, false, false, false, false, false, false] rfl rfl (any_of HT_.out (by kernel_rfl)) (fun _ _ _ h => h) (Or.inr ⟨by rfl, rfl⟩) ?_ ?_
  rotate_left
  ·simp only [Act.put, List.setIfInBounds_toArray, List.set_cons_zero, List.set_cons_succ, i64_w, i32_w]
   rfl
  refine pure_ (i := 5) (N := some 19) (v := undef) (a' := ?_) #[true, true, true, true, true, true, false, false, false, false, false, false, false, false, false, false, false, false] rfl rfl (any_of HT_.out (by kernel_rfl)) (fun _ _ _ h => h) (Or.inr ⟨by rfl, rfl⟩) ?_ ?_
  rotate_left
  ·simp only [Act.put, List.setIfInBounds_toArray, List.set_cons_zero, List.set_cons_succ, i64_w, i32_w]
   rfl
  refine pure_ (i := 6) (N := some 20) (v := undef) (a' := ?_) #[true, true, true, true, true, true, true, false, false, false, false, false, false, false, false, false, false, false] rfl rfl (any_of HT_.out (by kernel_rfl)) (fun _ _ _ h => h) (Or.inr ⟨by rfl, rfl⟩) ?_ ?_
  rotate_left
  ·simp only [Act.put, List.setIfInBounds_toArray, List.set_cons_zero, List.set_cons_succ, i64_w, i32_w]
   rfl
  refine pure_ (i := 7) (N := some 21) (v := undef) (a' := ?_) #[true, true, true, true, true, true, true, true, false, false, false, false, false, false, false, false, false, false] rfl rfl (any_of HT_.out (by kernel_rfl)) (fun _ _ _ h => h) (Or.inr ⟨by rfl, rfl⟩) ?_ ?_
  rotate_left
  ·simp only [Act.put, List.setIfInBounds_toArray, List.set_cons_zero, List.set_cons_succ, i64_w, i32_w]
   rfl
  refine pure_ (i := 8) (N := some 22) (v := undef) (a' := ?_) #[true, true, true, true, true, true, true, true, true, false, false, false, false, false, false, false, false, false] rfl rfl (any_of HT_.out (by kernel_rfl)) (fun _ _ _ h => h) (Or.inr ⟨by rfl, rfl⟩) ?_ ?_
  rotate_left
  ·simp only [Act.put, List.setIfInBounds_toArray, List.set_cons_zero, List.set_cons_succ, i64_w, i32_w]
   rfl
  refine pure_ (i := 9) (N := some 23) (v := undef) (a' := ?_) #[true, true, true, true, true, true, true, true, true, true, false, false, false, false, false, false, false, false] rfl rfl (any_of HT_.out (by kernel_rfl)) (fun _ _ _ h => h) (Or.inr ⟨by rfl, rfl⟩) ?_ ?_
  rotate_left
  ·simp only [Act.put, List.setIfInBounds_toArray, List.set_cons_zero, List.set_cons_succ, i64_w, i32_w]
   rfl
  refine pure_ (i := 10) (N := some 24) (v := undef) (a' := ?_) #[true, true, true, true, true, true, true, true, true, true, true, false, false, false, false, false, false, false] rfl rfl (any_of HT_.out (by kernel_rfl)) (fun _ _ _ h => h) (Or.inr ⟨by rfl, rfl⟩) ?_ ?_
  rotate_left
  ·simp only [Act.put, List.setIfInBounds_toArray, List.set_cons_zero, List.set_cons_succ, i64_w, i32_w]
   rfl
  refine pure_ (i := 11) (N := some 25) (v := undef) (a' := ?_) #[true, true, true, true, true, true, true, true, true, true, true, true, false, false, false, false, false, false] rfl rfl (any_of HT_.out (by kernel_rfl)) (fun _ _ _ h => h) (Or.inr ⟨by rfl, rfl⟩) ?_ ?_
  rotate_left
  ·simp only [Act.put, List.setIfInBounds_toArray, List.set_cons_zero, List.set_cons_succ, i64_w, i32_w]
   rfl
  refine pure_ (i := 12) (N := some 26) (v := undef) (a' := ?_) #[true, true, true, true, true, true, true, true, true, true, true, true, true, false, false, false, false, false] rfl rfl (any_of HT_.out (by kernel_rfl)) (fun _ _ _ h => h) (Or.inr ⟨by rfl, rfl⟩) ?_ ?_
  rotate_left
  ·simp only [Act.put, List.setIfInBounds_toArray, List.set_cons_zero, List.set_cons_succ, i64_w, i32_w]
   rfl
  refine pure_ (i := 13) (N := some 27) (v := undef) (a' := ?_) #[true, true, true, true, true, true, true, true, true, true, true, true, true, true, false, false, false, false] rfl rfl (any_of HT_.out (by kernel_rfl)) (fun _ _ _ h => h) (Or.inr ⟨by rfl, rfl⟩) ?_ ?_
  rotate_left
  ·simp only [Act.put, List.setIfInBounds_toArray, List.set_cons_zero, List.set_cons_succ, i64_w, i32_w]
   rfl
  refine pure_ (i := 14) (N := some 28) (v := undef) (a' := ?_) #[true, true, true, true, true, true, true, true, true, true, true, true, true, true, true, false, false, false] rfl rfl (any_of HT_.out (by kernel_rfl)) (fun _ _ _ h => h) (Or.inr ⟨by rfl, rfl⟩) ?_ ?_
  rotate_left
  ·simp only [Act.put, List.setIfInBounds_toArray, List.set_cons_zero, List.set_cons_succ, i64_w, i32_w]
   rfl
  refine pure_ (i := 15) (N := some 29) (v := undef) (a' := ?_) #[true, true, true, true, true, true, true, true, true, true, true, true, true, true, true, true, false, false] rfl rfl (any_of HT_.out (by kernel_rfl)) (fun _ _ _ h => h) (Or.inr ⟨by rfl, rfl⟩) ?_ ?_
  rotate_left
  ·simp only [Act.put, List.setIfInBounds_toArray, List.set_cons_zero, List.set_cons_succ, i64_w, i32_w]
   rfl
  refine pure_ (i := 16) (N := some 30) (v := undef) (a' := ?_) #[true, true, true, true, true, true, true, true, true, true, true, true, true, true, true, true, true, false] rfl rfl (any_of HT_.out (by kernel_rfl)) (fun _ _ _ h => h) (Or.inr ⟨by rfl, rfl⟩) ?_ ?_
  rotate_left
  ·simp only [Act.put, List.setIfInBounds_toArray, List.set_cons_zero, List.set_cons_succ, i64_w, i32_w]
   rfl
  refine pure_ (i := 17) (N := some 31) (v := ?_) (a' := ?_) #[true, true, true, true, true, true, true, true, true, true, true, true, true, true, true, true, true, true] rfl rfl (any_of HT_.out (by kernel_rfl)) (fun _ _ _ h => h) (Or.inl ⟨by rfl, ?_⟩) ?_ ?_
  rotate_left
  ·intro w'
   go_simp
   with_reducible rfl
  rotate_left
  ·simp only [Act.put, List.setIfInBounds_toArray, List.set_cons_zero, List.set_cons_succ, i64_w, i32_w]
   rfl
  refine done_ (done_of HT_.out (by kernel_rfl)) ?_
  try go_wp2
  go_ret
  exact ⟨by first | rfl | (simp [errW_none, errW_some] <;> rfl) | (simp [*, errW_none, errW_some] <;> rfl), by repeat (first | (with_reducible first | exact HB.out | apply below_alloc | apply pw_below_drewN | apply below_drew1) | exact HB.out)⟩

/-! ### isoglosslaw20_tells: function 11 -/
def isoglosslaw20_tells.f (k : Nat) (a0 : ByteArray) (a1 : ByteArray) : Option (Bool) := (filter_Basic.f k a0).bind fun t229 => ((isoglossref20_Basic.f k a0).bind fun t230 => (if (t229 == t230) = true then ((filter_Extended.f k a0).bind fun t231 => ((isoglossref20_Extended.f k a0).bind fun t232 => (if (t231 == t232) = true then ((filter_Matches.f k a0 a1).bind fun t233 => ((isoglossref20_Matches.f k a0 a1).bind fun t234 => (if (t233 == t234) = true then ((filter_MatchesExtended.f k a0 a1).bind fun t235 => ((isoglossref20_MatchesExtended.f k a0 a1).bind fun t236 => (some (t235 == t236)))) else (some false)))) else (some false)))) else (some false)))
theorem isoglosslaw20_tells.mono : ∀ a0 a1 k, LeO (isoglosslaw20_tells.f k a0 a1) (isoglosslaw20_tells.f (k + 1) a0 a1) := by
 intro a0 a1 k
 unfold isoglosslaw20_tells.f
 repeat' first
   | (with_reducible exact filter_Basic.mono _ _)
   | (with_reducible exact filter_Extended.mono _ _)
   | (with_reducible exact filter_Matches.mono _ _ _)
   | (with_reducible exact filter_MatchesExtended.mono _ _ _)
   | (with_reducible exact isoglossref20_Basic.mono _ _)
   | (with_reducible exact isoglossref20_Extended.mono _ _)
   | (with_reducible exact isoglossref20_Matches.mono _ _ _)
   | (with_reducible exact isoglossref20_MatchesExtended.mono _ _ _)
   | (with_reducible exact LeO.refl _)
   | (with_reducible exact LeO.none _)
   | (with_reducible refine LeO.ite ?_ ?_)
   | (with_reducible refine LeO.bind ?_ (fun _ => ?_))
   | exact filter_Basic.mono _ _
   | exact filter_Extended.mono _ _
   | exact filter_Matches.mono _ _ _
   | exact filter_MatchesExtended.mono _ _ _
   | exact isoglossref20_Basic.mono _ _
   | exact isoglossref20_Extended.mono _ _
   | exact isoglossref20_Matches.mono _ _ _
   | exact isoglossref20_MatchesExtended.mono _ _ _
   | exact LeO.none _
   | refine LeO.ite ?_ ?_
   | refine LeO.bind ?_ (fun _ => ?_)
set_option maxHeartbeats 8000000 in
set_option maxRecDepth 100000 in
theorem isoglosslaw20_tells.calls (k : Nat) (a0 : ByteArray) (a1 : ByteArray) (r : Bool) (w : World) (h : isoglosslaw20_tells.f k a0 a1 = some r) :
  Calls Try.prog 11 #[.string a0, .string a1] w fun e w' => e = .returned (.bool r) ∧ Below w.heap.size w w' := by
 have HB := Aside0.mk (Below.refl w.heap.size w)
 have H : ((filter_Basic.f k a0).bind fun t229 => ((isoglossref20_Basic.f k a0).bind fun t230 => (if (t229 == t230) = true then ((filter_Extended.f k a0).bind fun t231 => ((isoglossref20_Extended.f k a0).bind fun t232 => (if (t231 == t232) = true then ((filter_Matches.f k a0 a1).bind fun t233 => ((isoglossref20_Matches.f k a0 a1).bind fun t234 => (if (t233 == t234) = true then ((filter_MatchesExtended.f k a0 a1).bind fun t235 => ((isoglossref20_MatchesExtended.f k a0 a1).bind fun t236 => (some (t235 == t236)))) else (some false)))) else (some false)))) else (some false)))) = some r := h
 clear h
 replace H := Option.bind_eq_some_iff.mp H
 obtain ⟨t229, A30, H⟩ := H
 replace H : ((isoglossref20_Basic.f k a0).bind fun t230 => (if (t229 == t230) = true then ((filter_Extended.f k a0).bind fun t231 => ((isoglossref20_Extended.f k a0).bind fun t232 => (if (t231 == t232) = true then ((filter_Matches.f k a0 a1).bind fun t233 => ((isoglossref20_Matches.f k a0 a1).bind fun t234 => (if (t233 == t234) = true then ((filter_MatchesExtended.f k a0 a1).bind fun t235 => ((isoglossref20_MatchesExtended.f k a0 a1).bind fun t236 => (some (t235 == t236)))) else (some false)))) else (some false)))) else (some false))) = some r := H
 have A3 := Aside0.mk A30
 clear A30
 replace H := Option.bind_eq_some_iff.mp H
 obtain ⟨t230, A40, H⟩ := H
 replace H : (if (t229 == t230) = true then ((filter_Extended.f k a0).bind fun t231 => ((isoglossref20_Extended.f k a0).bind fun t232 => (if (t231 == t232) = true then ((filter_Matches.f k a0 a1).bind fun t233 => ((isoglossref20_Matches.f k a0 a1).bind fun t234 => (if (t233 == t234) = true then ((filter_MatchesExtended.f k a0 a1).bind fun t235 => ((isoglossref20_MatchesExtended.f k a0 a1).bind fun t236 => (some (t235 == t236)))) else (some false)))) else (some false)))) else (some false)) = some r := H
 have A4 := Aside0.mk A40
 clear A40
 by_cases c5 : (t229 == t230) = true
 ·rw [if_pos c5] at H
  have c5b0 : (t229 == t230) = true := c5
  (try (have c5b1 : decide (t229 = t230) = true := by simpa using c5))
  (try (have c5b2 : (t229 == t230) = true := by simpa using c5))
  clear c5
  replace H := Option.bind_eq_some_iff.mp H
  obtain ⟨t231, A60, H⟩ := H
  replace H : ((isoglossref20_Extended.f k a0).bind fun t232 => (if (t231 == t232) = true then ((filter_Matches.f k a0 a1).bind fun t233 => ((isoglossref20_Matches.f k a0 a1).bind fun t234 => (if (t233 == t234) = true then ((filter_MatchesExtended.f k a0 a1).bind fun t235 => ((isoglossref20_MatchesExtended.f k a0 a1).bind fun t236 => (some (t235 == t236)))) else (some false)))) else (some false))) = some r := H
  have A6 := Aside0.mk A60
  clear A60
  replace H := Option.bind_eq_some_iff.mp H
  obtain ⟨t232, A70, H⟩ := H
  replace H : (if (t231 == t232) = true then ((filter_Matches.f k a0 a1).bind fun t233 => ((isoglossref20_Matches.f k a0 a1).bind fun t234 => (if (t233 == t234) = true then ((filter_MatchesExtended.f k a0 a1).bind fun t235 => ((isoglossref20_MatchesExtended.f k a0 a1).bind fun t236 => (some (t235 == t236)))) else (some false)))) else (some false)) = some r := H
  have A7 := Aside0.mk A70
  clear A70
  by_cases c8 : (t231 == t232) = true
  ·rw [if_pos c8] at H
   have c8b0 : (t231 == t232) = true := c8
   (try (have c8b1 : decide (t231 = t232) = true := by simpa using c8))
   (try (have c8b2 : (t231 == t232) = true := by simpa using c8))
   clear c8
   replace H := Option.bind_eq_some_iff.mp H
   obtain ⟨t233, A90, H⟩ := H
   replace H : ((isoglossref20_Matches.f k a0 a1).bind fun t234 => (if (t233 == t234) = true then ((filter_MatchesExtended.f k a0 a1).bind fun t235 => ((isoglossref20_MatchesExtended.f k a0 a1).bind fun t236 => (some (t235 == t236)))) else (some false))) = some r := H
   have A9 := Aside0.mk A90
   clear A90
   replace H := Option.bind_eq_some_iff.mp H
   obtain ⟨t234, A100, H⟩ := H
   replace H : (if (t233 == t234) = true then ((filter_MatchesExtended.f k a0 a1).bind fun t235 => ((isoglossref20_MatchesExtended.f k a0 a1).bind fun t236 => (some (t235 == t236)))) else (some false)) = some r := H
   have A10 := Aside0.mk A100
   clear A100
   by_cases c11 : (t233 == t234) = true
   ·rw [if_pos c11] at H
    have c11b0 : (t233 == t234) = true := c11
    (try (have c11b1 : decide (t233 = t234) = true := by simpa using c11))
    (try (have c11b2 : (t233 == t234) = true := by simpa using c11))
    clear c11
    replace H := Option.bind_eq_some_iff.mp H
    obtain ⟨t235, A120, H⟩ := H
    replace H : ((isoglossref20_MatchesExtended.f k a0 a1).bind fun t236 => (some (t235 == t236))) = some r := H
    have A12 := Aside0.mk A120
    clear A120
    replace H := Option.bind_eq_some_iff.mp H
    obtain ⟨t236, A130, H⟩ := H
    replace H : (some (t235 == t236)) = some r := H
    have A13 := Aside0.mk A130
    clear A130
    obtain rfl := Option.some.inj H
    go_enter Try.func11, Try.ntmps11
    go_wp2_with (first | ((with_reducible refine gate_callee (f := 18) rfl ?_); refine goesL_ (some 6) rfl rfl Try.func18 (by kernel_rfl) rfl #[.string a0] rfl (by (try simp only [List.map_toArray, List.map_cons, List.map_nil]); first | done | rfl | (simp only [List.length_drop, List.length_take]; rfl)) ?_; (with_reducible refine (filter_Basic.calls k a0 t229 _ A3.out).mono ?_); rintro e w14 ⟨rfl, hb⟩; refine ⟨_, rfl, ?_⟩; have n0_ := Aside0.mk (below_step (by repeat (first | (with_reducible first | exact HB.out | apply below_alloc | apply pw_below_drewN | apply below_drew1) | exact HB.out)) hb); clear HB; have HB := n0_; clear n0_; (try clear hb); (try clear hb2); (try clear hk); (try clear hi)) | ((with_reducible refine gate_callee (f := 25) rfl ?_); refine goesL_ (some 8) rfl rfl Try.func25 (by kernel_rfl) rfl #[.string a0] rfl (by (try simp only [List.map_toArray, List.map_cons, List.map_nil]); first | done | rfl | (simp only [List.length_drop, List.length_take]; rfl)) ?_; (with_reducible refine (isoglossref20_Basic.calls k a0 t230 _ A4.out).mono ?_); rintro e w15 ⟨rfl, hb⟩; refine ⟨_, rfl, ?_⟩; have n0_ := Aside0.mk (below_step (by repeat (first | (with_reducible first | exact HB.out | apply below_alloc | apply pw_below_drewN | apply below_drew1) | exact HB.out)) hb); clear HB; have HB := n0_; clear n0_; (try clear hb); (try clear hb2); (try clear hk); (try clear hi)) | (go_at_call 19; (with_reducible refine (filter_Extended.calls k a0 t231 _ A6.out).mono ?_); rintro e w16 ⟨rfl, hb⟩; have n0_ := Aside0.mk (below_step (by repeat (first | (with_reducible first | exact HB.out | apply below_alloc | apply pw_below_drewN | apply below_drew1) | exact HB.out)) hb); clear HB; have HB := n0_; clear n0_; (try clear hb); (try clear hb2); (try clear hk); (try clear hi)) | (go_at_call 26; (with_reducible refine (isoglossref20_Extended.calls k a0 t232 _ A7.out).mono ?_); rintro e w17 ⟨rfl, hb⟩; have n0_ := Aside0.mk (below_step (by repeat (first | (with_reducible first | exact HB.out | apply below_alloc | apply pw_below_drewN | apply below_drew1) | exact HB.out)) hb); clear HB; have HB := n0_; clear n0_; (try clear hb); (try clear hb2); (try clear hk); (try clear hi)) | (go_at_call 12; (with_reducible refine (filter_Matches.calls k a0 a1 t233 _ A9.out).mono ?_); rintro e w18 ⟨rfl, hb⟩; have n0_ := Aside0.mk (below_step (by repeat (first | (with_reducible first | exact HB.out | apply below_alloc | apply pw_below_drewN | apply below_drew1) | exact HB.out)) hb); clear HB; have HB := n0_; clear n0_; (try clear hb); (try clear hb2); (try clear hk); (try clear hi)) | (go_at_call 27; (with_reducible refine (isoglossref20_Matches.calls k a0 a1 t234 _ A10.out).mono ?_); rintro e w19 ⟨rfl, hb⟩; have n0_ := Aside0.mk (below_step (by repeat (first | (with_reducible first | exact HB.out | apply below_alloc | apply pw_below_drewN | apply below_drew1) | exact HB.out)) hb); clear HB; have HB := n0_; clear n0_; (try clear hb); (try clear hb2); (try clear hk); (try clear hi)) | (go_at_call 13; (with_reducible refine (filter_MatchesExtended.calls k a0 a1 t235 _ A12.out).mono ?_); rintro e w20 ⟨rfl, hb⟩; have n0_ := Aside0.mk (below_step (by repeat (first | (with_reducible first | exact HB.out | apply below_alloc | apply pw_below_drewN | apply below_drew1) | exact HB.out)) hb); clear HB; have HB := n0_; clear n0_; (try clear hb); (try clear hb2); (try clear hk); (try clear hi)) | (go_at_call 28; (with_reducible refine (isoglossref20_MatchesExtended.calls k a0 a1 t236 _ A13.out).mono ?_); rintro e w21 ⟨rfl, hb⟩; have n0_ := Aside0.mk (below_step (by repeat (first | (with_reducible first | exact HB.out | apply below_alloc | apply pw_below_drewN | apply below_drew1) | exact HB.out)) hb); clear HB; have HB := n0_; clear n0_; (try clear hb); (try clear hb2); (try clear hk); (try clear hi)))
    go_ret
    exact ⟨by first | rfl | (simp [errW_none, errW_some] <;> rfl) | (simp [*, errW_none, errW_some] <;> rfl), by repeat (first | (with_reducible first | exact HB.out | apply below_alloc | apply pw_below_drewN | apply below_drew1) | exact HB.out)⟩
   ·rw [if_neg c11] at H
    have c11b0 : (t233 == t234) = false := by simpa using c11
    (try (have c11b1 : decide (t233 = t234) = false := by simpa using c11))
    (try (have c11b2 : (t233 == t234) = false := by simpa using c11))
    (try (have c11b3 : ¬ (t233 = t234) := by simpa using c11))
    clear c11
    obtain rfl := Option.some.inj H
    go_enter Try.func11, Try.ntmps11
    go_wp2_with (first | ((with_reducible refine gate_callee (f := 18) rfl ?_); refine goesL_ (some 6) rfl rfl Try.func18 (by kernel_rfl) rfl #[.string a0] rfl (by (try simp only [List.map_toArray, List.map_cons, List.map_nil]); first | done | rfl | (simp only [List.length_drop, List.length_take]; rfl)) ?_; (with_reducible refine (filter_Basic.calls k a0 t229 _ A3.out).mono ?_); rintro e w22 ⟨rfl, hb⟩; refine ⟨_, rfl, ?_⟩; have n0_ := Aside0.mk (below_step (by repeat (first | (with_reducible first | exact HB.out | apply below_alloc | apply pw_below_drewN | apply below_drew1) | exact HB.out)) hb); clear HB; have HB := n0_; clear n0_; (try clear hb); (try clear hb2); (try clear hk); (try clear hi)) | ((with_reducible refine gate_callee (f := 25) rfl ?_); refine goesL_ (some 8) rfl rfl Try.func25 (by kernel_rfl) rfl #[.string a0] rfl (by (try simp only [List.map_toArray, List.map_cons, List.map_nil]); first | done | rfl | (simp only [List.length_drop, List.length_take]; rfl)) ?_; (with_reducible refine (isoglossref20_Basic.calls k a0 t230 _ A4.out).mono ?_); rintro e w23 ⟨rfl, hb⟩; refine ⟨_, rfl, ?_⟩; have n0_ := Aside0.mk (below_step (by repeat (first | (with_reducible first | exact HB.out | apply below_alloc | apply pw_below_drewN | apply below_drew1) | exact HB.out)) hb); clear HB; have HB := n0_; clear n0_; (try clear hb); (try clear hb2); (try clear hk); (try clear hi)) | (go_at_call 19; (with_reducible refine (filter_Extended.calls k a0 t231 _ A6.out).mono ?_); rintro e w24 ⟨rfl, hb⟩; have n0_ := Aside0.mk (below_step (by repeat (first | (with_reducible first | exact HB.out | apply below_alloc | apply pw_below_drewN | apply below_drew1) | exact HB.out)) hb); clear HB; have HB := n0_; clear n0_; (try clear hb); (try clear hb2); (try clear hk); (try clear hi)) | (go_at_call 26; (with_reducible refine (isoglossref20_Extended.calls k a0 t232 _ A7.out).mono ?_); rintro e w25 ⟨rfl, hb⟩; have n0_ := Aside0.mk (below_step (by repeat (first | (with_reducible first | exact HB.out | apply below_alloc | apply pw_below_drewN | apply below_drew1) | exact HB.out)) hb); clear HB; have HB := n0_; clear n0_; (try clear hb); (try clear hb2); (try clear hk); (try clear hi)) | (go_at_call 12; (with_reducible refine (filter_Matches.calls k a0 a1 t233 _ A9.out).mono ?_); rintro e w26 ⟨rfl, hb⟩; have n0_ := Aside0.mk (below_step (by repeat (first | (with_reducible first | exact HB.out | apply below_alloc | apply pw_below_drewN | apply below_drew1) | exact HB.out)) hb); clear HB; have HB := n0_; clear n0_; (try clear hb); (try clear hb2); (try clear hk); (try clear hi)) | (go_at_call 27; (with_reducible refine (isoglossref20_Matches.calls k a0 a1 t234 _ A10.out).mono ?_); rintro e w27 ⟨rfl, hb⟩; have n0_ := Aside0.mk (below_step (by repeat (first | (with_reducible first | exact HB.out | apply below_alloc | apply pw_below_drewN | apply below_drew1) | exact HB.out)) hb); clear HB; have HB := n0_; clear n0_; (try clear hb); (try clear hb2); (try clear hk); (try clear hi)))
    go_ret
    exact ⟨by first | rfl | (simp [errW_none, errW_some] <;> rfl) | (simp [*, errW_none, errW_some] <;> rfl), by repeat (first | (with_reducible first | exact HB.out | apply below_alloc | apply pw_below_drewN | apply below_drew1) | exact HB.out)⟩
  ·rw [if_neg c8] at H
   have c8b0 : (t231 == t232) = false := by simpa using c8
   (try (have c8b1 : decide (t231 = t232) = false := by simpa using c8))
   (try (have c8b2 : (t231 == t232) = false := by simpa using c8))
   (try (have c8b3 : ¬ (t231 = t232) := by simpa using c8))
   clear c8
   obtain rfl := Option.some.inj H
   go_enter Try.func11, Try.ntmps11
   go_wp2_with (first | ((with_reducible refine gate_callee (f := 18) rfl ?_); refine goesL_ (some 6) rfl rfl Try.func18 (by kernel_rfl) rfl #[.string a0] rfl (by (try simp only [List.map_toArray, List.map_cons, List.map_nil]); first | done | rfl | (simp only [List.length_drop, List.length_take]; rfl)) ?_; (with_reducible refine (filter_Basic.calls k a0 t229 _ A3.out).mono ?_); rintro e w28 ⟨rfl, hb⟩; refine ⟨_, rfl, ?_⟩; have n0_ := Aside0.mk (below_step (by repeat (first | (with_reducible first | exact HB.out | apply below_alloc | apply pw_below_drewN | apply below_drew1) | exact HB.out)) hb); clear HB; have HB := n0_; clear n0_; (try clear hb); (try clear hb2); (try clear hk); (try clear hi)) | ((with_reducible refine gate_callee (f := 25) rfl ?_); refine goesL_ (some 8) rfl rfl Try.func25 (by kernel_rfl) rfl #[.string a0] rfl (by (try simp only [List.map_toArray, List.map_cons, List.map_nil]); first | done | rfl | (simp only [List.length_drop, List.length_take]; rfl)) ?_; (with_reducible refine (isoglossref20_Basic.calls k a0 t230 _ A4.out).mono ?_); rintro e w29 ⟨rfl, hb⟩; refine ⟨_, rfl, ?_⟩; have n0_ := Aside0.mk (below_step (by repeat (first | (with_reducible first | exact HB.out | apply below_alloc | apply pw_below_drewN | apply below_drew1) | exact HB.out)) hb); clear HB; have HB := n0_; clear n0_; (try clear hb); (try clear hb2); (try clear hk); (try clear hi)) | (go_at_call 19; (with_reducible refine (filter_Extended.calls k a0 t231 _ A6.out).mono ?_); rintro e w30 ⟨rfl, hb⟩; have n0_ := Aside0.mk (below_step (by repeat (first | (with_reducible first | exact HB.out | apply below_alloc | apply pw_below_drewN | apply below_drew1) | exact HB.out)) hb); clear HB; have HB := n0_; clear n0_; (try clear hb); (try clear hb2); (try clear hk); (try clear hi)) | (go_at_call 26; (with_reducible refine (isoglossref20_Extended.calls k a0 t232 _ A7.out).mono ?_); rintro e w31 ⟨rfl, hb⟩; have n0_ := Aside0.mk (below_step (by repeat (first | (with_reducible first | exact HB.out | apply below_alloc | apply pw_below_drewN | apply below_drew1) | exact HB.out)) hb); clear HB; have HB := n0_; clear n0_; (try clear hb); (try clear hb2); (try clear hk); (try clear hi)))
   go_ret
   exact ⟨by first | rfl | (simp [errW_none, errW_some] <;> rfl) | (simp [*, errW_none, errW_some] <;> rfl), by repeat (first | (with_reducible first | exact HB.out | apply below_alloc | apply pw_below_drewN | apply below_drew1) | exact HB.out)⟩
 ·rw [if_neg c5] at H
  have c5b0 : (t229 == t230) = false := by simpa using c5
  (try (have c5b1 : decide (t229 = t230) = false := by simpa using c5))
  (try (have c5b2 : (t229 == t230) = false := by simpa using c5))
  (try (have c5b3 : ¬ (t229 = t230) := by simpa using c5))
  clear c5
  obtain rfl := Option.some.inj H
  go_enter Try.func11, Try.ntmps11
  go_wp2_with (first | ((with_reducible refine gate_callee (f := 18) rfl ?_); refine goesL_ (some 6) rfl rfl Try.func18 (by kernel_rfl) rfl #[.string a0] rfl (by (try simp only [List.map_toArray, List.map_cons, List.map_nil]); first | done | rfl | (simp only [List.length_drop, List.length_take]; rfl)) ?_; (with_reducible refine (filter_Basic.calls k a0 t229 _ A3.out).mono ?_); rintro e w32 ⟨rfl, hb⟩; refine ⟨_, rfl, ?_⟩; have n0_ := Aside0.mk (below_step (by repeat (first | (with_reducible first | exact HB.out | apply below_alloc | apply pw_below_drewN | apply below_drew1) | exact HB.out)) hb); clear HB; have HB := n0_; clear n0_; (try clear hb); (try clear hb2); (try clear hk); (try clear hi)) | ((with_reducible refine gate_callee (f := 25) rfl ?_); refine goesL_ (some 8) rfl rfl Try.func25 (by kernel_rfl) rfl #[.string a0] rfl (by (try simp only [List.map_toArray, List.map_cons, List.map_nil]); first | done | rfl | (simp only [List.length_drop, List.length_take]; rfl)) ?_; (with_reducible refine (isoglossref20_Basic.calls k a0 t230 _ A4.out).mono ?_); rintro e w33 ⟨rfl, hb⟩; refine ⟨_, rfl, ?_⟩; have n0_ := Aside0.mk (below_step (by repeat (first | (with_reducible first | exact HB.out | apply below_alloc | apply pw_below_drewN | apply below_drew1) | exact HB.out)) hb); clear HB; have HB := n0_; clear n0_; (try clear hb); (try clear hb2); (try clear hk); (try clear hi)))
  go_ret
  exact ⟨by first | rfl | (simp [errW_none, errW_some] <;> rfl) | (simp [*, errW_none, errW_some] <;> rfl), by repeat (first | (with_reducible first | exact HB.out | apply below_alloc | apply pw_below_drewN | apply below_drew1) | exact HB.out)⟩

end Go.Proofs.Ytanahbcdilcmoaa.P
