-- Written for this claim by the session's own run of the print, functions proved by hand put in.
import Derived.Test.YtanahbcdilcmoaaPx0
import Derived.Test.YtanahbcdilcmoaaPx1
namespace Go.Proofs.Ytanahbcdilcmoaa.P
open Go.RowKit Go.Proofs.YtanahbcdilcmoaaW.PrintWords Go.Proofs.YtanahbcdilcmoaaW.PrintLast Go.Proofs.YtanahbcdilcmoaaW.PrintMore
attribute [local go_sem] max2_int min2_int max_two min_two max_three min_three max_four min_four   -- for this text's walks alone
set_option linter.unusedVariables false
set_option linter.unusedSimpArgs false

/-! ### filter_MatchesExtended: function 13 -/
mutual
def filter_MatchesExtended.j0 : Nat → List ByteArray → List ByteArray → Bool → Option (Bool)
 | 0, _, _, _ => none
 | k + 1, x5, x6, x29 => if x29 = true then (some false) else (if 1 ≤ (x5.length : Int) then (if 1 ≤ (x6.length : Int) then (filter_MatchesExtended.l0 k (x5.drop (1 : Int).toNat) (x6.drop (1 : Int).toNat)) else (none)) else (none))
def filter_MatchesExtended.l0 : Nat → List ByteArray → List ByteArray → Option (Bool)
 | 0, _, _ => none
 | k + 1, x5, x6 => if (x5.length : Int) > 0 then (if 0 < (x5.length : Int) then (if (rdOf ByteArray.empty x5 0).toList = ([42] : List UInt8) then (if 1 ≤ (x5.length : Int) then (filter_MatchesExtended.l0 k (x5.drop (1 : Int).toNat) x6) else (none)) else (if (x6.length : Int) = 0 then (some false) else (if 0 < (x6.length : Int) then ((ascii_Same.f k (rdOf ByteArray.empty x5 0) (rdOf ByteArray.empty x6 0)).bind fun t134 => (if t134 = true then (if 1 ≤ (x5.length : Int) then (if 1 ≤ (x6.length : Int) then (filter_MatchesExtended.l0 k (x5.drop (1 : Int).toNat) (x6.drop (1 : Int).toNat)) else (none)) else (none)) else (if ((rdOf ByteArray.empty x6 0).size : Int) = 1 then (some false) else (if 1 ≤ (x6.length : Int) then (filter_MatchesExtended.l0 k x5 (x6.drop (1 : Int).toNat)) else (none))))) else (none)))) else (none)) else (some true)
end
def filter_MatchesExtended.f (k : Nat) (a0 : ByteArray) (a1 : ByteArray) : Option (Bool) := (split_Split.f a0).bind fun t111 => ((split_Split.f a1).bind fun t114 => ((filter_Extended.f k a0).bind fun t117 => (if t117 = true then (if 0 < (t111.length : Int) then (if (rdOf ByteArray.empty t111 0).toList = ([42] : List UInt8) then (filter_MatchesExtended.j0 k t111 t114 false) else (if 0 < (t114.length : Int) then ((ascii_Same.f k (rdOf ByteArray.empty t111 0) (rdOf ByteArray.empty t114 0)).bind fun t121 => (filter_MatchesExtended.j0 k t111 t114 (!t121))) else (none))) else (none)) else (filter_MatchesExtended.j0 k t111 t114 true))))
theorem filter_MatchesExtended.mono_l : ∀ k, (∀ y0 y1 y2, LeO (filter_MatchesExtended.j0 k y0 y1 y2) (filter_MatchesExtended.j0 (k + 1) y0 y1 y2)) ∧ (∀ y0 y1, LeO (filter_MatchesExtended.l0 k y0 y1) (filter_MatchesExtended.l0 (k + 1) y0 y1))
 | 0 => ⟨fun _ _ _ r h => by simp [filter_MatchesExtended.j0] at h, fun _ _ r h => by simp [filter_MatchesExtended.l0] at h⟩
 | k + 1 => by
  obtain ⟨ih0, ih1⟩ := filter_MatchesExtended.mono_l k
  refine ⟨?_, ?_⟩
  ·intro y0 y1 y2
   unfold filter_MatchesExtended.j0
   repeat' first
   | (with_reducible exact ih0 _ _ _)
   | (with_reducible exact ih1 _ _)
   | (with_reducible exact ascii_Same.mono _ _ _)
   | (with_reducible exact filter_Extended.mono _ _)
   | (with_reducible exact LeO.refl _)
   | (with_reducible exact LeO.none _)
   | (with_reducible refine LeO.ite ?_ ?_)
   | (with_reducible refine LeO.bind ?_ (fun _ => ?_))
   | exact ih0 _ _ _
   | exact ih1 _ _
   | exact ascii_Same.mono _ _ _
   | exact filter_Extended.mono _ _
   | exact LeO.none _
   | refine LeO.ite ?_ ?_
   | refine LeO.bind ?_ (fun _ => ?_)
  ·intro y0 y1
   unfold filter_MatchesExtended.l0
   repeat' first
   | (with_reducible exact ih0 _ _ _)
   | (with_reducible exact ih1 _ _)
   | (with_reducible exact ascii_Same.mono _ _ _)
   | (with_reducible exact filter_Extended.mono _ _)
   | (with_reducible exact LeO.refl _)
   | (with_reducible exact LeO.none _)
   | (with_reducible refine LeO.ite ?_ ?_)
   | (with_reducible refine LeO.bind ?_ (fun _ => ?_))
   | exact ih0 _ _ _
   | exact ih1 _ _
   | exact ascii_Same.mono _ _ _
   | exact filter_Extended.mono _ _
   | exact LeO.none _
   | refine LeO.ite ?_ ?_
   | refine LeO.bind ?_ (fun _ => ?_)
theorem filter_MatchesExtended.mono : ∀ a0 a1 k, LeO (filter_MatchesExtended.f k a0 a1) (filter_MatchesExtended.f (k + 1) a0 a1) := by
 intro a0 a1 k
 obtain ⟨ih0, ih1⟩ := filter_MatchesExtended.mono_l k
 unfold filter_MatchesExtended.f
 repeat' first
   | (with_reducible exact ih0 _ _ _)
   | (with_reducible exact ih1 _ _)
   | (with_reducible exact ascii_Same.mono _ _ _)
   | (with_reducible exact filter_Extended.mono _ _)
   | (with_reducible exact LeO.refl _)
   | (with_reducible exact LeO.none _)
   | (with_reducible refine LeO.ite ?_ ?_)
   | (with_reducible refine LeO.bind ?_ (fun _ => ?_))
   | exact ih0 _ _ _
   | exact ih1 _ _
   | exact ascii_Same.mono _ _ _
   | exact filter_Extended.mono _ _
   | exact LeO.none _
   | refine LeO.ite ?_ ?_
   | refine LeO.bind ?_ (fun _ => ?_)
def filter_MatchesExtended.T2 : Bool × List (List Nat × List Nat) := (true, [([], []), ([0], [0]), ([1], [1]), ([2, 1], [2]), ([3], [3]), ([4, 3], [3, 4]), ([5, 3], [3, 5]), ([6, 3], [3, 6]), ([7, 3, 3], [3, 7]), ([8], [8]), ([9, 8], [8, 9]), ([10, 8], [8, 10]), ([8], [8]), ([12, 8], [8, 12]), ([13, 8], [8, 13]), ([11, 14, 8, 8], [8, 11, 14]), ([15, 8], [8, 15]), ([8, 16, 3], [3, 8, 16]), ([3, 17], [3, 17])])
def filter_MatchesExtended.B2 : List Nat := [0, 1, 3, 7, 15, 31, 63, 127, 255, 511, 1023, 2047, 511, 4607, 12799, 32767, 65535, 131071, 262143]
theorem filter_MatchesExtended.tab2 : rtab .any (opsOf Try.f13 2) = filter_MatchesExtended.T2 := by kernel_rfl
theorem filter_MatchesExtended.bits2 : waitsOk filter_MatchesExtended.T2.2 filter_MatchesExtended.B2 = true := by kernel_rfl
def filter_MatchesExtended.T10 : Bool × List (List Nat × List Nat) := (true, [([], []), ([0], [0]), ([1], [1]), ([], []), ([3], [3]), ([4], [4]), ([2, 5], [2, 5]), ([6, 6], [6])])
def filter_MatchesExtended.B10 : List Nat := [0, 1, 3, 0, 8, 24, 63, 127]
theorem filter_MatchesExtended.tab10 : rtab .any (opsOf Try.f13 10) = filter_MatchesExtended.T10 := by kernel_rfl
theorem filter_MatchesExtended.bits10 : waitsOk filter_MatchesExtended.T10.2 filter_MatchesExtended.B10 = true := by kernel_rfl
set_option maxHeartbeats 8000000 in
set_option maxRecDepth 100000 in
theorem filter_MatchesExtended.calls (k : Nat) (a0 : ByteArray) (a1 : ByteArray) (r : Bool) (w : World) (h : filter_MatchesExtended.f k a0 a1 = some r) :
  Calls Try.prog 13 #[.string a0, .string a1] w fun e w' => e = .returned (.bool r) ∧ Below w.heap.size w w' := by
 have HB := Aside0.mk (Below.refl w.heap.size w)
 have H : ((split_Split.f a0).bind fun t111 => ((split_Split.f a1).bind fun t114 => ((filter_Extended.f k a0).bind fun t117 => (if t117 = true then (if 0 < (t111.length : Int) then (if (rdOf ByteArray.empty t111 0).toList = ([42] : List UInt8) then (filter_MatchesExtended.j0 k t111 t114 false) else (if 0 < (t114.length : Int) then ((ascii_Same.f k (rdOf ByteArray.empty t111 0) (rdOf ByteArray.empty t114 0)).bind fun t121 => (filter_MatchesExtended.j0 k t111 t114 (!t121))) else (none))) else (none)) else (filter_MatchesExtended.j0 k t111 t114 true))))) = some r := h
 clear h
 replace H := Option.bind_eq_some_iff.mp H
 obtain ⟨t111, A30, H⟩ := H
 replace H : ((split_Split.f a1).bind fun t114 => ((filter_Extended.f k a0).bind fun t117 => (if t117 = true then (if 0 < (t111.length : Int) then (if (rdOf ByteArray.empty t111 0).toList = ([42] : List UInt8) then (filter_MatchesExtended.j0 k t111 t114 false) else (if 0 < (t114.length : Int) then ((ascii_Same.f k (rdOf ByteArray.empty t111 0) (rdOf ByteArray.empty t114 0)).bind fun t121 => (filter_MatchesExtended.j0 k t111 t114 (!t121))) else (none))) else (none)) else (filter_MatchesExtended.j0 k t111 t114 true)))) = some r := H
 have A3 := Aside0.mk A30
 clear A30
 replace H := Option.bind_eq_some_iff.mp H
 obtain ⟨t114, A40, H⟩ := H
 replace H : ((filter_Extended.f k a0).bind fun t117 => (if t117 = true then (if 0 < (t111.length : Int) then (if (rdOf ByteArray.empty t111 0).toList = ([42] : List UInt8) then (filter_MatchesExtended.j0 k t111 t114 false) else (if 0 < (t114.length : Int) then ((ascii_Same.f k (rdOf ByteArray.empty t111 0) (rdOf ByteArray.empty t114 0)).bind fun t121 => (filter_MatchesExtended.j0 k t111 t114 (!t121))) else (none))) else (none)) else (filter_MatchesExtended.j0 k t111 t114 true))) = some r := H
 have A4 := Aside0.mk A40
 clear A40
 have HC5 := Aside0.mk H
 clear H
 go_enter Try.func13, Try.ntmps13
 (try (go_wp2_with (fail)))
 (try go_step3)
 go_upto_region 2 with (first | ((with_reducible refine gate_callee (f := 30) rfl ?_); refine goesL_ (some 8) rfl rfl Try.func30 (by kernel_rfl) rfl #[.string a0] rfl (by (try simp only [List.map_toArray, List.map_cons, List.map_nil]); first | done | rfl | (simp only [List.length_drop, List.length_take]; rfl)) ?_; (with_reducible refine (split_Split.calls a0 t111 _ A3.out).mono ?_); rintro e w6 ⟨v112, rfl, ho0, hb⟩; refine ⟨_, rfl, ?_⟩; have n0_ := Aside0.mk (Kd.R_lower ho0 (below_size (by repeat (first | (with_reducible first | exact HB.out | apply below_alloc | apply pw_below_drewN | apply below_drew1) | exact HB.out)))); have n1_ := Aside0.mk (below_step (by repeat (first | (with_reducible first | exact HB.out | apply below_alloc | apply pw_below_drewN | apply below_drew1) | exact HB.out)) hb); clear HB; have HO113 := n0_; have HB := n1_; clear n0_ n1_; (try clear hb); (try clear hb2); (try clear hk); (try clear hi); (try clear ho0)) | ((with_reducible refine gate_callee (f := 30) rfl ?_); refine goesL_ (some 10) rfl rfl Try.func30 (by kernel_rfl) rfl #[.string a1] rfl (by (try simp only [List.map_toArray, List.map_cons, List.map_nil]); first | done | rfl | (simp only [List.length_drop, List.length_take]; rfl)) ?_; (with_reducible refine (split_Split.calls a1 t114 _ A4.out).mono ?_); rintro e w7 ⟨v115, rfl, ho0, hb⟩; refine ⟨_, rfl, ?_⟩; have n0_ := Aside0.mk (Kd.R_elder' (by (with_reducible repeat (first | apply Kd.R_alloc | apply Kd.R_drewN | apply Kd.R_drew)); exact HO113.out) (Kd.R_base ho0) hb); have n1_ := Aside0.mk (Kd.R_lower (Kd.R_new' ho0 (Kd.R_lt (by (with_reducible repeat (first | apply Kd.R_alloc | apply Kd.R_drewN | apply Kd.R_drew)); exact HO113.out))) (below_size (by repeat (first | (with_reducible first | exact HB.out | apply below_alloc | apply pw_below_drewN | apply below_drew1) | exact HB.out)))); have n2_ := Aside0.mk (below_step (by repeat (first | (with_reducible first | exact HB.out | apply below_alloc | apply pw_below_drewN | apply below_drew1) | exact HB.out)) hb); clear HO113; clear HB; have HO113 := n0_; have HO116 := n1_; have HB := n2_; clear n0_ n1_ n2_; (try clear hb); (try clear hb2); (try clear hk); (try clear hi); (try clear ho0)))
 (try simp only [Act.put, List.setIfInBounds_toArray, List.set_cons_zero, List.set_cons_succ])
 go_cut [29] (fun v29 wc => ∃ (kq : Nat) (x29_4 : Bool), v29 = .bool x29_4 ∧ Aside0 (filter_MatchesExtended.j0 kq t111 t114 x29_4 = some r) ∧ Aside0 (kq ≤ k) ∧ Aside0 (Kd.Q Kd.string 9 wc w.heap.size (fun k_ => some k_ ≠ (v115 : Value).ownBlock) v112 t111) ∧ Aside0 (Kd.Q Kd.string 9 wc w.heap.size (fun k_ => some k_ ≠ (v112 : Value).ownBlock) v115 t114) ∧ Aside0 (Below w.heap.size w wc))
 case first =>
  have H := HC5.out
  clear HC5
  replace H := Option.bind_eq_some_iff.mp H
  obtain ⟨t117, A80, H⟩ := H
  replace H : (if t117 = true then (if 0 < (t111.length : Int) then (if (rdOf ByteArray.empty t111 0).toList = ([42] : List UInt8) then (filter_MatchesExtended.j0 k t111 t114 false) else (if 0 < (t114.length : Int) then ((ascii_Same.f k (rdOf ByteArray.empty t111 0) (rdOf ByteArray.empty t114 0)).bind fun t121 => (filter_MatchesExtended.j0 k t111 t114 (!t121))) else (none))) else (none)) else (filter_MatchesExtended.j0 k t111 t114 true)) = some r := H
  have A8 := Aside0.mk A80
  clear A80
  by_cases c9 : t117 = true
  ·subst c9
   have H1 : (if 0 < (t111.length : Int) then (if (rdOf ByteArray.empty t111 0).toList = ([42] : List UInt8) then (filter_MatchesExtended.j0 k t111 t114 false) else (if 0 < (t114.length : Int) then ((ascii_Same.f k (rdOf ByteArray.empty t111 0) (rdOf ByteArray.empty t114 0)).bind fun t121 => (filter_MatchesExtended.j0 k t111 t114 (!t121))) else (none))) else (none)) = some r := by rw [if_pos rfl] at H; exact H
   clear H
   have H := H1
   clear H1
   by_cases c10 : 0 < (t111.length : Int)
   ·rw [if_pos c10] at H
    have c10b0 : decide (0 < (t111.length : Int)) = true := decide_eq_true c10
    have c10b1 : decide (0 < t111.length) = true := decide_eq_true (by omega)
    clear c10
    (first | rw [c10b0] | rw [c10b1] | (simp only [i64_w, i32_w]; rw [c10b0]) | skip)
    by_cases c11 : (rdOf ByteArray.empty t111 0).toList = ([42] : List UInt8)
    ·rw [if_pos c11] at H
     have c11b0 : ((rdOf ByteArray.empty t111 0).toList == ([42] : List UInt8)) = true := beq_iff_eq.mpr c11
     have c11b1 : ((rdOf ByteArray.empty t111 0).toList != ([42] : List UInt8)) = false := bne_eq_false_iff_eq.mpr c11
     clear c11
     have H' := Aside0.mk H
     clear H
     try go_wp2
     have n0_ := Aside0.mk (Kd.R_drew HO113.out)
     have n1_ := Aside0.mk (Kd.R_drew HO116.out)
     have n2_ := Aside0.mk (below_drew1 HB.out)
     clear HO113
     clear HO116
     clear HB
     have HO113 := n0_
     have HO116 := n1_
     have HB := n2_
     clear n0_ n1_ n2_
     have p118 : 0 ≤ (0 : Int) := (by omega)
     have q118 : 0 < (t111.length : Int) := of_decide_eq_true (by first | (with_reducible assumption) | assumption)
     obtain ⟨Az_, cz_, ez_⟩ := Kd.R_slice HO113.out
     (first | subst ez_ | clear ez_)
     obtain ⟨ad118, e118, hx118_0⟩ := Kd.at_string (Kd.R_reads' HO113.out).2.2 0 p118 q118
     cases e118
     have qi118 : (0 < t111.length) = True := eq_true (by omega)
     (try rw [show ((0 : Int)).toNat = 0 from rfl] at hx118_0)
     (try rw [Addr.add_zero'] at hx118_0)
     replace p118 := eq_true p118
     replace q118 := eq_true q118
     refine start_ (n := 19) (S := fun w' => w'.cell? ad118 = some (.string (rdOf ByteArray.empty t111 0))) (ds := []) #[false, false, false, false, false, false, false, false, false, false, false, false, false, false, false, false, false, false, false] (by kernel_rfl) rfl rfl (hx118_0) (fun hHeld => ?_); refine with_tabW filter_MatchesExtended.tab2 filter_MatchesExtended.bits2 (fun HT_ HW_ => ?_)
     generalize w7.drew = w12 at HO113 HO116 HB hx118_0 hHeld ⊢
     refine pure_ (i := 0) (N := some 11) (v := ?_) (a' := ?_) #[true, false, false, false, false, false, false, false, false, false, false, false, false, false, false, false, false, false, false] rfl rfl (any_of HT_.out (by kernel_rfl)) (fun _ _ _ h => h) (Or.inl ⟨by rfl, ?_⟩) ?_ ?_
     rotate_left
     ·intro w'
      go_simp
      with_reducible rfl
     rotate_left
     ·simp only [Act.put, List.setIfInBounds_toArray, List.set_cons_zero, List.set_cons_succ, i64_w, i32_w]
      rfl
     refine one_ (i := 1) (N := some 12) #[true, true, false, false, false, false, false, false, false, false, false, false, false, false, false, false, false, false, false] rfl rfl (one_of HT_.out (by kernel_rfl)) (by decide) (fun K hK => ?_)
     refine goes_ Try.func19 (by kernel_rfl) rfl #[.string a0] (by rfl) rfl rfl (by (try simp only [List.map_toArray, List.map_cons, List.map_nil]); first | done | rfl | (simp only [List.length_drop, List.length_take]; rfl)) ?_
     with_reducible refine (filter_Extended.calls k a0 true _ A8.out).mono ?_
     rintro e w13 ⟨rfl, hb⟩
     have HS0_ := (hb.cell (World.block_lt_of_cell? _ _ (hHeld))).trans (hHeld)
     refine ⟨_, rfl, ?_⟩
     have n0_ := Aside0.mk (Kd.R_below (by (with_reducible repeat (first | apply Kd.R_alloc | apply Kd.R_drewN | apply Kd.R_drew)); exact HO113.out) hb)
     have n1_ := Aside0.mk (Kd.R_below (by (with_reducible repeat (first | apply Kd.R_alloc | apply Kd.R_drewN | apply Kd.R_drew)); exact HO116.out) hb)
     have n2_ := Aside0.mk (below_step (by repeat (first | (with_reducible first | exact HB.out | apply below_alloc | apply pw_below_drewN | apply below_drew1) | exact HB.out)) hb)
     clear HO113
     clear HO116
     clear HB
     have HO113 := n0_
     have HO116 := n1_
     have HB := n2_
     clear n0_ n1_ n2_
     (try clear hb)
     (try clear hb2)
     (try clear hk)
     (try clear hi)
     obtain ⟨Ao14, co14, eo14⟩ := Kd.R_slice HO113.out
     (first | subst eo14 | (injection eo14 with f1_ f2_ f3_; have f4_ := f1_.symm; have f5_ := f3_.symm; clear f1_ f2_ f3_; subst f4_; subst f5_))
     refine hK.out _ _ (HS0_) (fun hHeld => ?_)
     clear hK K
     refine norm_ (a' := ?_) ?_ ?_
     rotate_left
     ·show Act.put _ (some 12) _ = _
      simp only [Act.put, List.setIfInBounds_toArray, List.set_cons_zero, List.set_cons_succ, i64_w, i32_w]
      rfl
     refine pure_ (i := 2) (N := some 13) (v := ?_) (a' := ?_) #[true, true, true, false, false, false, false, false, false, false, false, false, false, false, false, false, false, false, false] rfl rfl (any_of HT_.out (by kernel_rfl)) (fun _ _ _ h => h) (Or.inl ⟨by rfl, ?_⟩) ?_ ?_
     rotate_left
     ·intro w'
      go_simp
      with_reducible rfl
     rotate_left
     ·simp only [Act.put, List.setIfInBounds_toArray, List.set_cons_zero, List.set_cons_succ, i64_w, i32_w]
      rfl
     refine pure_ (i := 3) (N := some 14) (v := ?_) (a' := ?_) #[true, true, true, true, false, false, false, false, false, false, false, false, false, false, false, false, false, false, false] rfl rfl (any_of HT_.out (by kernel_rfl)) (fun _ _ _ h => h) (Or.inl ⟨by rfl, ?_⟩) ?_ ?_
     rotate_left
     ·intro w'
      go_simp
      with_reducible rfl
     rotate_left
     ·simp only [Act.put, List.setIfInBounds_toArray, List.set_cons_zero, List.set_cons_succ, i64_w, i32_w]
      rfl
     refine pure_ (i := 4) (N := some 15) (v := ?_) (a' := ?_) #[true, true, true, true, true, false, false, false, false, false, false, false, false, false, false, false, false, false, false] rfl rfl (any_of HT_.out (by kernel_rfl)) (fun _ _ _ h => h) (Or.inl ⟨by rfl, ?_⟩) ?_ ?_
     rotate_left
     ·intro w'
      go_simp
      with_reducible rfl
     rotate_left
     ·simp only [Act.put, List.setIfInBounds_toArray, List.set_cons_zero, List.set_cons_succ, i64_w, i32_w]
      rfl
     refine pure_ (i := 5) (N := some 16) (v := ?_) (a' := ?_) #[true, true, true, true, true, true, false, false, false, false, false, false, false, false, false, false, false, false, false] rfl rfl (any_of HT_.out (by kernel_rfl)) (fun _ _ _ h => h) (Or.inl ⟨by rfl, ?_⟩) ?_ ?_
     rotate_left
     ·intro w'
      go_simp
      with_reducible rfl
     rotate_left
     ·simp only [Act.put, List.setIfInBounds_toArray, List.set_cons_zero, List.set_cons_succ, i64_w, i32_w]
      rfl
     refine take_ (i := 6) (N := some 17) (v := ?_) (a' := ?_) #[true, true, true, true, true, true, true, false, false, false, false, false, false, false, false, false, false, false, false] rfl rfl (take_ofW HT_.out HW_.out (by kernel_rfl)) (fun _ _ _ h => h) (Or.inl ⟨by rfl, ?_⟩) hHeld ?_ ?_
     rotate_left
     ·intro w' s0
      go_simp
      with_reducible rfl
     rotate_left
     ·simp only [Act.put, List.setIfInBounds_toArray, List.set_cons_zero, List.set_cons_succ, i64_w, i32_w]
      rfl
     refine pure_ (i := 7) (N := some 18) (v := ?_) (a' := ?_) #[true, true, true, true, true, true, true, true, false, false, false, false, false, false, false, false, false, false, false] rfl rfl (any_of HT_.out (by kernel_rfl)) (fun _ _ _ h => h) (Or.inl ⟨by rfl, ?_⟩) ?_ ?_
     rotate_left
     ·intro w'
      go_simp
      with_reducible rfl
     rotate_left
     ·simp only [Act.put, List.setIfInBounds_toArray, List.set_cons_zero, List.set_cons_succ, i64_w, i32_w]
      rfl
     refine pure_ (i := 8) (N := some 19) (v := ?_) (a' := ?_) #[true, true, true, true, true, true, true, true, true, false, false, false, false, false, false, false, false, false, false] rfl rfl (any_of HT_.out (by kernel_rfl)) (fun _ _ _ h => h) (Or.inl ⟨by rfl, ?_⟩) ?_ ?_
     rotate_left
     ·intro w'
      go_simp
      with_reducible rfl
     rotate_left
     ·simp only [Act.put, List.setIfInBounds_toArray, List.set_cons_zero, List.set_cons_succ, i64_w, i32_w]
      rfl
     refine pure_ (i := 9) (N := some 20) (v := undef) (a' := ?_) #[true, true, true, true, true, true, true, true, true, true, false, false, false, false, false, false, false, false, false] rfl rfl (any_of HT_.out (by kernel_rfl)) (fun _ _ _ h => h) (Or.inr ⟨by rfl, rfl⟩) ?_ ?_
     rotate_left
     ·simp only [Act.put, List.setIfInBounds_toArray, List.set_cons_zero, List.set_cons_succ, i64_w, i32_w]
      rfl
     refine pure_ (i := 10) (N := some 21) (v := undef) (a' := ?_) #[true, true, true, true, true, true, true, true, true, true, true, false, false, false, false, false, false, false, false] rfl rfl (any_of HT_.out (by kernel_rfl)) (fun _ _ _ h => h) (Or.inr ⟨by rfl, rfl⟩) ?_ ?_
     rotate_left
     ·simp only [Act.put, List.setIfInBounds_toArray, List.set_cons_zero, List.set_cons_succ, i64_w, i32_w]
      rfl
     refine pure_ (i := 11) (N := some 22) (v := undef) (a' := ?_) #[true, true, true, true, true, true, true, true, true, true, true, true, false, false, false, false, false, false, false] rfl rfl (any_of HT_.out (by kernel_rfl)) (fun _ _ _ h => h) (Or.inr ⟨by rfl, rfl⟩) ?_ ?_
     rotate_left
     ·simp only [Act.put, List.setIfInBounds_toArray, List.set_cons_zero, List.set_cons_succ, i64_w, i32_w]
      rfl
     refine pure_ (i := 12) (N := some 23) (v := undef) (a' := ?_) #[true, true, true, true, true, true, true, true, true, true, true, true, true, false, false, false, false, false, false] rfl rfl (any_of HT_.out (by kernel_rfl)) (fun _ _ _ h => h) (Or.inr ⟨by rfl, rfl⟩) ?_ ?_
     rotate_left
     ·simp only [Act.put, List.setIfInBounds_toArray, List.set_cons_zero, List.set_cons_succ, i64_w, i32_w]
      rfl
     refine pure_ (i := 13) (N := some 24) (v := undef) (a' := ?_) #[true, true, true, true, true, true, true, true, true, true, true, true, true, true, false, false, false, false, false] rfl rfl (any_of HT_.out (by kernel_rfl)) (fun _ _ _ h => h) (Or.inr ⟨by rfl, rfl⟩) ?_ ?_
     rotate_left
     ·simp only [Act.put, List.setIfInBounds_toArray, List.set_cons_zero, List.set_cons_succ, i64_w, i32_w]
      rfl
     refine pure_ (i := 14) (N := some 25) (v := undef) (a' := ?_) #[true, true, true, true, true, true, true, true, true, true, true, true, true, true, true, false, false, false, false] rfl rfl (any_of HT_.out (by kernel_rfl)) (fun _ _ _ h => h) (Or.inr ⟨by rfl, rfl⟩) ?_ ?_
     rotate_left
     ·simp only [Act.put, List.setIfInBounds_toArray, List.set_cons_zero, List.set_cons_succ, i64_w, i32_w]
      rfl
     refine pure_ (i := 15) (N := some 26) (v := undef) (a' := ?_) #[true, true, true, true, true, true, true, true, true, true, true, true, true, true, true, true, false, false, false] rfl rfl (any_of HT_.out (by kernel_rfl)) (fun _ _ _ h => h) (Or.inr ⟨by rfl, rfl⟩) ?_ ?_
     rotate_left
     ·simp only [Act.put, List.setIfInBounds_toArray, List.set_cons_zero, List.set_cons_succ, i64_w, i32_w]
      rfl
     refine pure_ (i := 16) (N := some 27) (v := undef) (a' := ?_) #[true, true, true, true, true, true, true, true, true, true, true, true, true, true, true, true, true, false, false] rfl rfl (any_of HT_.out (by kernel_rfl)) (fun _ _ _ h => h) (Or.inr ⟨by rfl, rfl⟩) ?_ ?_
     rotate_left
     ·simp only [Act.put, List.setIfInBounds_toArray, List.set_cons_zero, List.set_cons_succ, i64_w, i32_w]
      rfl
     refine pure_ (i := 17) (N := some 28) (v := ?_) (a' := ?_) #[true, true, true, true, true, true, true, true, true, true, true, true, true, true, true, true, true, true, false] rfl rfl (any_of HT_.out (by kernel_rfl)) (fun _ _ _ h => h) (Or.inl ⟨by rfl, ?_⟩) ?_ ?_
     rotate_left
     ·intro w'
      go_simp
      with_reducible rfl
     rotate_left
     ·simp only [Act.put, List.setIfInBounds_toArray, List.set_cons_zero, List.set_cons_succ, i64_w, i32_w]
      rfl
     refine pure_ (i := 18) (N := some 29) (v := ?_) (a' := ?_) #[true, true, true, true, true, true, true, true, true, true, true, true, true, true, true, true, true, true, true] rfl rfl (any_of HT_.out (by kernel_rfl)) (fun _ _ _ h => h) (Or.inl ⟨by rfl, ?_⟩) ?_ ?_
     rotate_left
     ·intro w'
      go_simp
      with_reducible rfl
     rotate_left
     ·simp only [Act.put, List.setIfInBounds_toArray, List.set_cons_zero, List.set_cons_succ, i64_w, i32_w]
      rfl
     refine done_ (done_of HT_.out (by kernel_rfl)) ?_
     try go_wp2
     go_meet
     case rel => exact ⟨_, (false), (by first | rfl | (simp; done) | (simp [*]; done)), H', ⟨by first | omega | exact Nat.le_refl _⟩, ⟨Kd.Q_of_R (by (with_reducible repeat (first | apply Kd.R_alloc | apply Kd.R_drewN | apply Kd.R_drew)); exact Kd.R_mono HO113.out (fun _ hk => hk.2))⟩, ⟨Kd.Q_of_R (by (with_reducible repeat (first | apply Kd.R_alloc | apply Kd.R_drewN | apply Kd.R_drew)); exact Kd.R_mono HO116.out (fun _ hk => hk.2))⟩, ⟨by repeat (first | (with_reducible first | exact HB.out | apply below_alloc | apply pw_below_drewN | apply below_drew1) | exact HB.out)⟩⟩
    ·rw [if_neg c11] at H
     have c11b0 : ((rdOf ByteArray.empty t111 0).toList == ([42] : List UInt8)) = false := beq_eq_false_iff_ne.mpr c11
     have c11b1 : ((rdOf ByteArray.empty t111 0).toList != ([42] : List UInt8)) = true := bne_iff_ne.mpr c11
     by_cases c15 : 0 < (t114.length : Int)
     ·rw [if_pos c15] at H
      have c15b0 : decide (0 < (t114.length : Int)) = true := decide_eq_true c15
      have c15b1 : decide (0 < t114.length) = true := decide_eq_true (by omega)
      clear c15
      replace H := Option.bind_eq_some_iff.mp H
      obtain ⟨t121, A160, H⟩ := H
      replace H : (filter_MatchesExtended.j0 k t111 t114 (!t121)) = some r := H
      have A16 := Aside0.mk A160
      clear A160
      have H' := Aside0.mk H
      clear H
      try go_wp2
      have n0_ := Aside0.mk (Kd.R_drew HO113.out)
      have n1_ := Aside0.mk (Kd.R_drew HO116.out)
      have n2_ := Aside0.mk (below_drew1 HB.out)
      clear HO113
      clear HO116
      clear HB
      have HO113 := n0_
      have HO116 := n1_
      have HB := n2_
      clear n0_ n1_ n2_
      have p118 : 0 ≤ (0 : Int) := (by omega)
      have q118 : 0 < (t111.length : Int) := of_decide_eq_true (by first | (with_reducible assumption) | assumption)
      obtain ⟨Az_, cz_, ez_⟩ := Kd.R_slice HO113.out
      (first | subst ez_ | clear ez_)
      obtain ⟨ad118, e118, hx118_0⟩ := Kd.at_string (Kd.R_reads' HO113.out).2.2 0 p118 q118
      cases e118
      have qi118 : (0 < t111.length) = True := eq_true (by omega)
      (try rw [show ((0 : Int)).toNat = 0 from rfl] at hx118_0)
      (try rw [Addr.add_zero'] at hx118_0)
      replace p118 := eq_true p118
      replace q118 := eq_true q118
      have p119 : 0 ≤ (0 : Int) := (by omega)
      have q119 : 0 < (t111.length : Int) := of_decide_eq_true (by first | (with_reducible assumption) | assumption)
      obtain ⟨Az_, cz_, ez_⟩ := Kd.R_slice HO113.out
      (first | subst ez_ | clear ez_)
      obtain ⟨ad119, e119, hx119_0⟩ := Kd.at_string (Kd.R_reads' HO113.out).2.2 0 p119 q119
      obtain rfl : ad118 = ad119 := (by injection e119)
      have qi119 : (0 < t111.length) = True := eq_true (by omega)
      (try rw [show ((0 : Int)).toNat = 0 from rfl] at hx119_0)
      (try rw [Addr.add_zero'] at hx119_0)
      replace p119 := eq_true p119
      replace q119 := eq_true q119
      have p120 : 0 ≤ (0 : Int) := (by omega)
      have q120 : 0 < (t114.length : Int) := of_decide_eq_true (by first | (with_reducible assumption) | assumption)
      obtain ⟨Az_, cz_, ez_⟩ := Kd.R_slice HO116.out
      (first | subst ez_ | clear ez_)
      obtain ⟨ad120, e120, hx120_0⟩ := Kd.at_string (Kd.R_reads' HO116.out).2.2 0 p120 q120
      cases e120
      have qi120 : (0 < t114.length) = True := eq_true (by omega)
      (try rw [show ((0 : Int)).toNat = 0 from rfl] at hx120_0)
      (try rw [Addr.add_zero'] at hx120_0)
      replace p120 := eq_true p120
      replace q120 := eq_true q120
      refine start_ (n := 19) (S := fun w' => w'.cell? ad118 = some (.string (rdOf ByteArray.empty t111 0)) ∧ w'.cell? ad118 = some (.string (rdOf ByteArray.empty t111 0)) ∧ w'.cell? ad120 = some (.string (rdOf ByteArray.empty t114 0))) (ds := []) #[false, false, false, false, false, false, false, false, false, false, false, false, false, false, false, false, false, false, false] (by kernel_rfl) rfl rfl ⟨hx118_0, hx119_0, hx120_0⟩ (fun hHeld => ?_); refine with_tabW filter_MatchesExtended.tab2 filter_MatchesExtended.bits2 (fun HT_ HW_ => ?_)
      generalize w7.drew = w17 at HO113 HO116 HB hx118_0 hx119_0 hx120_0 hHeld ⊢
      refine pure_ (i := 0) (N := some 11) (v := ?_) (a' := ?_) #[true, false, false, false, false, false, false, false, false, false, false, false, false, false, false, false, false, false, false] rfl rfl (any_of HT_.out (by kernel_rfl)) (fun _ _ _ h => h) (Or.inl ⟨by rfl, ?_⟩) ?_ ?_
      rotate_left
      ·intro w'
       go_simp
       with_reducible rfl
      rotate_left
      ·simp only [Act.put, List.setIfInBounds_toArray, List.set_cons_zero, List.set_cons_succ, i64_w, i32_w]
       rfl
      refine one_ (i := 1) (N := some 12) #[true, true, false, false, false, false, false, false, false, false, false, false, false, false, false, false, false, false, false] rfl rfl (one_of HT_.out (by kernel_rfl)) (by decide) (fun K hK => ?_)
      refine goes_ Try.func19 (by kernel_rfl) rfl #[.string a0] (by rfl) rfl rfl (by (try simp only [List.map_toArray, List.map_cons, List.map_nil]); first | done | rfl | (simp only [List.length_drop, List.length_take]; rfl)) ?_
      with_reducible refine (filter_Extended.calls k a0 true _ A8.out).mono ?_
      rintro e w18 ⟨rfl, hb⟩
      have HS0_ := (hb.cell (World.block_lt_of_cell? _ _ (hHeld.1))).trans (hHeld.1)
      have HS1_ := (hb.cell (World.block_lt_of_cell? _ _ (hHeld.2.1))).trans (hHeld.2.1)
      have HS2_ := (hb.cell (World.block_lt_of_cell? _ _ (hHeld.2.2))).trans (hHeld.2.2)
      refine ⟨_, rfl, ?_⟩
      have n0_ := Aside0.mk (Kd.R_below (by (with_reducible repeat (first | apply Kd.R_alloc | apply Kd.R_drewN | apply Kd.R_drew)); exact HO113.out) hb)
      have n1_ := Aside0.mk (Kd.R_below (by (with_reducible repeat (first | apply Kd.R_alloc | apply Kd.R_drewN | apply Kd.R_drew)); exact HO116.out) hb)
      have n2_ := Aside0.mk (below_step (by repeat (first | (with_reducible first | exact HB.out | apply below_alloc | apply pw_below_drewN | apply below_drew1) | exact HB.out)) hb)
      clear HO113
      clear HO116
      clear HB
      have HO113 := n0_
      have HO116 := n1_
      have HB := n2_
      clear n0_ n1_ n2_
      (try clear hb)
      (try clear hb2)
      (try clear hk)
      (try clear hi)
      obtain ⟨Ao19, co19, eo19⟩ := Kd.R_slice HO113.out
      (first | subst eo19 | (injection eo19 with f1_ f2_ f3_; have f4_ := f1_.symm; have f5_ := f3_.symm; clear f1_ f2_ f3_; subst f4_; subst f5_))
      obtain ⟨Ao20, co20, eo20⟩ := Kd.R_slice HO116.out
      (first | subst eo20 | (injection eo20 with f1_ f2_ f3_; have f4_ := f1_.symm; have f5_ := f3_.symm; clear f1_ f2_ f3_; subst f4_; subst f5_))
      refine hK.out _ _ ⟨HS0_, HS1_, HS2_⟩ (fun hHeld => ?_)
      clear hK K
      refine norm_ (a' := ?_) ?_ ?_
      rotate_left
      ·show Act.put _ (some 12) _ = _
       simp only [Act.put, List.setIfInBounds_toArray, List.set_cons_zero, List.set_cons_succ, i64_w, i32_w]
       rfl
      refine pure_ (i := 2) (N := some 13) (v := ?_) (a' := ?_) #[true, true, true, false, false, false, false, false, false, false, false, false, false, false, false, false, false, false, false] rfl rfl (any_of HT_.out (by kernel_rfl)) (fun _ _ _ h => h) (Or.inl ⟨by rfl, ?_⟩) ?_ ?_
      rotate_left
      ·intro w'
       go_simp
       with_reducible rfl
      rotate_left
      ·simp only [Act.put, List.setIfInBounds_toArray, List.set_cons_zero, List.set_cons_succ, i64_w, i32_w]
       rfl
      refine pure_ (i := 3) (N := some 14) (v := ?_) (a' := ?_) #[true, true, true, true, false, false, false, false, false, false, false, false, false, false, false, false, false, false, false] rfl rfl (any_of HT_.out (by kernel_rfl)) (fun _ _ _ h => h) (Or.inl ⟨by rfl, ?_⟩) ?_ ?_
      rotate_left
      ·intro w'
       go_simp
       with_reducible rfl
      rotate_left
      ·simp only [Act.put, List.setIfInBounds_toArray, List.set_cons_zero, List.set_cons_succ, i64_w, i32_w]
       rfl
      refine pure_ (i := 4) (N := some 15) (v := ?_) (a' := ?_) #[true, true, true, true, true, false, false, false, false, false, false, false, false, false, false, false, false, false, false] rfl rfl (any_of HT_.out (by kernel_rfl)) (fun _ _ _ h => h) (Or.inl ⟨by rfl, ?_⟩) ?_ ?_
      rotate_left
      ·intro w'
       go_simp
       with_reducible rfl
      rotate_left
      ·simp only [Act.put, List.setIfInBounds_toArray, List.set_cons_zero, List.set_cons_succ, i64_w, i32_w]
       rfl
      refine pure_ (i := 5) (N := some 16) (v := ?_) (a' := ?_) #[true, true, true, true, true, true, false, false, false, false, false, false, false, false, false, false, false, false, false] rfl rfl (any_of HT_.out (by kernel_rfl)) (fun _ _ _ h => h) (Or.inl ⟨by rfl, ?_⟩) ?_ ?_
      rotate_left
      ·intro w'
       go_simp
       with_reducible rfl
      rotate_left
      ·simp only [Act.put, List.setIfInBounds_toArray, List.set_cons_zero, List.set_cons_succ, i64_w, i32_w]
       rfl
      refine take_ (i := 6) (N := some 17) (v := ?_) (a' := ?_) #[true, true, true, true, true, true, true, false, false, false, false, false, false, false, false, false, false, false, false] rfl rfl (take_ofW HT_.out HW_.out (by kernel_rfl)) (fun _ _ _ h => h) (Or.inl ⟨by rfl, ?_⟩) hHeld ?_ ?_
      rotate_left
      ·rintro w' ⟨s0, s1, s2⟩
       go_simp
       with_reducible rfl
      rotate_left
      ·simp only [Act.put, List.setIfInBounds_toArray, List.set_cons_zero, List.set_cons_succ, i64_w, i32_w]
       rfl
      refine pure_ (i := 7) (N := some 18) (v := ?_) (a' := ?_) #[true, true, true, true, true, true, true, true, false, false, false, false, false, false, false, false, false, false, false] rfl rfl (any_of HT_.out (by kernel_rfl)) (fun _ _ _ h => h) (Or.inl ⟨by rfl, ?_⟩) ?_ ?_
      rotate_left
      ·intro w'
       go_simp
       with_reducible rfl
      rotate_left
      ·simp only [Act.put, List.setIfInBounds_toArray, List.set_cons_zero, List.set_cons_succ, i64_w, i32_w]
       rfl
      refine pure_ (i := 8) (N := some 19) (v := ?_) (a' := ?_) #[true, true, true, true, true, true, true, true, true, false, false, false, false, false, false, false, false, false, false] rfl rfl (any_of HT_.out (by kernel_rfl)) (fun _ _ _ h => h) (Or.inl ⟨by rfl, ?_⟩) ?_ ?_
      rotate_left
      ·intro w'
       go_simp
       with_reducible rfl
      rotate_left
      ·simp only [Act.put, List.setIfInBounds_toArray, List.set_cons_zero, List.set_cons_succ, i64_w, i32_w]
       rfl
      refine pure_ (i := 9) (N := some 20) (v := ?_) (a' := ?_) #[true, true, true, true, true, true, true, true, true, true, false, false, false, false, false, false, false, false, false] rfl rfl (any_of HT_.out (by kernel_rfl)) (fun _ _ _ h => h) (Or.inl ⟨by rfl, ?_⟩) ?_ ?_
      rotate_left
      ·intro w'
       go_simp
       with_reducible rfl
      rotate_left
      ·simp only [Act.put, List.setIfInBounds_toArray, List.set_cons_zero, List.set_cons_succ, i64_w, i32_w]
       rfl
      refine pure_ (i := 10) (N := some 21) (v := ?_) (a' := ?_) #[true, true, true, true, true, true, true, true, true, true, true, false, false, false, false, false, false, false, false] rfl rfl (any_of HT_.out (by kernel_rfl)) (fun _ _ _ h => h) (Or.inl ⟨by rfl, ?_⟩) ?_ ?_
      rotate_left
      ·intro w'
       go_simp
       with_reducible rfl
      rotate_left
      ·simp only [Act.put, List.setIfInBounds_toArray, List.set_cons_zero, List.set_cons_succ, i64_w, i32_w]
       rfl
      refine pure_ (i := 12) (N := some 23) (v := ?_) (a' := ?_) #[true, true, true, true, true, true, true, true, true, true, true, false, true, false, false, false, false, false, false] rfl rfl (any_of HT_.out (by kernel_rfl)) (fun _ _ _ h => h) (Or.inl ⟨by rfl, ?_⟩) ?_ ?_
      rotate_left
      ·intro w'
       go_simp
       with_reducible rfl
      rotate_left
      ·simp only [Act.put, List.setIfInBounds_toArray, List.set_cons_zero, List.set_cons_succ, i64_w, i32_w]
       rfl
      refine pure_ (i := 13) (N := some 24) (v := ?_) (a' := ?_) #[true, true, true, true, true, true, true, true, true, true, true, false, true, true, false, false, false, false, false] rfl rfl (any_of HT_.out (by kernel_rfl)) (fun _ _ _ h => h) (Or.inl ⟨by rfl, ?_⟩) ?_ ?_
      rotate_left
      ·intro w'
       go_simp
       with_reducible rfl
      rotate_left
      ·simp only [Act.put, List.setIfInBounds_toArray, List.set_cons_zero, List.set_cons_succ, i64_w, i32_w]
       rfl
      refine take_ (i := 11) (N := some 22) (v := ?_) (a' := ?_) #[true, true, true, true, true, true, true, true, true, true, true, true, true, true, false, false, false, false, false] rfl rfl (take_ofW HT_.out HW_.out (by kernel_rfl)) (fun _ _ _ h => h) (Or.inl ⟨by rfl, ?_⟩) hHeld ?_ ?_
      rotate_left
      ·rintro w' ⟨s0, s1, s2⟩
       go_simp
       with_reducible rfl
      rotate_left
      ·simp only [Act.put, List.setIfInBounds_toArray, List.set_cons_zero, List.set_cons_succ, i64_w, i32_w]
       rfl
      refine take_ (i := 14) (N := some 25) (v := ?_) (a' := ?_) #[true, true, true, true, true, true, true, true, true, true, true, true, true, true, true, false, false, false, false] rfl rfl (take_ofW HT_.out HW_.out (by kernel_rfl)) (fun _ _ _ h => h) (Or.inl ⟨by rfl, ?_⟩) hHeld ?_ ?_
      rotate_left
      ·rintro w' ⟨s0, s1, s2⟩
       go_simp
       with_reducible rfl
      rotate_left
      ·simp only [Act.put, List.setIfInBounds_toArray, List.set_cons_zero, List.set_cons_succ, i64_w, i32_w]
       rfl
      refine one_ (i := 15) (N := some 26) #[true, true, true, true, true, true, true, true, true, true, true, true, true, true, true, true, false, false, false] rfl rfl (one_of HT_.out (by kernel_rfl)) (by decide) (fun K hK => ?_)
      refine goes_ Try.func29 (by kernel_rfl) rfl #[.string (rdOf ByteArray.empty t111 0), .string (rdOf ByteArray.empty t114 0)] (by rfl) rfl rfl (by (try simp only [List.map_toArray, List.map_cons, List.map_nil]); first | done | rfl | (simp only [List.length_drop, List.length_take]; rfl)) ?_
      with_reducible refine (ascii_Same.calls k (rdOf ByteArray.empty t111 0) (rdOf ByteArray.empty t114 0) t121 _ A16.out).mono ?_
      rintro e w21 ⟨rfl, hb⟩
      have HS0_ := (hb.cell (World.block_lt_of_cell? _ _ (hHeld.1))).trans (hHeld.1)
      have HS1_ := (hb.cell (World.block_lt_of_cell? _ _ (hHeld.2.1))).trans (hHeld.2.1)
      have HS2_ := (hb.cell (World.block_lt_of_cell? _ _ (hHeld.2.2))).trans (hHeld.2.2)
      refine ⟨_, rfl, ?_⟩
      have n0_ := Aside0.mk (Kd.R_below (by (with_reducible repeat (first | apply Kd.R_alloc | apply Kd.R_drewN | apply Kd.R_drew)); exact HO113.out) hb)
      have n1_ := Aside0.mk (Kd.R_below (by (with_reducible repeat (first | apply Kd.R_alloc | apply Kd.R_drewN | apply Kd.R_drew)); exact HO116.out) hb)
      have n2_ := Aside0.mk (below_step (by repeat (first | (with_reducible first | exact HB.out | apply below_alloc | apply pw_below_drewN | apply below_drew1) | exact HB.out)) hb)
      clear HO113
      clear HO116
      clear HB
      have HO113 := n0_
      have HO116 := n1_
      have HB := n2_
      clear n0_ n1_ n2_
      (try clear hb)
      (try clear hb2)
      (try clear hk)
      (try clear hi)
      refine hK.out _ _ ⟨HS0_, HS1_, HS2_⟩ (fun hHeld => ?_)
      clear hK K
      refine norm_ (a' := ?_) ?_ ?_
      rotate_left
      ·show Act.put _ (some 26) _ = _
       simp only [Act.put, List.setIfInBounds_toArray, List.set_cons_zero, List.set_cons_succ, i64_w, i32_w]
       rfl
      refine pure_ (i := 16) (N := some 27) (v := ?_) (a' := ?_) #[true, true, true, true, true, true, true, true, true, true, true, true, true, true, true, true, true, false, false] rfl rfl (any_of HT_.out (by kernel_rfl)) (fun _ _ _ h => h) (Or.inl ⟨by rfl, ?_⟩) ?_ ?_
      rotate_left
      ·intro w'
       go_simp
       with_reducible rfl
      rotate_left
      ·simp only [Act.put, List.setIfInBounds_toArray, List.set_cons_zero, List.set_cons_succ, i64_w, i32_w]
       rfl
      refine pure_ (i := 17) (N := some 28) (v := ?_) (a' := ?_) #[true, true, true, true, true, true, true, true, true, true, true, true, true, true, true, true, true, true, false] rfl rfl (any_of HT_.out (by kernel_rfl)) (fun _ _ _ h => h) (Or.inl ⟨by rfl, ?_⟩) ?_ ?_
      rotate_left
      ·intro w'
       go_simp
       with_reducible rfl
      rotate_left
      ·simp only [Act.put, List.setIfInBounds_toArray, List.set_cons_zero, List.set_cons_succ, i64_w, i32_w]
       rfl
      refine pure_ (i := 18) (N := some 29) (v := ?_) (a' := ?_) #[true, true, true, true, true, true, true, true, true, true, true, true, true, true, true, true, true, true, true] rfl rfl (any_of HT_.out (by kernel_rfl)) (fun _ _ _ h => h) (Or.inl ⟨by rfl, ?_⟩) ?_ ?_
      rotate_left
      ·intro w'
       go_simp
       with_reducible rfl
      rotate_left
      ·simp only [Act.put, List.setIfInBounds_toArray, List.set_cons_zero, List.set_cons_succ, i64_w, i32_w]
       rfl
      refine done_ (done_of HT_.out (by kernel_rfl)) ?_
      try go_wp2
      go_meet
      case rel => exact ⟨_, (!t121), (by first | rfl | (simp; done) | (simp [*]; done)), H', ⟨by first | omega | exact Nat.le_refl _⟩, ⟨Kd.Q_of_R (by (with_reducible repeat (first | apply Kd.R_alloc | apply Kd.R_drewN | apply Kd.R_drew)); exact Kd.R_mono HO113.out (fun _ hk => hk.2))⟩, ⟨Kd.Q_of_R (by (with_reducible repeat (first | apply Kd.R_alloc | apply Kd.R_drewN | apply Kd.R_drew)); exact Kd.R_mono HO116.out (fun _ hk => hk.2))⟩, ⟨by repeat (first | (with_reducible first | exact HB.out | apply below_alloc | apply pw_below_drewN | apply below_drew1) | exact HB.out)⟩⟩
     ·rw [if_neg c15] at H
      exact absurd H (by simp)
   ·rw [if_neg c10] at H
    exact absurd H (by simp)
  ·replace c9 := Bool.eq_false_iff.mpr c9
   subst c9
   have H1 : (filter_MatchesExtended.j0 k t111 t114 true) = some r := by rw [if_neg (show ¬ (false = true) by decide)] at H; exact H
   clear H
   have H := H1
   clear H1
   have H' := Aside0.mk H
   clear H
   try go_wp2
   have n0_ := Aside0.mk (Kd.R_drew HO113.out)
   have n1_ := Aside0.mk (Kd.R_drew HO116.out)
   have n2_ := Aside0.mk (below_drew1 HB.out)
   clear HO113
   clear HO116
   clear HB
   have HO113 := n0_
   have HO116 := n1_
   have HB := n2_
   clear n0_ n1_ n2_
   refine start_ (n := 19) (S := fun w' => True) (ds := []) #[false, false, false, false, false, false, false, false, false, false, false, false, false, false, false, false, false, false, false] (by kernel_rfl) rfl rfl trivial (fun hHeld => ?_); refine with_tabW filter_MatchesExtended.tab2 filter_MatchesExtended.bits2 (fun HT_ HW_ => ?_)
   generalize w7.drew = w22 at HO113 HO116 HB hHeld ⊢
   refine pure_ (i := 0) (N := some 11) (v := ?_) (a' := ?_) #[true, false, false, false, false, false, false, false, false, false, false, false, false, false, false, false, false, false, false] rfl rfl (any_of HT_.out (by kernel_rfl)) (fun _ _ _ h => h) (Or.inl ⟨by rfl, ?_⟩) ?_ ?_
   rotate_left
   ·intro w'
    go_simp
    with_reducible rfl
   rotate_left
   ·simp only [Act.put, List.setIfInBounds_toArray, List.set_cons_zero, List.set_cons_succ, i64_w, i32_w]
    rfl
   refine one_ (i := 1) (N := some 12) #[true, true, false, false, false, false, false, false, false, false, false, false, false, false, false, false, false, false, false] rfl rfl (one_of HT_.out (by kernel_rfl)) (by decide) (fun K hK => ?_)
   refine goes_ Try.func19 (by kernel_rfl) rfl #[.string a0] (by rfl) rfl rfl (by (try simp only [List.map_toArray, List.map_cons, List.map_nil]); first | done | rfl | (simp only [List.length_drop, List.length_take]; rfl)) ?_
   with_reducible refine (filter_Extended.calls k a0 false _ A8.out).mono ?_
   rintro e w23 ⟨rfl, hb⟩
   refine ⟨_, rfl, ?_⟩
   have n0_ := Aside0.mk (Kd.R_below (by (with_reducible repeat (first | apply Kd.R_alloc | apply Kd.R_drewN | apply Kd.R_drew)); exact HO113.out) hb)
   have n1_ := Aside0.mk (Kd.R_below (by (with_reducible repeat (first | apply Kd.R_alloc | apply Kd.R_drewN | apply Kd.R_drew)); exact HO116.out) hb)
   have n2_ := Aside0.mk (below_step (by repeat (first | (with_reducible first | exact HB.out | apply below_alloc | apply pw_below_drewN | apply below_drew1) | exact HB.out)) hb)
   clear HO113
   clear HO116
   clear HB
   have HO113 := n0_
   have HO116 := n1_
   have HB := n2_
   clear n0_ n1_ n2_
   (try clear hb)
   (try clear hb2)
   (try clear hk)
   (try clear hi)
   refine hK.out _ _ trivial (fun hHeld => ?_)
   clear hK K
   refine norm_ (a' := ?_) ?_ ?_
   rotate_left
   ·show Act.put _ (some 12) _ = _
    simp only [Act.put, List.setIfInBounds_toArray, List.set_cons_zero, List.set_cons_succ, i64_w, i32_w]
    rfl
   refine pure_ (i := 2) (N := some 13) (v := ?_) (a' := ?_) #[true, true, true, false, false, false, false, false, false, false, false, false, false, false, false, false, false, false, false] rfl rfl (any_of HT_.out (by kernel_rfl)) (fun _ _ _ h => h) (Or.inl ⟨by rfl, ?_⟩) ?_ ?_
   rotate_left
   ·intro w'
    go_simp
    with_reducible rfl
   rotate_left
   ·simp only [Act.put, List.setIfInBounds_toArray, List.set_cons_zero, List.set_cons_succ, i64_w, i32_w]
    rfl
   refine pure_ (i := 3) (N := some 14) (v := ?_) (a' := ?_) #[true, true, true, true, false, false, false, false, false, false, false, false, false, false, false, false, false, false, false] rfl rfl (any_of HT_.out (by kernel_rfl)) (fun _ _ _ h => h) (Or.inl ⟨by rfl, ?_⟩) ?_ ?_
   rotate_left
   ·intro w'
    go_simp
    with_reducible rfl
   rotate_left
   ·simp only [Act.put, List.setIfInBounds_toArray, List.set_cons_zero, List.set_cons_succ, i64_w, i32_w]
    rfl
   refine pure_ (i := 4) (N := some 15) (v := undef) (a' := ?_) #[true, true, true, true, true, false, false, false, false, false, false, false, false, false, false, false, false, false, false] rfl rfl (any_of HT_.out (by kernel_rfl)) (fun _ _ _ h => h) (Or.inr ⟨by rfl, rfl⟩) ?_ ?_
   rotate_left
   ·simp only [Act.put, List.setIfInBounds_toArray, List.set_cons_zero, List.set_cons_succ, i64_w, i32_w]
    rfl
   refine pure_ (i := 5) (N := some 16) (v := undef) (a' := ?_) #[true, true, true, true, true, true, false, false, false, false, false, false, false, false, false, false, false, false, false] rfl rfl (any_of HT_.out (by kernel_rfl)) (fun _ _ _ h => h) (Or.inr ⟨by rfl, rfl⟩) ?_ ?_
   rotate_left
   ·simp only [Act.put, List.setIfInBounds_toArray, List.set_cons_zero, List.set_cons_succ, i64_w, i32_w]
    rfl
   refine pure_ (i := 6) (N := some 17) (v := undef) (a' := ?_) #[true, true, true, true, true, true, true, false, false, false, false, false, false, false, false, false, false, false, false] rfl rfl (any_of HT_.out (by kernel_rfl)) (fun _ _ _ h => h) (Or.inr ⟨by rfl, rfl⟩) ?_ ?_
   rotate_left
   ·simp only [Act.put, List.setIfInBounds_toArray, List.set_cons_zero, List.set_cons_succ, i64_w, i32_w]
    rfl
   refine pure_ (i := 7) (N := some 18) (v := undef) (a' := ?_) #[true, true, true, true, true, true, true, true, false, false, false, false, false, false, false, false, false, false, false] rfl rfl (any_of HT_.out (by kernel_rfl)) (fun _ _ _ h => h) (Or.inr ⟨by rfl, rfl⟩) ?_ ?_
   rotate_left
   ·simp only [Act.put, List.setIfInBounds_toArray, List.set_cons_zero, List.set_cons_succ, i64_w, i32_w]
    rfl
   refine pure_ (i := 8) (N := some 19) (v := undef) (a' := ?_) #[true, true, true, true, true, true, true, true, true, false, false, false, false, false, false, false, false, false, false] rfl rfl (any_of HT_.out (by kernel_rfl)) (fun _ _ _ h => h) (Or.inr ⟨by rfl, rfl⟩) ?_ ?_
   rotate_left
   ·simp only [Act.put, List.setIfInBounds_toArray, List.set_cons_zero, List.set_cons_succ, i64_w, i32_w]
    rfl
   refine pure_ (i := 9) (N := some 20) (v := undef) (a' := ?_) #[true, true, true, true, true, true, true, true, true, true, false, false, false, false, false, false, false, false, false] rfl rfl (any_of HT_.out (by kernel_rfl)) (fun _ _ _ h => h) (Or.inr ⟨by rfl, rfl⟩) ?_ ?_
   rotate_left
   ·simp only [Act.put, List.setIfInBounds_toArray, List.set_cons_zero, List.set_cons_succ, i64_w, i32_w]
    rfl
   refine pure_ (i := 10) (N := some 21) (v := undef) (a' := ?_) #[true, true, true, true, true, true, true, true, true, true, true, false, false, false, false, false, false, false, false] rfl rfl (any_of HT_.out (by kernel_rfl)) (fun _ _ _ h => h) (Or.inr ⟨by rfl, rfl⟩) ?_ ?_
   rotate_left
   ·simp only [Act.put, List.setIfInBounds_toArray, List.set_cons_zero, List.set_cons_succ, i64_w, i32_w]
    rfl
   refine pure_ (i := 11) (N := some 22) (v := undef) (a' := ?_) #[true, true, true, true, true, true, true, true, true, true, true, true, false, false, false, false, false, false, false] rfl rfl (any_of HT_.out (by kernel_rfl)) (fun _ _ _ h => h) (Or.inr ⟨by rfl, rfl⟩) ?_ ?_
   rotate_left
   ·simp only [Act.put, List.setIfInBounds_toArray, List.set_cons_zero, List.set_cons_succ, i64_w, i32_w]
    rfl
   refine pure_ (i := 12) (N := some 23) (v := undef) (a' := ?_) #[true, true, true, true, true, true, true, true, true, true, true, true, true, false, false, false, false, false, false] rfl rfl (any_of HT_.out (by kernel_rfl)) (fun _ _ _ h => h) (Or.inr ⟨by rfl, rfl⟩) ?_ ?_
   rotate_left
   ·simp only [Act.put, List.setIfInBounds_toArray, List.set_cons_zero, List.set_cons_succ, i64_w, i32_w]
    rfl
   refine pure_ (i := 13) (N := some 24) (v := undef) (a' := ?_) #[true, true, true, true, true, true, true, true, true, true, true, true, true, true, false, false, false, false, false] rfl rfl (any_of HT_.out (by kernel_rfl)) (fun _ _ _ h => h) (Or.inr ⟨by rfl, rfl⟩) ?_ ?_
   rotate_left
   ·simp only [Act.put, List.setIfInBounds_toArray, List.set_cons_zero, List.set_cons_succ, i64_w, i32_w]
    rfl
   refine pure_ (i := 14) (N := some 25) (v := undef) (a' := ?_) #[true, true, true, true, true, true, true, true, true, true, true, true, true, true, true, false, false, false, false] rfl rfl (any_of HT_.out (by kernel_rfl)) (fun _ _ _ h => h) (Or.inr ⟨by rfl, rfl⟩) ?_ ?_
   rotate_left
   ·simp only [Act.put, List.setIfInBounds_toArray, List.set_cons_zero, List.set_cons_succ, i64_w, i32_w]
    rfl
   refine pure_ (i := 15) (N := some 26) (v := undef) (a' := ?_) #[true, true, true, true, true, true, true, true, true, true, true, true, true, true, true, true, false, false, false] rfl rfl (any_of HT_.out (by kernel_rfl)) (fun _ _ _ h => h) (Or.inr ⟨by rfl, rfl⟩) ?_ ?_
   rotate_left
   ·simp only [Act.put, List.setIfInBounds_toArray, List.set_cons_zero, List.set_cons_succ, i64_w, i32_w]
    rfl
   refine pure_ (i := 16) (N := some 27) (v := undef) (a' := ?_) #[true, true, true, true, true, true, true, true, true, true, true, true, true, true, true, true, true, false, false] rfl rfl (any_of HT_.out (by kernel_rfl)) (fun _ _ _ h => h) (Or.inr ⟨by rfl, rfl⟩) ?_ ?_
   rotate_left
   ·simp only [Act.put, List.setIfInBounds_toArray, List.set_cons_zero, List.set_cons_succ, i64_w, i32_w]
    rfl
   refine pure_ (i := 17) (N := some 28) (v := undef) (a' := ?_) #[true, true, true, true, true, true, true, true, true, true, true, true, true, true, true, true, true, true, false] rfl rfl (any_of HT_.out (by kernel_rfl)) (fun _ _ _ h => h) (Or.inr ⟨by rfl, rfl⟩) ?_ ?_
   rotate_left
   ·simp only [Act.put, List.setIfInBounds_toArray, List.set_cons_zero, List.set_cons_succ, i64_w, i32_w]
    rfl
   refine pure_ (i := 18) (N := some 29) (v := ?_) (a' := ?_) #[true, true, true, true, true, true, true, true, true, true, true, true, true, true, true, true, true, true, true] rfl rfl (any_of HT_.out (by kernel_rfl)) (fun _ _ _ h => h) (Or.inl ⟨by rfl, ?_⟩) ?_ ?_
   rotate_left
   ·intro w'
    go_simp
    with_reducible rfl
   rotate_left
   ·simp only [Act.put, List.setIfInBounds_toArray, List.set_cons_zero, List.set_cons_succ, i64_w, i32_w]
    rfl
   refine done_ (done_of HT_.out (by kernel_rfl)) ?_
   try go_wp2
   go_meet
   case rel => exact ⟨_, (true), (by first | rfl | (simp; done) | (simp [*]; done)), H', ⟨by first | omega | exact Nat.le_refl _⟩, ⟨Kd.Q_of_R (by (with_reducible repeat (first | apply Kd.R_alloc | apply Kd.R_drewN | apply Kd.R_drew)); exact Kd.R_mono HO113.out (fun _ hk => hk.2))⟩, ⟨Kd.Q_of_R (by (with_reducible repeat (first | apply Kd.R_alloc | apply Kd.R_drewN | apply Kd.R_drew)); exact Kd.R_mono HO116.out (fun _ hk => hk.2))⟩, ⟨by repeat (first | (with_reducible first | exact HB.out | apply below_alloc | apply pw_below_drewN | apply below_drew1) | exact HB.out)⟩⟩
 case rest =>
  clear HC5
  try clear c1
  try clear p1
  try clear q1
  try clear hx1
  try clear qi1
  try clear c2
  try clear p2
  try clear c3
  try clear c9
  try clear c10
  try clear c10b0
  try clear c10b1
  try clear c11
  try clear c11b0
  try clear c11b1
  try clear p11
  try clear q11
  try clear hx11
  try clear qi11
  try clear p12
  try clear q12
  try clear hx12
  try clear qi12
  try clear c13
  try clear c15
  try clear c15b0
  try clear c15b1
  try clear c19
  try clear hx118_0
  try clear hx119_0
  try clear hx120_0
  try clear p118
  try clear p119
  try clear p120
  try clear q118
  try clear q119
  try clear q120
  obtain ⟨kq, x29_4, rfl, HA, HJ4, HO_5, HO_6, HB⟩ := hcut
  cases kq with
  | zero => exact absurd HA.out (by simp [filter_MatchesExtended.j0])
  | succ kj4 =>
   have H := HA.out
   clear HA
   simp only [filter_MatchesExtended.j0] at H
   by_cases c24 : x29_4 = true
   ·subst c24
    have H1 : (some false) = some r := by rw [if_pos rfl] at H; exact H
    clear H
    have H := H1
    clear H1
    obtain rfl := Option.some.inj H
    go_wp2
    (try rw [Exit.noGoto_ret])
    go_ret
    exact ⟨by first | rfl | (simp [errW_none, errW_some] <;> rfl) | (simp [*, errW_none, errW_some] <;> rfl), by repeat (first | (with_reducible first | exact HB.out | apply below_alloc | apply pw_below_drewN | apply below_drew1) | exact HB.out)⟩
   ·replace c24 := Bool.eq_false_iff.mpr c24
    subst c24
    have H1 : (if 1 ≤ (t111.length : Int) then (if 1 ≤ (t114.length : Int) then (filter_MatchesExtended.l0 kj4 (t111.drop (1 : Int).toNat) (t114.drop (1 : Int).toNat)) else (none)) else (none)) = some r := by rw [if_neg (show ¬ (false = true) by decide)] at H; exact H
    clear H
    have H := H1
    clear H1
    by_cases c25 : 1 ≤ (t111.length : Int)
    ·rw [if_pos c25] at H
     have c25b0 := eq_true c25
     have c25b1 : decide (1 ≤ (t111.length : Int)) = true := decide_eq_true c25
     clear c25
     obtain ⟨y122, hy122⟩ : ∃ y_ : List ByteArray, y_ = (t111.drop (1 : Int).toNat) := ⟨_, rfl⟩
     replace H : (if 1 ≤ (t114.length : Int) then (filter_MatchesExtended.l0 kj4 y122 (t114.drop (1 : Int).toNat)) else (none)) = some r := by first | (rw [hy122]; with_reducible exact H) | (have H2_ := (Option.bind_some _ _).symm.trans H; rw [hy122]; with_reducible exact H2_) | (have H2_ := (Option.bind_some _ _).symm.trans H; with_reducible exact H2_) | with_reducible exact H | (rw [hy122]; exact H) | exact H
     have Ny122 := Aside0.mk hy122
     clear hy122
     by_cases c26 : 1 ≤ (t114.length : Int)
     ·rw [if_pos c26] at H
      have c26b0 := eq_true c26
      have c26b1 : decide (1 ≤ (t114.length : Int)) = true := decide_eq_true c26
      clear c26
      obtain ⟨y125, hy125⟩ : ∃ y_ : List ByteArray, y_ = (t114.drop (1 : Int).toNat) := ⟨_, rfl⟩
      replace H : (filter_MatchesExtended.l0 kj4 y122 y125) = some r := by first | (rw [hy125]; with_reducible exact H) | (have H2_ := (Option.bind_some _ _).symm.trans H; rw [hy125]; with_reducible exact H2_) | (have H2_ := (Option.bind_some _ _).symm.trans H; with_reducible exact H2_) | with_reducible exact H | (rw [hy125]; exact H) | exact H
      have Ny125 := Aside0.mk hy125
      clear hy125
      have H' := Aside0.mk H
      clear H
      try go_wp2
      have n0_ := Aside0.mk (Kd.Q_drew HO_5.out)
      have n1_ := Aside0.mk (Kd.Q_drew HO_6.out)
      have n2_ := Aside0.mk (below_drew1 HB.out)
      clear HO_5
      clear HO_6
      clear HB
      have HO_5 := n0_
      have HO_6 := n1_
      have HB := n2_
      clear n0_ n1_ n2_
      obtain ⟨Ao28, co28, eo28, _⟩ := Kd.Q_slice HO_5.out
      (first | subst eo28 | (injection eo28 with f1_ f2_ f3_; have f4_ := f1_.symm; have f5_ := f3_.symm; clear f1_ f2_ f3_; subst f4_; subst f5_))
      have q29 : (1 : Int) ≤ ((t111.length : Int) : Int) := of_decide_eq_true (by first | (with_reducible assumption) | assumption)
      obtain ⟨i029, hi029, _, hsz29, _⟩ := info_parts info9
      have hcut29 := cut_from (P := Try.prog) 25 9 .i64 Try.underlying25 hi029 1 hsz29 Ao28 t111.length co28 1 (by omega) q29
      have hr29 := Kd.Q_drop (k := (1 : Int).toNat) HO_5.out (by omega)
      obtain ⟨A29, hA29⟩ : ∃ A1, A1 = (if co28 = (1 : Int).toNat then Ao28 else (Ao28 : Option Addr).map (·.add ((1 : Int).toNat * 1))) := ⟨_, rfl⟩
      obtain ⟨c29, hc29⟩ : ∃ c1, c1 = co28 - (1 : Int).toNat := ⟨_, rfl⟩
      have hy29 : y122.length = t111.length - (1 : Int).toNat := (by rw [Ny122.out, List.length_drop])
      rw [← Ny122.out] at hr29
      rw [← hy29, ← hA29, ← hc29] at hcut29
      replace hr29 : Kd.Q Kd.string 9 wc.drew w.heap.size (fun k_ => some k_ ≠ (v115 : Value).ownBlock) (.slice A29 y122.length c29) y122 := (by rw [hA29, hc29, hy29]; exact hr29)
      have HE29 : Aside0 ((Value.slice A29 y122.length c29).ownBlock = (.slice Ao28 t111.length co28 : Value).ownBlock) := ⟨by rw [hA29]; split <;> (cases (Ao28 : Option Addr) <;> rfl)⟩
      clear hy29 hi029 hsz29 HO_5 hA29 hc29
      have HO124 := Aside0.mk hr29
      clear hr29
      replace q29 := eq_true q29
      have n_ := Aside0.mk (Kd.Q_mono (ok' := fun k_ => some k_ ≠ (.slice A29 y122.length c29 : Value).ownBlock) HO_6.out (fun k_ hk => (by rw [HE29.out]; exact hk)))
      clear HO_6
      have HO_6 := n_
      clear n_
      obtain ⟨Ao30, co30, eo30, _⟩ := Kd.Q_slice HO_6.out
      (first | subst eo30 | (injection eo30 with f1_ f2_ f3_; have f4_ := f1_.symm; have f5_ := f3_.symm; clear f1_ f2_ f3_; subst f4_; subst f5_))
      have q31 : (1 : Int) ≤ ((t114.length : Int) : Int) := of_decide_eq_true (by first | (with_reducible assumption) | assumption)
      obtain ⟨i031, hi031, _, hsz31, _⟩ := info_parts info9
      have hcut31 := cut_from (P := Try.prog) 25 9 .i64 Try.underlying25 hi031 1 hsz31 Ao30 t114.length co30 1 (by omega) q31
      have hr31 := Kd.Q_drop (k := (1 : Int).toNat) HO_6.out (by omega)
      obtain ⟨A31, hA31⟩ : ∃ A1, A1 = (if co30 = (1 : Int).toNat then Ao30 else (Ao30 : Option Addr).map (·.add ((1 : Int).toNat * 1))) := ⟨_, rfl⟩
      obtain ⟨c31, hc31⟩ : ∃ c1, c1 = co30 - (1 : Int).toNat := ⟨_, rfl⟩
      have hy31 : y125.length = t114.length - (1 : Int).toNat := (by rw [Ny125.out, List.length_drop])
      rw [← Ny125.out] at hr31
      rw [← hy31, ← hA31, ← hc31] at hcut31
      replace hr31 : Kd.Q Kd.string 9 wc.drew w.heap.size (fun k_ => some k_ ≠ (.slice A29 y122.length c29 : Value).ownBlock) (.slice A31 y125.length c31) y125 := (by rw [hA31, hc31, hy31]; exact hr31)
      have HE31 : Aside0 ((Value.slice A31 y125.length c31).ownBlock = (.slice Ao30 t114.length co30 : Value).ownBlock) := ⟨by rw [hA31]; split <;> (cases (Ao30 : Option Addr) <;> rfl)⟩
      clear hy31 hi031 hsz31 HO_6 hA31 hc31
      have HO127 := Aside0.mk hr31
      clear hr31
      replace q31 := eq_true q31
      have n_ := Aside0.mk (Kd.Q_mono (ok' := fun k_ => some k_ ≠ (.slice A31 y125.length c31 : Value).ownBlock) HO124.out (fun k_ hk => (by rw [HE31.out]; exact hk)))
      clear HO124
      have HO124 := n_
      clear n_
      refine start_ (n := 6) (S := fun w' => True) (ds := []) #[false, false, false, false, false, false] (by kernel_rfl) rfl rfl trivial (fun hHeld => ?_)
      generalize wc.drew = w27 at HO124 HB HO127 hHeld ⊢
      refine pure_ (i := 0) (N := some 30) (v := ?_) (a' := ?_) #[true, false, false, false, false, false] rfl rfl (by kernel_rfl) (fun _ _ _ h => h) (Or.inl ⟨by rfl, ?_⟩) ?_ ?_
      rotate_left
      ·intro w'
       go_simp
       with_reducible rfl
      rotate_left
      ·simp only [Act.put, List.setIfInBounds_toArray, List.set_cons_zero, List.set_cons_succ, i64_w, i32_w]
       rfl
      refine pure_ (i := 1) (N := some 31) (v := ?_) (a' := ?_) #[true, true, false, false, false, false] rfl rfl (by kernel_rfl) (fun _ _ _ h => h) (Or.inl ⟨by rfl, ?_⟩) ?_ ?_
      rotate_left
      ·intro w'
       go_simp
       with_reducible rfl
      rotate_left
      ·simp only [Act.put, List.setIfInBounds_toArray, List.set_cons_zero, List.set_cons_succ, i64_w, i32_w]
       rfl
      refine pure_ (i := 2) (N := some 32) (v := ?_) (a' := ?_) #[true, true, true, false, false, false] rfl rfl (by kernel_rfl) (fun _ _ _ h => h) (Or.inl ⟨by rfl, ?_⟩) ?_ ?_
      rotate_left
      ·intro w'
       go_simp
       with_reducible rfl
      rotate_left
      ·simp only [Act.put, List.setIfInBounds_toArray, List.set_cons_zero, List.set_cons_succ, i64_w, i32_w]
       rfl
      refine pure_ (i := 3) (N := some 33) (v := ?_) (a' := ?_) #[true, true, true, true, false, false] rfl rfl (by kernel_rfl) (fun _ _ _ h => h) (Or.inl ⟨by rfl, ?_⟩) ?_ ?_
      rotate_left
      ·intro w'
       go_simp
       with_reducible rfl
      rotate_left
      ·simp only [Act.put, List.setIfInBounds_toArray, List.set_cons_zero, List.set_cons_succ, i64_w, i32_w]
       rfl
      refine pure_ (i := 4) (N := some 5) (v := ?_) (a' := ?_) #[true, true, true, true, true, false] rfl rfl (by kernel_rfl) (fun _ _ _ h => h) (Or.inl ⟨by rfl, ?_⟩) ?_ ?_
      rotate_left
      ·intro w'
       go_simp
       with_reducible rfl
      rotate_left
      ·simp only [Act.put, List.setIfInBounds_toArray, List.set_cons_zero, List.set_cons_succ, i64_w, i32_w]
       rfl
      refine pure_ (i := 5) (N := some 6) (v := ?_) (a' := ?_) #[true, true, true, true, true, true] rfl rfl (by kernel_rfl) (fun _ _ _ h => h) (Or.inl ⟨by rfl, ?_⟩) ?_ ?_
      rotate_left
      ·intro w'
       go_simp
       with_reducible rfl
      rotate_left
      ·simp only [Act.put, List.setIfInBounds_toArray, List.set_cons_zero, List.set_cons_succ, i64_w, i32_w]
       rfl
      refine done_ (by kernel_rfl) ?_
      try go_wp2
      (try (go_step3; go_wp2; (try (go_step3; go_wp2))))
      go_loopg [5, 6] kj4 (fun kq v5 v6 w' => ∃ (x5_2 : List ByteArray) (x6_2 : List ByteArray), Aside0 (filter_MatchesExtended.l0 kq x5_2 x6_2 = some r) ∧ Aside0 (kq ≤ kj4) ∧ Aside0 (Kd.Q Kd.string 9 w' w.heap.size (fun k_ => some k_ ≠ (v6 : Value).ownBlock) v5 x5_2) ∧ Aside0 (Kd.Q Kd.string 9 w' w.heap.size (fun k_ => some k_ ≠ (v5 : Value).ownBlock) v6 x6_2) ∧ Aside0 (Below w.heap.size w w'))
      case atStart => exact ⟨(y122), (y125), H', ⟨Nat.le_refl _⟩, ⟨by (with_reducible repeat (first | apply Kd.Q_alloc | apply Kd.Q_drewN | apply Kd.Q_drew)); exact HO124.out⟩, ⟨by (with_reducible repeat (first | apply Kd.Q_alloc | apply Kd.Q_drewN | apply Kd.Q_drew)); exact HO127.out⟩, ⟨by repeat (first | (with_reducible first | exact HB.out | apply below_alloc | apply pw_below_drewN | apply below_drew1) | exact HB.out)⟩⟩
      case round =>
       clear H'
       try clear c1
       try clear p1
       try clear q1
       try clear hx1
       try clear qi1
       try clear c2
       try clear p2
       try clear q2
       try clear c3
       try clear q3
       try clear c9
       try clear c10
       try clear c10b0
       try clear c10b1
       try clear c11
       try clear c11b0
       try clear c11b1
       try clear p11
       try clear q11
       try clear hx11
       try clear qi11
       try clear p12
       try clear q12
       try clear hx12
       try clear qi12
       try clear c13
       try clear c15
       try clear c15b0
       try clear c15b1
       try clear c19
       try clear c24
       try clear c25
       try clear c25b0
       try clear c25b1
       try clear c26
       try clear c26b0
       try clear c26b1
       try clear c29
       try clear q29
       try clear c31
       try clear q31
       try clear hx118_0
       try clear hx119_0
       try clear hx120_0
       try clear p1
       try clear p11
       try clear p118
       try clear p119
       try clear p12
       try clear p120
       try clear p2
       try clear q1
       try clear q11
       try clear q118
       try clear q119
       try clear q12
       try clear q120
       try clear q29
       try clear q31
       obtain ⟨x5_2, x6_2, HA, HK2, HO_5, HO_6, HB⟩ := hrel
       cases gk with
       | zero => exact absurd HA.out (by simp [filter_MatchesExtended.l0])
       | succ k2 =>
        have H := HA.out
        clear HA
        simp only [filter_MatchesExtended.l0] at H
        by_cases c32 : (x5_2.length : Int) > 0
        ·rw [if_pos c32] at H
         have c32b0 : decide (0 < (x5_2.length : Int)) = true := decide_eq_true c32
         have c32b1 : decide (0 < x5_2.length) = true := decide_eq_true (by omega)
         clear c32
         by_cases c33 : 0 < (x5_2.length : Int)
         ·rw [if_pos c33] at H
          have c33b0 : decide (0 < (x5_2.length : Int)) = true := decide_eq_true c33
          have c33b1 : decide (0 < x5_2.length) = true := decide_eq_true (by omega)
          clear c33
          by_cases c34 : (rdOf ByteArray.empty x5_2 0).toList = ([42] : List UInt8)
          ·rw [if_pos c34] at H
           have c34b0 : ((rdOf ByteArray.empty x5_2 0).toList == ([42] : List UInt8)) = true := beq_iff_eq.mpr c34
           have c34b1 : ((rdOf ByteArray.empty x5_2 0).toList != ([42] : List UInt8)) = false := bne_eq_false_iff_eq.mpr c34
           clear c34
           by_cases c35 : 1 ≤ (x5_2.length : Int)
           ·rw [if_pos c35] at H
            have c35b0 := eq_true c35
            have c35b1 : decide (1 ≤ (x5_2.length : Int)) = true := decide_eq_true c35
            clear c35
            obtain ⟨y129, hy129⟩ : ∃ y_ : List ByteArray, y_ = (x5_2.drop (1 : Int).toNat) := ⟨_, rfl⟩
            replace H : (filter_MatchesExtended.l0 k2 y129 x6_2) = some r := by first | (rw [hy129]; with_reducible exact H) | (have H2_ := (Option.bind_some _ _).symm.trans H; rw [hy129]; with_reducible exact H2_) | (have H2_ := (Option.bind_some _ _).symm.trans H; with_reducible exact H2_) | with_reducible exact H | (rw [hy129]; exact H) | exact H
            have Ny129 := Aside0.mk hy129
            clear hy129
            have H' := Aside0.mk H
            clear H
            obtain ⟨Ao36, co36, eo36, _⟩ := Kd.Q_slice HO_5.out
            subst eo36
            have p128 : 0 ≤ (0 : Int) := (by omega)
            have q128 : 0 < (x5_2.length : Int) := of_decide_eq_true (by first | (with_reducible assumption) | assumption)
            obtain ⟨ad128, e128, hx128_0⟩ := Kd.at_string (Kd.Q_reads' HO_5.out).2.2 0 p128 q128
            cases e128
            have qi128 : (0 < x5_2.length) = True := eq_true (by omega)
            (try rw [show ((0 : Int)).toNat = 0 from rfl] at hx128_0)
            (try rw [Addr.add_zero'] at hx128_0)
            replace p128 := eq_true p128
            replace q128 := eq_true q128
            have q37 : (1 : Int) ≤ ((x5_2.length : Int) : Int) := of_decide_eq_true (by first | (with_reducible assumption) | assumption)
            obtain ⟨i037, hi037, _, hsz37, _⟩ := info_parts info9
            have hcut37 := cut_from (P := Try.prog) 25 9 .i64 Try.underlying25 hi037 1 hsz37 (some ad128) x5_2.length co36 1 (by omega) q37
            have hr37 := Kd.Q_drop (k := (1 : Int).toNat) HO_5.out (by omega)
            obtain ⟨A37, hA37⟩ : ∃ A1, A1 = (if co36 = (1 : Int).toNat then (some ad128) else ((some ad128) : Option Addr).map (·.add ((1 : Int).toNat * 1))) := ⟨_, rfl⟩
            obtain ⟨c37, hc37⟩ : ∃ c1, c1 = co36 - (1 : Int).toNat := ⟨_, rfl⟩
            have hy37 : y129.length = x5_2.length - (1 : Int).toNat := (by rw [Ny129.out, List.length_drop])
            rw [← Ny129.out] at hr37
            rw [← hy37, ← hA37, ← hc37] at hcut37
            replace hr37 : Kd.Q Kd.string 9 wr w.heap.size (fun k_ => some k_ ≠ (u6 : Value).ownBlock) (.slice A37 y129.length c37) y129 := (by rw [hA37, hc37, hy37]; exact hr37)
            have HE37 : Aside0 ((Value.slice A37 y129.length c37).ownBlock = (.slice (some ad128) x5_2.length co36 : Value).ownBlock) := ⟨by rw [hA37]; split <;> (cases ((some ad128) : Option Addr) <;> rfl)⟩
            clear hy37 hi037 hsz37 HO_5 hA37 hc37
            have HO131 := Aside0.mk hr37
            clear hr37
            replace q37 := eq_true q37
            have n_ := Aside0.mk (Kd.Q_mono (ok' := fun k_ => some k_ ≠ (.slice A37 y129.length c37 : Value).ownBlock) HO_6.out (fun k_ hk => (by rw [HE37.out]; exact hk)))
            clear HO_6
            have HO_6 := n_
            clear n_
            go_wp2
            (try (rw [Exit.noGoto_normal]; go_wp2))
            go_roundg k2
            case measure => have := HJ4.out; have := HK2.out; omega
            case rel => exact ⟨(y129), (x6_2), H', ⟨by have := HJ4.out; have := HK2.out; omega⟩, ⟨by (with_reducible repeat (first | apply Kd.Q_alloc | apply Kd.Q_drewN | apply Kd.Q_drew)); exact HO131.out⟩, ⟨by (with_reducible repeat (first | apply Kd.Q_alloc | apply Kd.Q_drewN | apply Kd.Q_drew)); exact HO_6.out⟩, ⟨by repeat (first | (with_reducible first | exact HB.out | apply below_alloc | apply pw_below_drewN | apply below_drew1) | exact HB.out)⟩⟩
           ·rw [if_neg c35] at H
            exact absurd H (by simp)
          ·rw [if_neg c34] at H
           have c34b0 : ((rdOf ByteArray.empty x5_2 0).toList == ([42] : List UInt8)) = false := beq_eq_false_iff_ne.mpr c34
           have c34b1 : ((rdOf ByteArray.empty x5_2 0).toList != ([42] : List UInt8)) = true := bne_iff_ne.mpr c34
           by_cases c38 : (x6_2.length : Int) = 0
           ·rw [if_pos c38] at H
            have c38b0 : ((x6_2.length : Int) == 0) = true := beq_iff_eq.mpr c38
            have c38b1 : ((x6_2.length : Int) != 0) = false := bne_eq_false_iff_eq.mpr c38
            clear c38
            obtain rfl := Option.some.inj H
            obtain ⟨Ao39, co39, eo39, _⟩ := Kd.Q_slice HO_5.out
            subst eo39
            have p128 : 0 ≤ (0 : Int) := (by omega)
            have q128 : 0 < (x5_2.length : Int) := of_decide_eq_true (by first | (with_reducible assumption) | assumption)
            obtain ⟨ad128, e128, hx128_0⟩ := Kd.at_string (Kd.Q_reads' HO_5.out).2.2 0 p128 q128
            cases e128
            have qi128 : (0 < x5_2.length) = True := eq_true (by omega)
            (try rw [show ((0 : Int)).toNat = 0 from rfl] at hx128_0)
            (try rw [Addr.add_zero'] at hx128_0)
            replace p128 := eq_true p128
            replace q128 := eq_true q128
            obtain ⟨Ao40, co40, eo40, _⟩ := Kd.Q_slice HO_6.out
            subst eo40
            go_wp2
            (try rw [Exit.noGoto_ret])
            go_ret
            exact ⟨by first | rfl | (simp [errW_none, errW_some] <;> rfl) | (simp [*, errW_none, errW_some] <;> rfl), by repeat (first | (with_reducible first | exact HB.out | apply below_alloc | apply pw_below_drewN | apply below_drew1) | exact HB.out)⟩
           ·rw [if_neg c38] at H
            have c38b0 : ((x6_2.length : Int) == 0) = false := beq_eq_false_iff_ne.mpr c38
            have c38b1 : ((x6_2.length : Int) != 0) = true := bne_iff_ne.mpr c38
            have c38b2 : ¬ (x6_2 = []) := fun h_ => c38 (by rw [h_]; rfl)
            by_cases c41 : 0 < (x6_2.length : Int)
            ·rw [if_pos c41] at H
             have c41b0 : decide (0 < (x6_2.length : Int)) = true := decide_eq_true c41
             have c41b1 : decide (0 < x6_2.length) = true := decide_eq_true (by omega)
             clear c41
             replace H := Option.bind_eq_some_iff.mp H
             obtain ⟨t134, A420, H⟩ := H
             replace H : (if t134 = true then (if 1 ≤ (x5_2.length : Int) then (if 1 ≤ (x6_2.length : Int) then (filter_MatchesExtended.l0 k2 (x5_2.drop (1 : Int).toNat) (x6_2.drop (1 : Int).toNat)) else (none)) else (none)) else (if ((rdOf ByteArray.empty x6_2 0).size : Int) = 1 then (some false) else (if 1 ≤ (x6_2.length : Int) then (filter_MatchesExtended.l0 k2 x5_2 (x6_2.drop (1 : Int).toNat)) else (none)))) = some r := H
             have A42 := Aside0.mk A420
             clear A420
             by_cases c43 : t134 = true
             ·subst c43
              have H1 : (if 1 ≤ (x5_2.length : Int) then (if 1 ≤ (x6_2.length : Int) then (filter_MatchesExtended.l0 k2 (x5_2.drop (1 : Int).toNat) (x6_2.drop (1 : Int).toNat)) else (none)) else (none)) = some r := by rw [if_pos rfl] at H; exact H
              clear H
              have H := H1
              clear H1
              by_cases c44 : 1 ≤ (x5_2.length : Int)
              ·rw [if_pos c44] at H
               have c44b0 := eq_true c44
               have c44b1 : decide (1 ≤ (x5_2.length : Int)) = true := decide_eq_true c44
               clear c44
               obtain ⟨y135, hy135⟩ : ∃ y_ : List ByteArray, y_ = (x5_2.drop (1 : Int).toNat) := ⟨_, rfl⟩
               replace H : (if 1 ≤ (x6_2.length : Int) then (filter_MatchesExtended.l0 k2 y135 (x6_2.drop (1 : Int).toNat)) else (none)) = some r := by first | (rw [hy135]; with_reducible exact H) | (have H2_ := (Option.bind_some _ _).symm.trans H; rw [hy135]; with_reducible exact H2_) | (have H2_ := (Option.bind_some _ _).symm.trans H; with_reducible exact H2_) | with_reducible exact H | (rw [hy135]; exact H) | exact H
               have Ny135 := Aside0.mk hy135
               clear hy135
               by_cases c45 : 1 ≤ (x6_2.length : Int)
               ·rw [if_pos c45] at H
                have c45b0 := eq_true c45
                have c45b1 : decide (1 ≤ (x6_2.length : Int)) = true := decide_eq_true c45
                clear c45
                obtain ⟨y138, hy138⟩ : ∃ y_ : List ByteArray, y_ = (x6_2.drop (1 : Int).toNat) := ⟨_, rfl⟩
                replace H : (filter_MatchesExtended.l0 k2 y135 y138) = some r := by first | (rw [hy138]; with_reducible exact H) | (have H2_ := (Option.bind_some _ _).symm.trans H; rw [hy138]; with_reducible exact H2_) | (have H2_ := (Option.bind_some _ _).symm.trans H; with_reducible exact H2_) | with_reducible exact H | (rw [hy138]; exact H) | exact H
                have Ny138 := Aside0.mk hy138
                clear hy138
                have H' := Aside0.mk H
                clear H
                obtain ⟨Ao46, co46, eo46, _⟩ := Kd.Q_slice HO_5.out
                subst eo46
                have p128 : 0 ≤ (0 : Int) := (by omega)
                have q128 : 0 < (x5_2.length : Int) := of_decide_eq_true (by first | (with_reducible assumption) | assumption)
                obtain ⟨ad128, e128, hx128_0⟩ := Kd.at_string (Kd.Q_reads' HO_5.out).2.2 0 p128 q128
                cases e128
                have qi128 : (0 < x5_2.length) = True := eq_true (by omega)
                (try rw [show ((0 : Int)).toNat = 0 from rfl] at hx128_0)
                (try rw [Addr.add_zero'] at hx128_0)
                replace p128 := eq_true p128
                replace q128 := eq_true q128
                obtain ⟨Ao47, co47, eo47, _⟩ := Kd.Q_slice HO_6.out
                subst eo47
                try go_wp2
                have n0_ := Aside0.mk (Kd.Q_drew HO_5.out)
                have n1_ := Aside0.mk (Kd.Q_drew HO_6.out)
                have n2_ := Aside0.mk (below_drew1 HB.out)
                clear HO_5
                clear HO_6
                clear HB
                have HO_5 := n0_
                have HO_6 := n1_
                have HB := n2_
                clear n0_ n1_ n2_
                have p132 : 0 ≤ (0 : Int) := (by omega)
                have q132 : 0 < (x5_2.length : Int) := of_decide_eq_true (by first | (with_reducible assumption) | assumption)
                obtain ⟨ad132, e132, hx132_0⟩ := Kd.at_string (Kd.Q_reads' HO_5.out).2.2 0 p132 q132
                obtain rfl : ad128 = ad132 := (by injection e132)
                have qi132 : (0 < x5_2.length) = True := eq_true (by omega)
                (try rw [show ((0 : Int)).toNat = 0 from rfl] at hx132_0)
                (try rw [Addr.add_zero'] at hx132_0)
                replace p132 := eq_true p132
                replace q132 := eq_true q132
                have p133 : 0 ≤ (0 : Int) := (by omega)
                have q133 : 0 < (x6_2.length : Int) := of_decide_eq_true (by first | (with_reducible assumption) | assumption)
                obtain ⟨ad133, e133, hx133_0⟩ := Kd.at_string (Kd.Q_reads' HO_6.out).2.2 0 p133 q133
                cases e133
                have qi133 : (0 < x6_2.length) = True := eq_true (by omega)
                (try rw [show ((0 : Int)).toNat = 0 from rfl] at hx133_0)
                (try rw [Addr.add_zero'] at hx133_0)
                replace p133 := eq_true p133
                replace q133 := eq_true q133
                refine start_ (n := 8) (S := fun w' => w'.cell? ad128 = some (.string (rdOf ByteArray.empty x5_2 0)) ∧ w'.cell? ad133 = some (.string (rdOf ByteArray.empty x6_2 0))) (ds := []) #[false, false, false, false, false, false, false, false] (by kernel_rfl) rfl rfl ⟨hx132_0, hx133_0⟩ (fun hHeld => ?_); refine with_tabW filter_MatchesExtended.tab10 filter_MatchesExtended.bits10 (fun HT_ HW_ => ?_)
                generalize wr.drew = w48 at HO_5 HO_6 HB hx132_0 hx133_0 hHeld ⊢
                refine pure_ (i := 0) (N := some 49) (v := ?_) (a' := ?_) #[true, false, false, false, false, false, false, false] rfl rfl (any_of HT_.out (by kernel_rfl)) (fun _ _ _ h => h) (Or.inl ⟨by rfl, ?_⟩) ?_ ?_
                rotate_left
                ·intro w'
                 go_simp
                 with_reducible rfl
                rotate_left
                ·simp only [Act.put, List.setIfInBounds_toArray, List.set_cons_zero, List.set_cons_succ, i64_w, i32_w]
                 rfl
                refine pure_ (i := 1) (N := some 50) (v := ?_) (a' := ?_) #[true, true, false, false, false, false, false, false] rfl rfl (any_of HT_.out (by kernel_rfl)) (fun _ _ _ h => h) (Or.inl ⟨by rfl, ?_⟩) ?_ ?_
                rotate_left
                ·intro w'
                 go_simp
                 with_reducible rfl
                rotate_left
                ·simp only [Act.put, List.setIfInBounds_toArray, List.set_cons_zero, List.set_cons_succ, i64_w, i32_w]
                 rfl
                refine pure_ (i := 3) (N := some 52) (v := ?_) (a' := ?_) #[true, true, false, true, false, false, false, false] rfl rfl (any_of HT_.out (by kernel_rfl)) (fun _ _ _ h => h) (Or.inl ⟨by rfl, ?_⟩) ?_ ?_
                rotate_left
                ·intro w'
                 go_simp
                 with_reducible rfl
                rotate_left
                ·simp only [Act.put, List.setIfInBounds_toArray, List.set_cons_zero, List.set_cons_succ, i64_w, i32_w]
                 rfl
                refine pure_ (i := 4) (N := some 53) (v := ?_) (a' := ?_) #[true, true, false, true, true, false, false, false] rfl rfl (any_of HT_.out (by kernel_rfl)) (fun _ _ _ h => h) (Or.inl ⟨by rfl, ?_⟩) ?_ ?_
                rotate_left
                ·intro w'
                 go_simp
                 with_reducible rfl
                rotate_left
                ·simp only [Act.put, List.setIfInBounds_toArray, List.set_cons_zero, List.set_cons_succ, i64_w, i32_w]
                 rfl
                refine take_ (i := 2) (N := some 51) (v := ?_) (a' := ?_) #[true, true, true, true, true, false, false, false] rfl rfl (take_ofW HT_.out HW_.out (by kernel_rfl)) (fun _ _ _ h => h) (Or.inl ⟨by rfl, ?_⟩) hHeld ?_ ?_
                rotate_left
                ·rintro w' ⟨s0, s1⟩
                 go_simp
                 with_reducible rfl
                rotate_left
                ·simp only [Act.put, List.setIfInBounds_toArray, List.set_cons_zero, List.set_cons_succ, i64_w, i32_w]
                 rfl
                refine take_ (i := 5) (N := some 54) (v := ?_) (a' := ?_) #[true, true, true, true, true, true, false, false] rfl rfl (take_ofW HT_.out HW_.out (by kernel_rfl)) (fun _ _ _ h => h) (Or.inl ⟨by rfl, ?_⟩) hHeld ?_ ?_
                rotate_left
                ·rintro w' ⟨s0, s1⟩
                 go_simp
                 with_reducible rfl
                rotate_left
                ·simp only [Act.put, List.setIfInBounds_toArray, List.set_cons_zero, List.set_cons_succ, i64_w, i32_w]
                 rfl
                refine one_ (i := 6) (N := some 55) #[true, true, true, true, true, true, true, false] rfl rfl (one_of HT_.out (by kernel_rfl)) (by decide) (fun K hK => ?_)
                refine goes_ Try.func29 (by kernel_rfl) rfl #[.string (rdOf ByteArray.empty x5_2 0), .string (rdOf ByteArray.empty x6_2 0)] (by rfl) rfl rfl (by (try simp only [List.map_toArray, List.map_cons, List.map_nil]); first | done | rfl | (simp only [List.length_drop, List.length_take]; rfl)) ?_
                with_reducible refine (ascii_Same.calls k2 (rdOf ByteArray.empty x5_2 0) (rdOf ByteArray.empty x6_2 0) true _ A42.out).mono ?_
                rintro e w49 ⟨rfl, hb⟩
                have HS0_ := (hb.cell (World.block_lt_of_cell? _ _ (hHeld.1))).trans (hHeld.1)
                have HS1_ := (hb.cell (World.block_lt_of_cell? _ _ (hHeld.2))).trans (hHeld.2)
                refine ⟨_, rfl, ?_⟩
                have n0_ := Aside0.mk (Kd.Q_below (by (with_reducible repeat (first | apply Kd.Q_alloc | apply Kd.Q_drewN | apply Kd.Q_drew)); exact HO_5.out) hb)
                have n1_ := Aside0.mk (Kd.Q_below (by (with_reducible repeat (first | apply Kd.Q_alloc | apply Kd.Q_drewN | apply Kd.Q_drew)); exact HO_6.out) hb)
                have n2_ := Aside0.mk (below_step (by repeat (first | (with_reducible first | exact HB.out | apply below_alloc | apply pw_below_drewN | apply below_drew1) | exact HB.out)) hb)
                clear HO_5
                clear HO_6
                clear HB
                have HO_5 := n0_
                have HO_6 := n1_
                have HB := n2_
                clear n0_ n1_ n2_
                (try clear hb)
                (try clear hb2)
                (try clear hk)
                (try clear hi)
                refine hK.out _ _ ⟨HS0_, HS1_⟩ (fun hHeld => ?_)
                clear hK K
                refine norm_ (a' := ?_) ?_ ?_
                rotate_left
                ·show Act.put _ (some 55) _ = _
                 simp only [Act.put, List.setIfInBounds_toArray, List.set_cons_zero, List.set_cons_succ, i64_w, i32_w]
                 rfl
                refine pure_ (i := 7) (N := some 48) (v := ?_) (a' := ?_) #[true, true, true, true, true, true, true, true] rfl rfl (any_of HT_.out (by kernel_rfl)) (fun _ _ _ h => h) (Or.inl ⟨by rfl, ?_⟩) ?_ ?_
                rotate_left
                ·intro w'
                 go_simp
                 with_reducible rfl
                rotate_left
                ·simp only [Act.put, List.setIfInBounds_toArray, List.set_cons_zero, List.set_cons_succ, i64_w, i32_w]
                 rfl
                refine done_ (done_of HT_.out (by kernel_rfl)) ?_
                have q50 : (1 : Int) ≤ ((x5_2.length : Int) : Int) := of_decide_eq_true (by first | (with_reducible assumption) | assumption)
                obtain ⟨i050, hi050, _, hsz50, _⟩ := info_parts info9
                have hcut50 := cut_from (P := Try.prog) 25 9 .i64 Try.underlying25 hi050 1 hsz50 (some ad128) x5_2.length co46 1 (by omega) q50
                have hr50 := Kd.Q_drop (k := (1 : Int).toNat) HO_5.out (by omega)
                obtain ⟨A50, hA50⟩ : ∃ A1, A1 = (if co46 = (1 : Int).toNat then (some ad128) else ((some ad128) : Option Addr).map (·.add ((1 : Int).toNat * 1))) := ⟨_, rfl⟩
                obtain ⟨c50, hc50⟩ : ∃ c1, c1 = co46 - (1 : Int).toNat := ⟨_, rfl⟩
                have hy50 : y135.length = x5_2.length - (1 : Int).toNat := (by rw [Ny135.out, List.length_drop])
                rw [← Ny135.out] at hr50
                rw [← hy50, ← hA50, ← hc50] at hcut50
                replace hr50 : Kd.Q Kd.string 9 w49 w.heap.size (fun k_ => some k_ ≠ (.slice (some ad133) x6_2.length co47 : Value).ownBlock) (.slice A50 y135.length c50) y135 := (by rw [hA50, hc50, hy50]; exact hr50)
                have HE50 : Aside0 ((Value.slice A50 y135.length c50).ownBlock = (.slice (some ad128) x5_2.length co46 : Value).ownBlock) := ⟨by rw [hA50]; split <;> (cases ((some ad128) : Option Addr) <;> rfl)⟩
                clear hy50 hi050 hsz50 HO_5 hA50 hc50
                have HO137 := Aside0.mk hr50
                clear hr50
                replace q50 := eq_true q50
                have n_ := Aside0.mk (Kd.Q_mono (ok' := fun k_ => some k_ ≠ (.slice A50 y135.length c50 : Value).ownBlock) HO_6.out (fun k_ hk => (by rw [HE50.out]; exact hk)))
                clear HO_6
                have HO_6 := n_
                clear n_
                have q51 : (1 : Int) ≤ ((x6_2.length : Int) : Int) := of_decide_eq_true (by first | (with_reducible assumption) | assumption)
                obtain ⟨i051, hi051, _, hsz51, _⟩ := info_parts info9
                have hcut51 := cut_from (P := Try.prog) 25 9 .i64 Try.underlying25 hi051 1 hsz51 (some ad133) x6_2.length co47 1 (by omega) q51
                have hr51 := Kd.Q_drop (k := (1 : Int).toNat) HO_6.out (by omega)
                obtain ⟨A51, hA51⟩ : ∃ A1, A1 = (if co47 = (1 : Int).toNat then (some ad133) else ((some ad133) : Option Addr).map (·.add ((1 : Int).toNat * 1))) := ⟨_, rfl⟩
                obtain ⟨c51, hc51⟩ : ∃ c1, c1 = co47 - (1 : Int).toNat := ⟨_, rfl⟩
                have hy51 : y138.length = x6_2.length - (1 : Int).toNat := (by rw [Ny138.out, List.length_drop])
                rw [← Ny138.out] at hr51
                rw [← hy51, ← hA51, ← hc51] at hcut51
                replace hr51 : Kd.Q Kd.string 9 w49 w.heap.size (fun k_ => some k_ ≠ (.slice A50 y135.length c50 : Value).ownBlock) (.slice A51 y138.length c51) y138 := (by rw [hA51, hc51, hy51]; exact hr51)
                have HE51 : Aside0 ((Value.slice A51 y138.length c51).ownBlock = (.slice (some ad133) x6_2.length co47 : Value).ownBlock) := ⟨by rw [hA51]; split <;> (cases ((some ad133) : Option Addr) <;> rfl)⟩
                clear hy51 hi051 hsz51 HO_6 hA51 hc51
                have HO140 := Aside0.mk hr51
                clear hr51
                replace q51 := eq_true q51
                have n_ := Aside0.mk (Kd.Q_mono (ok' := fun k_ => some k_ ≠ (.slice A51 y138.length c51 : Value).ownBlock) HO137.out (fun k_ hk => (by rw [HE51.out]; exact hk)))
                clear HO137
                have HO137 := n_
                clear n_
                try go_wp2
                (try (rw [Exit.noGoto_normal]; go_wp2))
                go_roundg k2
                case measure => have := HJ4.out; have := HK2.out; omega
                case rel => exact ⟨(y135), (y138), H', ⟨by have := HJ4.out; have := HK2.out; omega⟩, ⟨by (with_reducible repeat (first | apply Kd.Q_alloc | apply Kd.Q_drewN | apply Kd.Q_drew)); exact HO137.out⟩, ⟨by (with_reducible repeat (first | apply Kd.Q_alloc | apply Kd.Q_drewN | apply Kd.Q_drew)); exact HO140.out⟩, ⟨by repeat (first | (with_reducible first | exact HB.out | apply below_alloc | apply pw_below_drewN | apply below_drew1) | exact HB.out)⟩⟩
               ·rw [if_neg c45] at H
                exact absurd H (by simp)
              ·rw [if_neg c44] at H
               exact absurd H (by simp)
             ·replace c43 := Bool.eq_false_iff.mpr c43
              subst c43
              have H1 : (if ((rdOf ByteArray.empty x6_2 0).size : Int) = 1 then (some false) else (if 1 ≤ (x6_2.length : Int) then (filter_MatchesExtended.l0 k2 x5_2 (x6_2.drop (1 : Int).toNat)) else (none))) = some r := by rw [if_neg (show ¬ (false = true) by decide)] at H; exact H
              clear H
              have H := H1
              clear H1
              by_cases c52 : ((rdOf ByteArray.empty x6_2 0).size : Int) = 1
              ·rw [if_pos c52] at H
               have c52b0 : (((rdOf ByteArray.empty x6_2 0).size : Int) == 1) = true := beq_iff_eq.mpr c52
               have c52b1 : (((rdOf ByteArray.empty x6_2 0).size : Int) != 1) = false := bne_eq_false_iff_eq.mpr c52
               clear c52
               obtain rfl := Option.some.inj H
               obtain ⟨Ao53, co53, eo53, _⟩ := Kd.Q_slice HO_5.out
               subst eo53
               have p128 : 0 ≤ (0 : Int) := (by omega)
               have q128 : 0 < (x5_2.length : Int) := of_decide_eq_true (by first | (with_reducible assumption) | assumption)
               obtain ⟨ad128, e128, hx128_0⟩ := Kd.at_string (Kd.Q_reads' HO_5.out).2.2 0 p128 q128
               cases e128
               have qi128 : (0 < x5_2.length) = True := eq_true (by omega)
               (try rw [show ((0 : Int)).toNat = 0 from rfl] at hx128_0)
               (try rw [Addr.add_zero'] at hx128_0)
               replace p128 := eq_true p128
               replace q128 := eq_true q128
               obtain ⟨Ao54, co54, eo54, _⟩ := Kd.Q_slice HO_6.out
               subst eo54
               try go_wp2
               have n0_ := Aside0.mk (Kd.Q_drew HO_5.out)
               have n1_ := Aside0.mk (Kd.Q_drew HO_6.out)
               have n2_ := Aside0.mk (below_drew1 HB.out)
               clear HO_5
               clear HO_6
               clear HB
               have HO_5 := n0_
               have HO_6 := n1_
               have HB := n2_
               clear n0_ n1_ n2_
               have p132 : 0 ≤ (0 : Int) := (by omega)
               have q132 : 0 < (x5_2.length : Int) := of_decide_eq_true (by first | (with_reducible assumption) | assumption)
               obtain ⟨ad132, e132, hx132_0⟩ := Kd.at_string (Kd.Q_reads' HO_5.out).2.2 0 p132 q132
               obtain rfl : ad128 = ad132 := (by injection e132)
               have qi132 : (0 < x5_2.length) = True := eq_true (by omega)
               (try rw [show ((0 : Int)).toNat = 0 from rfl] at hx132_0)
               (try rw [Addr.add_zero'] at hx132_0)
               replace p132 := eq_true p132
               replace q132 := eq_true q132
               have p133 : 0 ≤ (0 : Int) := (by omega)
               have q133 : 0 < (x6_2.length : Int) := of_decide_eq_true (by first | (with_reducible assumption) | assumption)
               obtain ⟨ad133, e133, hx133_0⟩ := Kd.at_string (Kd.Q_reads' HO_6.out).2.2 0 p133 q133
               cases e133
               have qi133 : (0 < x6_2.length) = True := eq_true (by omega)
               (try rw [show ((0 : Int)).toNat = 0 from rfl] at hx133_0)
               (try rw [Addr.add_zero'] at hx133_0)
               replace p133 := eq_true p133
               replace q133 := eq_true q133
               refine start_ (n := 8) (S := fun w' => w'.cell? ad128 = some (.string (rdOf ByteArray.empty x5_2 0)) ∧ w'.cell? ad133 = some (.string (rdOf ByteArray.empty x6_2 0))) (ds := []) #[false, false, false, false, false, false, false, false] (by kernel_rfl) rfl rfl ⟨hx132_0, hx133_0⟩ (fun hHeld => ?_); refine with_tabW filter_MatchesExtended.tab10 filter_MatchesExtended.bits10 (fun HT_ HW_ => ?_)
               generalize wr.drew = w55 at HO_5 HO_6 HB hx132_0 hx133_0 hHeld ⊢
               refine pure_ (i := 0) (N := some 49) (v := ?_) (a' := ?_) #[true, false, false, false, false, false, false, false] rfl rfl (any_of HT_.out (by kernel_rfl)) (fun _ _ _ h => h) (Or.inl ⟨by rfl, ?_⟩) ?_ ?_
               rotate_left
               ·intro w'
                go_simp
                with_reducible rfl
               rotate_left
               ·simp only [Act.put, List.setIfInBounds_toArray, List.set_cons_zero, List.set_cons_succ, i64_w, i32_w]
                rfl
               refine pure_ (i := 1) (N := some 50) (v := ?_) (a' := ?_) #[true, true, false, false, false, false, false, false] rfl rfl (any_of HT_.out (by kernel_rfl)) (fun _ _ _ h => h) (Or.inl ⟨by rfl, ?_⟩) ?_ ?_
               rotate_left
               ·intro w'
                go_simp
                with_reducible rfl
               rotate_left
               ·simp only [Act.put, List.setIfInBounds_toArray, List.set_cons_zero, List.set_cons_succ, i64_w, i32_w]
                rfl
               refine pure_ (i := 3) (N := some 52) (v := ?_) (a' := ?_) #[true, true, false, true, false, false, false, false] rfl rfl (any_of HT_.out (by kernel_rfl)) (fun _ _ _ h => h) (Or.inl ⟨by rfl, ?_⟩) ?_ ?_
               rotate_left
               ·intro w'
                go_simp
                with_reducible rfl
               rotate_left
               ·simp only [Act.put, List.setIfInBounds_toArray, List.set_cons_zero, List.set_cons_succ, i64_w, i32_w]
                rfl
               refine pure_ (i := 4) (N := some 53) (v := ?_) (a' := ?_) #[true, true, false, true, true, false, false, false] rfl rfl (any_of HT_.out (by kernel_rfl)) (fun _ _ _ h => h) (Or.inl ⟨by rfl, ?_⟩) ?_ ?_
               rotate_left
               ·intro w'
                go_simp
                with_reducible rfl
               rotate_left
               ·simp only [Act.put, List.setIfInBounds_toArray, List.set_cons_zero, List.set_cons_succ, i64_w, i32_w]
                rfl
               refine take_ (i := 2) (N := some 51) (v := ?_) (a' := ?_) #[true, true, true, true, true, false, false, false] rfl rfl (take_ofW HT_.out HW_.out (by kernel_rfl)) (fun _ _ _ h => h) (Or.inl ⟨by rfl, ?_⟩) hHeld ?_ ?_
               rotate_left
               ·rintro w' ⟨s0, s1⟩
                go_simp
                with_reducible rfl
               rotate_left
               ·simp only [Act.put, List.setIfInBounds_toArray, List.set_cons_zero, List.set_cons_succ, i64_w, i32_w]
                rfl
               refine take_ (i := 5) (N := some 54) (v := ?_) (a' := ?_) #[true, true, true, true, true, true, false, false] rfl rfl (take_ofW HT_.out HW_.out (by kernel_rfl)) (fun _ _ _ h => h) (Or.inl ⟨by rfl, ?_⟩) hHeld ?_ ?_
               rotate_left
               ·rintro w' ⟨s0, s1⟩
                go_simp
                with_reducible rfl
               rotate_left
               ·simp only [Act.put, List.setIfInBounds_toArray, List.set_cons_zero, List.set_cons_succ, i64_w, i32_w]
                rfl
               refine one_ (i := 6) (N := some 55) #[true, true, true, true, true, true, true, false] rfl rfl (one_of HT_.out (by kernel_rfl)) (by decide) (fun K hK => ?_)
               refine goes_ Try.func29 (by kernel_rfl) rfl #[.string (rdOf ByteArray.empty x5_2 0), .string (rdOf ByteArray.empty x6_2 0)] (by rfl) rfl rfl (by (try simp only [List.map_toArray, List.map_cons, List.map_nil]); first | done | rfl | (simp only [List.length_drop, List.length_take]; rfl)) ?_
               with_reducible refine (ascii_Same.calls k2 (rdOf ByteArray.empty x5_2 0) (rdOf ByteArray.empty x6_2 0) false _ A42.out).mono ?_
               rintro e w56 ⟨rfl, hb⟩
               have HS0_ := (hb.cell (World.block_lt_of_cell? _ _ (hHeld.1))).trans (hHeld.1)
               have HS1_ := (hb.cell (World.block_lt_of_cell? _ _ (hHeld.2))).trans (hHeld.2)
               refine ⟨_, rfl, ?_⟩
               have n0_ := Aside0.mk (Kd.Q_below (by (with_reducible repeat (first | apply Kd.Q_alloc | apply Kd.Q_drewN | apply Kd.Q_drew)); exact HO_5.out) hb)
               have n1_ := Aside0.mk (Kd.Q_below (by (with_reducible repeat (first | apply Kd.Q_alloc | apply Kd.Q_drewN | apply Kd.Q_drew)); exact HO_6.out) hb)
               have n2_ := Aside0.mk (below_step (by repeat (first | (with_reducible first | exact HB.out | apply below_alloc | apply pw_below_drewN | apply below_drew1) | exact HB.out)) hb)
               clear HO_5
               clear HO_6
               clear HB
               have HO_5 := n0_
               have HO_6 := n1_
               have HB := n2_
               clear n0_ n1_ n2_
               (try clear hb)
               (try clear hb2)
               (try clear hk)
               (try clear hi)
               refine hK.out _ _ ⟨HS0_, HS1_⟩ (fun hHeld => ?_)
               clear hK K
               refine norm_ (a' := ?_) ?_ ?_
               rotate_left
               ·show Act.put _ (some 55) _ = _
                simp only [Act.put, List.setIfInBounds_toArray, List.set_cons_zero, List.set_cons_succ, i64_w, i32_w]
                rfl
               refine pure_ (i := 7) (N := some 48) (v := ?_) (a' := ?_) #[true, true, true, true, true, true, true, true] rfl rfl (any_of HT_.out (by kernel_rfl)) (fun _ _ _ h => h) (Or.inl ⟨by rfl, ?_⟩) ?_ ?_
               rotate_left
               ·intro w'
                go_simp
                with_reducible rfl
               rotate_left
               ·simp only [Act.put, List.setIfInBounds_toArray, List.set_cons_zero, List.set_cons_succ, i64_w, i32_w]
                rfl
               refine done_ (done_of HT_.out (by kernel_rfl)) ?_
               have p141 : 0 ≤ (0 : Int) := (by omega)
               have q141 : 0 < (x6_2.length : Int) := of_decide_eq_true (by first | (with_reducible assumption) | assumption)
               obtain ⟨ad141, e141, hx141_0⟩ := Kd.at_string (Kd.Q_reads' HO_6.out).2.2 0 p141 q141
               obtain rfl : ad133 = ad141 := (by injection e141)
               have qi141 : (0 < x6_2.length) = True := eq_true (by omega)
               (try rw [show ((0 : Int)).toNat = 0 from rfl] at hx141_0)
               (try rw [Addr.add_zero'] at hx141_0)
               replace p141 := eq_true p141
               replace q141 := eq_true q141
               try go_wp2
               (try rw [Exit.noGoto_ret])
               go_ret
               exact ⟨by first | rfl | (simp [errW_none, errW_some] <;> rfl) | (simp [*, errW_none, errW_some] <;> rfl), by repeat (first | (with_reducible first | exact HB.out | apply below_alloc | apply pw_below_drewN | apply below_drew1) | exact HB.out)⟩
              ·rw [if_neg c52] at H
               have c52b0 : (((rdOf ByteArray.empty x6_2 0).size : Int) == 1) = false := beq_eq_false_iff_ne.mpr c52
               have c52b1 : (((rdOf ByteArray.empty x6_2 0).size : Int) != 1) = true := bne_iff_ne.mpr c52
               by_cases c57 : 1 ≤ (x6_2.length : Int)
               ·rw [if_pos c57] at H
                have c57b0 := eq_true c57
                have c57b1 : decide (1 ≤ (x6_2.length : Int)) = true := decide_eq_true c57
                clear c57
                obtain ⟨y142, hy142⟩ : ∃ y_ : List ByteArray, y_ = (x6_2.drop (1 : Int).toNat) := ⟨_, rfl⟩
                replace H : (filter_MatchesExtended.l0 k2 x5_2 y142) = some r := by first | (rw [hy142]; with_reducible exact H) | (have H2_ := (Option.bind_some _ _).symm.trans H; rw [hy142]; with_reducible exact H2_) | (have H2_ := (Option.bind_some _ _).symm.trans H; with_reducible exact H2_) | with_reducible exact H | (rw [hy142]; exact H) | exact H
                have Ny142 := Aside0.mk hy142
                clear hy142
                have H' := Aside0.mk H
                clear H
                obtain ⟨Ao58, co58, eo58, _⟩ := Kd.Q_slice HO_5.out
                subst eo58
                have p128 : 0 ≤ (0 : Int) := (by omega)
                have q128 : 0 < (x5_2.length : Int) := of_decide_eq_true (by first | (with_reducible assumption) | assumption)
                obtain ⟨ad128, e128, hx128_0⟩ := Kd.at_string (Kd.Q_reads' HO_5.out).2.2 0 p128 q128
                cases e128
                have qi128 : (0 < x5_2.length) = True := eq_true (by omega)
                (try rw [show ((0 : Int)).toNat = 0 from rfl] at hx128_0)
                (try rw [Addr.add_zero'] at hx128_0)
                replace p128 := eq_true p128
                replace q128 := eq_true q128
                obtain ⟨Ao59, co59, eo59, _⟩ := Kd.Q_slice HO_6.out
                subst eo59
                try go_wp2
                have n0_ := Aside0.mk (Kd.Q_drew HO_5.out)
                have n1_ := Aside0.mk (Kd.Q_drew HO_6.out)
                have n2_ := Aside0.mk (below_drew1 HB.out)
                clear HO_5
                clear HO_6
                clear HB
                have HO_5 := n0_
                have HO_6 := n1_
                have HB := n2_
                clear n0_ n1_ n2_
                have p132 : 0 ≤ (0 : Int) := (by omega)
                have q132 : 0 < (x5_2.length : Int) := of_decide_eq_true (by first | (with_reducible assumption) | assumption)
                obtain ⟨ad132, e132, hx132_0⟩ := Kd.at_string (Kd.Q_reads' HO_5.out).2.2 0 p132 q132
                obtain rfl : ad128 = ad132 := (by injection e132)
                have qi132 : (0 < x5_2.length) = True := eq_true (by omega)
                (try rw [show ((0 : Int)).toNat = 0 from rfl] at hx132_0)
                (try rw [Addr.add_zero'] at hx132_0)
                replace p132 := eq_true p132
                replace q132 := eq_true q132
                have p133 : 0 ≤ (0 : Int) := (by omega)
                have q133 : 0 < (x6_2.length : Int) := of_decide_eq_true (by first | (with_reducible assumption) | assumption)
                obtain ⟨ad133, e133, hx133_0⟩ := Kd.at_string (Kd.Q_reads' HO_6.out).2.2 0 p133 q133
                cases e133
                have qi133 : (0 < x6_2.length) = True := eq_true (by omega)
                (try rw [show ((0 : Int)).toNat = 0 from rfl] at hx133_0)
                (try rw [Addr.add_zero'] at hx133_0)
                replace p133 := eq_true p133
                replace q133 := eq_true q133
                refine start_ (n := 8) (S := fun w' => w'.cell? ad128 = some (.string (rdOf ByteArray.empty x5_2 0)) ∧ w'.cell? ad133 = some (.string (rdOf ByteArray.empty x6_2 0))) (ds := []) #[false, false, false, false, false, false, false, false] (by kernel_rfl) rfl rfl ⟨hx132_0, hx133_0⟩ (fun hHeld => ?_); refine with_tabW filter_MatchesExtended.tab10 filter_MatchesExtended.bits10 (fun HT_ HW_ => ?_)
                generalize wr.drew = w60 at HO_5 HO_6 HB hx132_0 hx133_0 hHeld ⊢
                refine pure_ (i := 0) (N := some 49) (v := ?_) (a' := ?_) #[true, false, false, false, false, false, false, false] rfl rfl (any_of HT_.out (by kernel_rfl)) (fun _ _ _ h => h) (Or.inl ⟨by rfl, ?_⟩) ?_ ?_
                rotate_left
                ·intro w'
                 go_simp
                 with_reducible rfl
                rotate_left
                ·simp only [Act.put, List.setIfInBounds_toArray, List.set_cons_zero, List.set_cons_succ, i64_w, i32_w]
                 rfl
                refine pure_ (i := 1) (N := some 50) (v := ?_) (a' := ?_) #[true, true, false, false, false, false, false, false] rfl rfl (any_of HT_.out (by kernel_rfl)) (fun _ _ _ h => h) (Or.inl ⟨by rfl, ?_⟩) ?_ ?_
                rotate_left
                ·intro w'
                 go_simp
                 with_reducible rfl
                rotate_left
                ·simp only [Act.put, List.setIfInBounds_toArray, List.set_cons_zero, List.set_cons_succ, i64_w, i32_w]
                 rfl
                refine pure_ (i := 3) (N := some 52) (v := ?_) (a' := ?_) #[true, true, false, true, false, false, false, false] rfl rfl (any_of HT_.out (by kernel_rfl)) (fun _ _ _ h => h) (Or.inl ⟨by rfl, ?_⟩) ?_ ?_
                rotate_left
                ·intro w'
                 go_simp
                 with_reducible rfl
                rotate_left
                ·simp only [Act.put, List.setIfInBounds_toArray, List.set_cons_zero, List.set_cons_succ, i64_w, i32_w]
                 rfl
                refine pure_ (i := 4) (N := some 53) (v := ?_) (a' := ?_) #[true, true, false, true, true, false, false, false] rfl rfl (any_of HT_.out (by kernel_rfl)) (fun _ _ _ h => h) (Or.inl ⟨by rfl, ?_⟩) ?_ ?_
                rotate_left
                ·intro w'
                 go_simp
                 with_reducible rfl
                rotate_left
                ·simp only [Act.put, List.setIfInBounds_toArray, List.set_cons_zero, List.set_cons_succ, i64_w, i32_w]
                 rfl
                refine take_ (i := 2) (N := some 51) (v := ?_) (a' := ?_) #[true, true, true, true, true, false, false, false] rfl rfl (take_ofW HT_.out HW_.out (by kernel_rfl)) (fun _ _ _ h => h) (Or.inl ⟨by rfl, ?_⟩) hHeld ?_ ?_
                rotate_left
                ·rintro w' ⟨s0, s1⟩
                 go_simp
                 with_reducible rfl
                rotate_left
                ·simp only [Act.put, List.setIfInBounds_toArray, List.set_cons_zero, List.set_cons_succ, i64_w, i32_w]
                 rfl
                refine take_ (i := 5) (N := some 54) (v := ?_) (a' := ?_) #[true, true, true, true, true, true, false, false] rfl rfl (take_ofW HT_.out HW_.out (by kernel_rfl)) (fun _ _ _ h => h) (Or.inl ⟨by rfl, ?_⟩) hHeld ?_ ?_
                rotate_left
                ·rintro w' ⟨s0, s1⟩
                 go_simp
                 with_reducible rfl
                rotate_left
                ·simp only [Act.put, List.setIfInBounds_toArray, List.set_cons_zero, List.set_cons_succ, i64_w, i32_w]
                 rfl
                refine one_ (i := 6) (N := some 55) #[true, true, true, true, true, true, true, false] rfl rfl (one_of HT_.out (by kernel_rfl)) (by decide) (fun K hK => ?_)
                refine goes_ Try.func29 (by kernel_rfl) rfl #[.string (rdOf ByteArray.empty x5_2 0), .string (rdOf ByteArray.empty x6_2 0)] (by rfl) rfl rfl (by (try simp only [List.map_toArray, List.map_cons, List.map_nil]); first | done | rfl | (simp only [List.length_drop, List.length_take]; rfl)) ?_
                with_reducible refine (ascii_Same.calls k2 (rdOf ByteArray.empty x5_2 0) (rdOf ByteArray.empty x6_2 0) false _ A42.out).mono ?_
                rintro e w61 ⟨rfl, hb⟩
                have HS0_ := (hb.cell (World.block_lt_of_cell? _ _ (hHeld.1))).trans (hHeld.1)
                have HS1_ := (hb.cell (World.block_lt_of_cell? _ _ (hHeld.2))).trans (hHeld.2)
                refine ⟨_, rfl, ?_⟩
                have n0_ := Aside0.mk (Kd.Q_below (by (with_reducible repeat (first | apply Kd.Q_alloc | apply Kd.Q_drewN | apply Kd.Q_drew)); exact HO_5.out) hb)
                have n1_ := Aside0.mk (Kd.Q_below (by (with_reducible repeat (first | apply Kd.Q_alloc | apply Kd.Q_drewN | apply Kd.Q_drew)); exact HO_6.out) hb)
                have n2_ := Aside0.mk (below_step (by repeat (first | (with_reducible first | exact HB.out | apply below_alloc | apply pw_below_drewN | apply below_drew1) | exact HB.out)) hb)
                clear HO_5
                clear HO_6
                clear HB
                have HO_5 := n0_
                have HO_6 := n1_
                have HB := n2_
                clear n0_ n1_ n2_
                (try clear hb)
                (try clear hb2)
                (try clear hk)
                (try clear hi)
                refine hK.out _ _ ⟨HS0_, HS1_⟩ (fun hHeld => ?_)
                clear hK K
                refine norm_ (a' := ?_) ?_ ?_
                rotate_left
                ·show Act.put _ (some 55) _ = _
                 simp only [Act.put, List.setIfInBounds_toArray, List.set_cons_zero, List.set_cons_succ, i64_w, i32_w]
                 rfl
                refine pure_ (i := 7) (N := some 48) (v := ?_) (a' := ?_) #[true, true, true, true, true, true, true, true] rfl rfl (any_of HT_.out (by kernel_rfl)) (fun _ _ _ h => h) (Or.inl ⟨by rfl, ?_⟩) ?_ ?_
                rotate_left
                ·intro w'
                 go_simp
                 with_reducible rfl
                rotate_left
                ·simp only [Act.put, List.setIfInBounds_toArray, List.set_cons_zero, List.set_cons_succ, i64_w, i32_w]
                 rfl
                refine done_ (done_of HT_.out (by kernel_rfl)) ?_
                have p141 : 0 ≤ (0 : Int) := (by omega)
                have q141 : 0 < (x6_2.length : Int) := of_decide_eq_true (by first | (with_reducible assumption) | assumption)
                obtain ⟨ad141, e141, hx141_0⟩ := Kd.at_string (Kd.Q_reads' HO_6.out).2.2 0 p141 q141
                obtain rfl : ad133 = ad141 := (by injection e141)
                have qi141 : (0 < x6_2.length) = True := eq_true (by omega)
                (try rw [show ((0 : Int)).toNat = 0 from rfl] at hx141_0)
                (try rw [Addr.add_zero'] at hx141_0)
                replace p141 := eq_true p141
                replace q141 := eq_true q141
                have q62 : (1 : Int) ≤ ((x6_2.length : Int) : Int) := of_decide_eq_true (by first | (with_reducible assumption) | assumption)
                obtain ⟨i062, hi062, _, hsz62, _⟩ := info_parts info9
                have hcut62 := cut_from (P := Try.prog) 25 9 .i64 Try.underlying25 hi062 1 hsz62 (some ad133) x6_2.length co59 1 (by omega) q62
                have hr62 := Kd.Q_drop (k := (1 : Int).toNat) HO_6.out (by omega)
                obtain ⟨A62, hA62⟩ : ∃ A1, A1 = (if co59 = (1 : Int).toNat then (some ad133) else ((some ad133) : Option Addr).map (·.add ((1 : Int).toNat * 1))) := ⟨_, rfl⟩
                obtain ⟨c62, hc62⟩ : ∃ c1, c1 = co59 - (1 : Int).toNat := ⟨_, rfl⟩
                have hy62 : y142.length = x6_2.length - (1 : Int).toNat := (by rw [Ny142.out, List.length_drop])
                rw [← Ny142.out] at hr62
                rw [← hy62, ← hA62, ← hc62] at hcut62
                replace hr62 : Kd.Q Kd.string 9 w61 w.heap.size (fun k_ => some k_ ≠ (.slice (some ad128) x5_2.length co58 : Value).ownBlock) (.slice A62 y142.length c62) y142 := (by rw [hA62, hc62, hy62]; exact hr62)
                have HE62 : Aside0 ((Value.slice A62 y142.length c62).ownBlock = (.slice (some ad133) x6_2.length co59 : Value).ownBlock) := ⟨by rw [hA62]; split <;> (cases ((some ad133) : Option Addr) <;> rfl)⟩
                clear hy62 hi062 hsz62 HO_6 hA62 hc62
                have HO144 := Aside0.mk hr62
                clear hr62
                replace q62 := eq_true q62
                have n_ := Aside0.mk (Kd.Q_mono (ok' := fun k_ => some k_ ≠ (.slice A62 y142.length c62 : Value).ownBlock) HO_5.out (fun k_ hk => (by rw [HE62.out]; exact hk)))
                clear HO_5
                have HO_5 := n_
                clear n_
                try go_wp2
                (try (rw [Exit.noGoto_normal]; go_wp2))
                go_roundg k2
                case measure => have := HJ4.out; have := HK2.out; omega
                case rel => exact ⟨(x5_2), (y142), H', ⟨by have := HJ4.out; have := HK2.out; omega⟩, ⟨by (with_reducible repeat (first | apply Kd.Q_alloc | apply Kd.Q_drewN | apply Kd.Q_drew)); exact HO_5.out⟩, ⟨by (with_reducible repeat (first | apply Kd.Q_alloc | apply Kd.Q_drewN | apply Kd.Q_drew)); exact HO144.out⟩, ⟨by repeat (first | (with_reducible first | exact HB.out | apply below_alloc | apply pw_below_drewN | apply below_drew1) | exact HB.out)⟩⟩
               ·rw [if_neg c57] at H
                exact absurd H (by simp)
            ·rw [if_neg c41] at H
             exact absurd H (by simp)
         ·rw [if_neg c33] at H
          exact absurd H (by simp)
        ·rw [if_neg c32] at H
         have c32b0 : decide (0 < (x5_2.length : Int)) = false := decide_eq_false c32
         have c32b1 : decide (0 < x5_2.length) = false := decide_eq_false (by omega)
         clear c32
         obtain rfl := Option.some.inj H
         obtain ⟨Ao63, co63, eo63, _⟩ := Kd.Q_slice HO_5.out
         subst eo63
         go_wp2
         (try rw [Exit.noGoto_ret])
         go_ret
         exact ⟨by first | rfl | (simp [errW_none, errW_some] <;> rfl) | (simp [*, errW_none, errW_some] <;> rfl), by repeat (first | (with_reducible first | exact HB.out | apply below_alloc | apply pw_below_drewN | apply below_drew1) | exact HB.out)⟩
     ·rw [if_neg c26] at H
      exact absurd H (by simp)
    ·rw [if_neg c25] at H
     exact absurd H (by simp)

end Go.Proofs.Ytanahbcdilcmoaa.P
