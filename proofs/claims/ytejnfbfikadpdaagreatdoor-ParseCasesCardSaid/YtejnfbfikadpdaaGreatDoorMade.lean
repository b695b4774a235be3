/- isoglossref06.Made, walked: a tag of plain numbers; its rows are the call's own. As the print writes it, mended and made shorter. -/
import Derived.Test.YtejnfbfikadpdaaGreatDoorMadeF
namespace Go.Proofs.YtejnfbfikadpdaaGreatDoor.P
open Go.RowKit Go.Proofs.YtejnfbfikadpdaaGreatDoorW.PrintWords Go.Proofs.YtejnfbfikadpdaaGreatDoorW.PrintLast Go.Proofs.YtejnfbfikadpdaaGreatDoorW.PrintMore
attribute [local go_sem] max2_int min2_int max_two min_two max_three min_three max_four min_four   -- for this text's walks alone
set_option linter.unusedVariables false
set_option linter.unusedSimpArgs false
open List renaming setIfInBounds_toArray → sA_, set_cons_zero → sB_, set_cons_succ → sC_
open Go.Proofs.YtejnfbfikadpdaaGreatDoorW.PrintWords renaming blk_alloc → bA_, blk_drewN → bN_, blk_drew → bD_, blk_frozen → bF_, blk_cell → bC_, pw_below_drewN → wN_, below_alloc → wA_, below_drew1 → wD_, below_set → wS_
open Go.Proofs.YtejnfbfikadpdaaGreatDoorW.PrintWords.Kd renaming R_alloc → rA_, R_drewN → rN_, R_drew → rD_, S_alloc → tA_, S_drewN → tN_, S_drew → tD_
def mD.T1 : Bool × List (List Nat × List Nat) := (true, [([], []), ([], []), ([1], [1]), ([0, 2, 0], [0, 2]), ([3], []), ([], []), ([5], [5]), ([4, 6, 4], [4, 6]), ([7], []), ([], []), ([9], [9]), ([8, 10, 8], [8, 10]), ([3, 7, 11], [3, 7, 11]), ([], []), ([13, 12, 11, 0, 1, 2, 3, 4, 5, 6, 7, 8, 9, 10, 11, 12, 13], [12, 13])])
def mD.B1 : List Nat := [0, 0, 2, 7, 15, 0, 32, 127, 255, 0, 512, 2047, 4095, 0, 16383]
theorem mD.tab1 : rtab .any (opsOf Tryz.f11 1) = mD.T1 := by kernel_rfl
theorem mD.bits1 : waitsOk mD.T1.2 mD.B1 = true := by kernel_rfl
def mD.T7 : Bool × List (List Nat × List Nat) := (true, [([], []), ([], []), ([1], [1]), ([], []), ([2, 3], [2, 3]), ([4], [4]), ([0, 5, 0], [0, 5]), ([6, 6, 0, 1, 2, 3, 4, 5, 6], [6])])
def mD.B7 : List Nat := [0, 0, 2, 0, 14, 30, 63, 127]
theorem mD.tab7 : rtab .any (opsOf Tryz.f11 7) = mD.T7 := by kernel_rfl
theorem mD.bits7 : waitsOk mD.T7.2 mD.B7 = true := by kernel_rfl
def mD.T23 : Bool × List (List Nat × List Nat) := (true, [([], []), ([0], [0]), ([], []), ([], []), ([3], [3]), ([], []), ([], []), ([5, 6], [5, 6]), ([7], [7]), ([4, 8], [4, 8]), ([2, 9, 2], [2, 9]), ([10], [10]), ([1, 11, 10], [1, 11]), ([0, 1, 2, 3, 4, 5, 6, 7, 8, 9, 10, 11, 12], []), ([13, 12, 12, 0, 1, 2, 3, 4, 5, 6, 7, 8, 9, 10, 11, 12], [12, 13])])
def mD.B23 : List Nat := [0, 1, 0, 0, 8, 0, 0, 96, 224, 504, 1020, 2044, 4095, 8191, 16383]
theorem mD.tab23 : rtab .any (opsOf Tryz.f11 23) = mD.T23 := by kernel_rfl
theorem mD.bits23 : waitsOk mD.T23.2 mD.B23 = true := by kernel_rfl
def mD.T28 : Bool × List (List Nat × List Nat) := (true, [([], []), ([0], [0]), ([], []), ([], []), ([3], [3]), ([], []), ([4, 5], [4, 5]), ([6], [6]), ([2, 7], [2, 7]), ([8], [8]), ([1, 9, 8], [1, 9]), ([0, 1, 2, 3, 4, 5, 6, 7, 8, 9, 10], []), ([11, 10, 10, 0, 1, 2, 3, 4, 5, 6, 7, 8, 9, 10], [10, 11])])
def mD.B28 : List Nat := [0, 1, 0, 0, 8, 0, 56, 120, 252, 508, 1023, 2047, 4095]
theorem mD.tab28 : rtab .any (opsOf Tryz.f11 28) = mD.T28 := by kernel_rfl
theorem mD.bits28 : waitsOk mD.T28.2 mD.B28 = true := by kernel_rfl
set_option maxHeartbeats 8000000 in
set_option maxRecDepth 100000 in
theorem isoglossref06_Made.calls (k : Nat) (a0_0 : Int) (a0_1 : Int) (a0_2 : Int) (a0_3 : Int) (A0_4 : Option Addr) (c0_4 : Nat) (l0_4 : List Int) (A0_5 : Option Addr) (c0_5 : Nat) (l0_5 : List Int) (A0_6 : Option Addr) (c0_6 : Nat) (l0_6 : List Int) (a0_7 : Int) (r1 : ByteArray) (r2 : List ByteArray) (r3 : ByteArray) (r4 : ByteArray) (r5 : List ByteArray) (r6 : List (S47)) (r7 : List ByteArray) (r8 : ByteArray) (w : World) (hr0_4 : Kd.C (Kd.int .i64) w A0_4 l0_4.length l0_4) (hc0_4 : l0_4.length ≤ c0_4) (hr0_5 : Kd.C (Kd.int .i64) w A0_5 l0_5.length l0_5) (hc0_5 : l0_5.length ≤ c0_5) (hr0_6 : Kd.C (Kd.int .i64) w A0_6 l0_6.length l0_6) (hc0_6 : l0_6.length ≤ c0_6) (h : isoglossref06_Made.f k a0_0 a0_1 a0_2 a0_3 l0_4 l0_5 l0_6 a0_7 = some (r1, r2, r3, r4, r5, r6, r7, r8)) :
  Calls Tryz.prog 11 #[.agg #[.int .i64 a0_0, .int .i64 a0_1, .int .i64 a0_2, .int .i64 a0_3, .slice A0_4 l0_4.length c0_4, .slice A0_5 l0_5.length c0_5, .slice A0_6 l0_6.length c0_6, .int .i64 a0_7]] w fun e w' => ∃ v1_ v4_ v5_ v6_ : Value, e = .returned (.agg #[.string r1, v1_, .string r3, .string r4, v4_, v5_, v6_, .string r8]) ∧ Kd.R Kd.string 9 w' w.heap.size (fun k_ => some k_ ≠ (v4_ : Value).ownBlock ∧ some k_ ≠ (v6_ : Value).ownBlock) v1_ r2 ∧ Kd.R Kd.string 9 w' w.heap.size (fun k_ => some k_ ≠ (v1_ : Value).ownBlock ∧ some k_ ≠ (v6_ : Value).ownBlock) v4_ r5 ∧ Kd.S k47 47 w' w.heap.size (fun k_ => some k_ ≠ (v1_ : Value).ownBlock ∧ some k_ ≠ (v4_ : Value).ownBlock ∧ some k_ ≠ (v6_ : Value).ownBlock) v5_ r6 ∧ Kd.R Kd.string 9 w' w.heap.size (fun k_ => some k_ ≠ (v1_ : Value).ownBlock ∧ some k_ ≠ (v4_ : Value).ownBlock) v6_ r7 ∧ Below w.heap.size w w' := by
 have hu24 := Tryz.underlying24
 have hu29 := Tryz.underlying29
 have hu47 := Tryz.underlying47
 have HR0_4 := Aside0.mk hr0_4
 have HC0_4 := Aside0.mk hc0_4
 clear hr0_4 hc0_4
 have HR0_5 := Aside0.mk hr0_5
 have HC0_5 := Aside0.mk hc0_5
 clear hr0_5 hc0_5
 have HR0_6 := Aside0.mk hr0_6
 have HC0_6 := Aside0.mk hc0_6
 clear hr0_6 hc0_6
 have HB := Aside0.mk (Below.refl w.heap.size w)
 have H : ((isoglossref06_langs.f).bind fun t214 => ((isoglossref06_Pick.f t214 a0_0).bind fun t217 => ((isoglossref06_scripts.f).bind fun t218 => ((isoglossref06_Pick.f t218 a0_2).bind fun t221 => ((isoglossref06_regions.f).bind fun t222 => ((isoglossref06_Pick.f t222 a0_3).bind fun t225 => (if (t217.size : Int) ≤ 3 then (mD.j0 k ((Int.tmod a0_1 4) == 1) a0_0 a0_1 a0_2 a0_3 l0_4 l0_5 l0_6 a0_7 t217 t221 t225 (⟨#[]⟩ : ByteArray)) else (mD.j0 k false a0_0 a0_1 a0_2 a0_3 l0_4 l0_5 l0_6 a0_7 t217 t221 t225 (⟨#[]⟩ : ByteArray))))))))) = some (r1, r2, r3, r4, r5, r6, r7, r8) := h
 clear h
 replace H := Option.bind_eq_some_iff.mp H
 obtain ⟨t214, A20, H⟩ := H
 replace H : ((isoglossref06_Pick.f t214 a0_0).bind fun t217 => ((isoglossref06_scripts.f).bind fun t218 => ((isoglossref06_Pick.f t218 a0_2).bind fun t221 => ((isoglossref06_regions.f).bind fun t222 => ((isoglossref06_Pick.f t222 a0_3).bind fun t225 => (if (t217.size : Int) ≤ 3 then (mD.j0 k ((Int.tmod a0_1 4) == 1) a0_0 a0_1 a0_2 a0_3 l0_4 l0_5 l0_6 a0_7 t217 t221 t225 (⟨#[]⟩ : ByteArray)) else (mD.j0 k false a0_0 a0_1 a0_2 a0_3 l0_4 l0_5 l0_6 a0_7 t217 t221 t225 (⟨#[]⟩ : ByteArray)))))))) = some (r1, r2, r3, r4, r5, r6, r7, r8) := H
 have A2 := Aside0.mk A20
 clear A20
 replace H := Option.bind_eq_some_iff.mp H
 obtain ⟨t217, A30, H⟩ := H
 replace H : ((isoglossref06_scripts.f).bind fun t218 => ((isoglossref06_Pick.f t218 a0_2).bind fun t221 => ((isoglossref06_regions.f).bind fun t222 => ((isoglossref06_Pick.f t222 a0_3).bind fun t225 => (if (t217.size : Int) ≤ 3 then (mD.j0 k ((Int.tmod a0_1 4) == 1) a0_0 a0_1 a0_2 a0_3 l0_4 l0_5 l0_6 a0_7 t217 t221 t225 (⟨#[]⟩ : ByteArray)) else (mD.j0 k false a0_0 a0_1 a0_2 a0_3 l0_4 l0_5 l0_6 a0_7 t217 t221 t225 (⟨#[]⟩ : ByteArray))))))) = some (r1, r2, r3, r4, r5, r6, r7, r8) := H
 have A3 := Aside0.mk A30
 clear A30
 replace H := Option.bind_eq_some_iff.mp H
 obtain ⟨t218, A40, H⟩ := H
 replace H : ((isoglossref06_Pick.f t218 a0_2).bind fun t221 => ((isoglossref06_regions.f).bind fun t222 => ((isoglossref06_Pick.f t222 a0_3).bind fun t225 => (if (t217.size : Int) ≤ 3 then (mD.j0 k ((Int.tmod a0_1 4) == 1) a0_0 a0_1 a0_2 a0_3 l0_4 l0_5 l0_6 a0_7 t217 t221 t225 (⟨#[]⟩ : ByteArray)) else (mD.j0 k false a0_0 a0_1 a0_2 a0_3 l0_4 l0_5 l0_6 a0_7 t217 t221 t225 (⟨#[]⟩ : ByteArray)))))) = some (r1, r2, r3, r4, r5, r6, r7, r8) := H
 have A4 := Aside0.mk A40
 clear A40
 replace H := Option.bind_eq_some_iff.mp H
 obtain ⟨t221, A50, H⟩ := H
 replace H : ((isoglossref06_regions.f).bind fun t222 => ((isoglossref06_Pick.f t222 a0_3).bind fun t225 => (if (t217.size : Int) ≤ 3 then (mD.j0 k ((Int.tmod a0_1 4) == 1) a0_0 a0_1 a0_2 a0_3 l0_4 l0_5 l0_6 a0_7 t217 t221 t225 (⟨#[]⟩ : ByteArray)) else (mD.j0 k false a0_0 a0_1 a0_2 a0_3 l0_4 l0_5 l0_6 a0_7 t217 t221 t225 (⟨#[]⟩ : ByteArray))))) = some (r1, r2, r3, r4, r5, r6, r7, r8) := H
 have A5 := Aside0.mk A50
 clear A50
 replace H := Option.bind_eq_some_iff.mp H
 obtain ⟨t222, A60, H⟩ := H
 replace H : ((isoglossref06_Pick.f t222 a0_3).bind fun t225 => (if (t217.size : Int) ≤ 3 then (mD.j0 k ((Int.tmod a0_1 4) == 1) a0_0 a0_1 a0_2 a0_3 l0_4 l0_5 l0_6 a0_7 t217 t221 t225 (⟨#[]⟩ : ByteArray)) else (mD.j0 k false a0_0 a0_1 a0_2 a0_3 l0_4 l0_5 l0_6 a0_7 t217 t221 t225 (⟨#[]⟩ : ByteArray)))) = some (r1, r2, r3, r4, r5, r6, r7, r8) := H
 have A6 := Aside0.mk A60
 clear A60
 replace H := Option.bind_eq_some_iff.mp H
 obtain ⟨t225, A70, H⟩ := H
 replace H : (if (t217.size : Int) ≤ 3 then (mD.j0 k ((Int.tmod a0_1 4) == 1) a0_0 a0_1 a0_2 a0_3 l0_4 l0_5 l0_6 a0_7 t217 t221 t225 (⟨#[]⟩ : ByteArray)) else (mD.j0 k false a0_0 a0_1 a0_2 a0_3 l0_4 l0_5 l0_6 a0_7 t217 t221 t225 (⟨#[]⟩ : ByteArray))) = some (r1, r2, r3, r4, r5, r6, r7, r8) := H
 have A7 := Aside0.mk A70
 clear A70
 have HC8 := Aside0.mk H
 clear H
 go_enter Tryz.func11, Tryz.ntmps11
 try go_wp2_with (first | ((with_reducible refine gate_dst (N := 1) rfl ?_); refine box_event ?hg (N := 1) ?hd (cs := #[.int .i64 a0_0, .int .i64 a0_1, .int .i64 a0_2, .int .i64 a0_3, .slice A0_4 l0_4.length c0_4, .slice A0_5 l0_5.length c0_5, .slice A0_6 l0_6.length c0_6, .int .i64 a0_7]) (t := 24) ?hr ?_; (case hd => rfl); (case hg => rfl); (case hr => first | (go_simp; done) | (go_simp; rfl)); intro gb212 hg w9 hbox hb; have n0_ := Aside0.mk (below_step (by repeat (first | (with_reducible first | exact HB.out | apply wA_ | apply wN_ | apply wD_) | exact HB.out)) hb); have n1_ := Aside0.mk (hbox); have n2_ := Aside0.mk ((by rw [hg]; exact (below_size (by repeat (first | (with_reducible first | exact HB.out | apply wA_ | apply wN_ | apply wD_) | exact HB.out))) : w.heap.size ≤ gb212)); have n3_ := Aside0.mk ((by rw [hg]; exact (below_size (by repeat (first | (with_reducible first | exact HB.out | apply wA_ | apply wN_ | apply wD_) | exact HB.out))) : w.heap.size ≤ gb212)); clear HB; have HB := n0_; have K1 := n1_; have GW212 := n2_; have GE212 := n3_; clear n0_ n1_ n2_ n3_; clear hb hbox hg) | ((with_reducible refine gate_dst (N := 2) rfl ?_); refine box_event ?hg (N := 2) ?hd (cs := #[.string (⟨#[]⟩ : ByteArray), .slice none 0 0, .string (⟨#[]⟩ : ByteArray), .string (⟨#[]⟩ : ByteArray), .slice none 0 0, .slice none 0 0, .slice none 0 0, .string (⟨#[]⟩ : ByteArray)]) (t := 29) ?hr ?_; (case hd => rfl); (case hg => rfl); (case hr => first | (go_simp; done) | (go_simp; rfl)); intro gb213 hg w10 hbox hb; have n0_ := Aside0.mk (blk_below (g := gb212) (o := .cells #[.int .i64 a0_0, .int .i64 a0_1, .int .i64 a0_2, .int .i64 a0_3, .slice A0_4 l0_4.length c0_4, .slice A0_5 l0_5.length c0_5, .slice A0_6 l0_6.length c0_6, .int .i64 a0_7] 24 (0, 0)) (by (with_reducible repeat (first | refine bN_ ?_ _ | refine bD_ ?_ | refine bA_ ?_ _)); exact K1.out) hb); have n1_ := Aside0.mk (below_step (by repeat (first | (with_reducible first | exact HB.out | apply wA_ | apply wN_ | apply wD_ | refine wS_ ?_ GE212.out) | exact HB.out)) hb); have n2_ := Aside0.mk (hbox); have n3_ := Aside0.mk ((by rw [hg]; exact (below_size (by repeat (first | (with_reducible first | exact HB.out | apply wA_ | apply wN_ | apply wD_ | refine wS_ ?_ GE212.out) | exact HB.out))) : w.heap.size ≤ gb213)); have n4_ := Aside0.mk ((by rw [hg]; exact (below_size (by repeat (first | (with_reducible first | exact HB.out | apply wA_ | apply wN_ | apply wD_ | refine wS_ ?_ GE212.out) | exact HB.out))) : w.heap.size ≤ gb213)); have n5_ := Aside0.mk ((by rw [hg]; exact Nat.ne_of_lt (blk_lt (g := gb212) (o := .cells #[.int .i64 a0_0, .int .i64 a0_1, .int .i64 a0_2, .int .i64 a0_3, .slice A0_4 l0_4.length c0_4, .slice A0_5 l0_5.length c0_5, .slice A0_6 l0_6.length c0_6, .int .i64 a0_7] 24 (0, 0)) (by (with_reducible repeat (first | refine bN_ ?_ _ | refine bD_ ?_ | refine bA_ ?_ _)); exact K1.out)) : gb212 ≠ gb213)); have n6_ := Aside0.mk ((by rw [hg]; exact Nat.ne_of_gt (blk_lt (g := gb212) (o := .cells #[.int .i64 a0_0, .int .i64 a0_1, .int .i64 a0_2, .int .i64 a0_3, .slice A0_4 l0_4.length c0_4, .slice A0_5 l0_5.length c0_5, .slice A0_6 l0_6.length c0_6, .int .i64 a0_7] 24 (0, 0)) (by (with_reducible repeat (first | refine bN_ ?_ _ | refine bD_ ?_ | refine bA_ ?_ _)); exact K1.out)) : gb213 ≠ gb212)); clear K1; clear HB; have K1 := n0_; have HB := n1_; have K2 := n2_; have GW213 := n3_; have GE213 := n4_; have N12 := n5_; have N21 := n6_; clear n0_ n1_ n2_ n3_ n4_ n5_ n6_; clear hb hbox hg))
 have n0_ := Aside0.mk (bD_ K1.out)
 have n1_ := Aside0.mk (bD_ K2.out)
 have n2_ := Aside0.mk (wD_ HB.out)
 clear K1 K2 HB
 have K1 := n0_; have K2 := n1_; have HB := n2_
 clear n0_ n1_ n2_
 refine start_ (n := 15) (S := fun w' => SS_ gb212 a0_0 a0_1 a0_2 a0_3 A0_4 l0_4 c0_4 A0_5 l0_5 c0_5 A0_6 l0_6 c0_6 a0_7 w') (ds := []) #[false, false, false, false, false, false, false, false, false, false, false, false, false, false, false] (by kernel_rfl) rfl rfl ⟨(bC_ K1.out 0).trans rfl, (bC_ K1.out 1).trans rfl, (bC_ K1.out 2).trans rfl, (bC_ K1.out 3).trans rfl, (bC_ K1.out 4).trans rfl, (bC_ K1.out 5).trans rfl, (bC_ K1.out 6).trans rfl, (bC_ K1.out 7).trans rfl⟩ (fun hHeld => ?_); refine with_tabW mD.tab1 mD.bits1 (fun HT_ HW_ => ?_)
 generalize w10.drew = w11 at K1 K2 HB hHeld ⊢
 refine pure_ (i := 1) (N := some 14) (v := ?_) (a' := ?_) #[false, true, false, false, false, false, false, false, false, false, false, false, false, false, false] rfl rfl (any_of HT_.out (by kernel_rfl)) (fun _ _ _ h => h) (Or.inl ⟨by rfl, ?_⟩) ?_ ?_
 rotate_left
 ·intro w'
  go_simp
  with_reducible rfl
 rotate_left
 ·simp only [Act.put, sA_, sB_, sC_, i64_w, i32_w]
  rfl
 refine pure_ (i := 5) (N := some 18) (v := ?_) (a' := ?_) #[false, true, false, false, false, true, false, false, false, false, false, false, false, false, false] rfl rfl (any_of HT_.out (by kernel_rfl)) (fun _ _ _ h => h) (Or.inl ⟨by rfl, ?_⟩) ?_ ?_
 rotate_left
 ·intro w'
  go_simp
  with_reducible rfl
 rotate_left
 ·simp only [Act.put, sA_, sB_, sC_, i64_w, i32_w]
  rfl
 refine pure_ (i := 9) (N := some 22) (v := ?_) (a' := ?_) #[false, true, false, false, false, true, false, false, false, true, false, false, false, false, false] rfl rfl (any_of HT_.out (by kernel_rfl)) (fun _ _ _ h => h) (Or.inl ⟨by rfl, ?_⟩) ?_ ?_
 rotate_left
 ·intro w'
  go_simp
  with_reducible rfl
 rotate_left
 ·simp only [Act.put, sA_, sB_, sC_, i64_w, i32_w]
  rfl
 refine take_ (i := 2) (N := some 15) (v := ?_) (a' := ?_) #[false, true, true, false, false, true, false, false, false, true, false, false, false, false, false] rfl rfl (take_ofW HT_.out HW_.out (by kernel_rfl)) (fun _ _ _ h => h) (Or.inl ⟨by rfl, ?_⟩) hHeld ?_ ?_
 rotate_left
 ·rintro w' ⟨s0, s1, s2, s3, s4, s5, s6, s7⟩
  go_simp
  with_reducible rfl
 rotate_left
 ·simp only [Act.put, sA_, sB_, sC_, i64_w, i32_w]
  rfl
 refine take_ (i := 6) (N := some 19) (v := ?_) (a' := ?_) #[false, true, true, false, false, true, true, false, false, true, false, false, false, false, false] rfl rfl (take_ofW HT_.out HW_.out (by kernel_rfl)) (fun _ _ _ h => h) (Or.inl ⟨by rfl, ?_⟩) hHeld ?_ ?_
 rotate_left
 ·rintro w' ⟨s0, s1, s2, s3, s4, s5, s6, s7⟩
  go_simp
  with_reducible rfl
 rotate_left
 ·simp only [Act.put, sA_, sB_, sC_, i64_w, i32_w]
  rfl
 refine take_ (i := 10) (N := some 23) (v := ?_) (a' := ?_) #[false, true, true, false, false, true, true, false, false, true, true, false, false, false, false] rfl rfl (take_ofW HT_.out HW_.out (by kernel_rfl)) (fun _ _ _ h => h) (Or.inl ⟨by rfl, ?_⟩) hHeld ?_ ?_
 rotate_left
 ·rintro w' ⟨s0, s1, s2, s3, s4, s5, s6, s7⟩
  go_simp
  with_reducible rfl
 rotate_left
 ·simp only [Act.put, sA_, sB_, sC_, i64_w, i32_w]
  rfl
 refine join_ (σ := Value × Value × Value × Nat) 1 #[true, true, true, true, true, true, true, true, true, true, true, true, true, true, false] (fun s_ => [(13, s_.1), (16, .string t217), (17, s_.2.1), (20, .string t221), (21, s_.2.2.1), (24, .string t225), (3, .pointer (some ⟨s_.2.2.2, 0, none⟩)), (25, .agg #[.string t217, .slice none 0 0, .string t221, .string t225, .slice none 0 0, .slice none 0 0, .slice none 0 0, .string (⟨#[]⟩ : ByteArray)])]) (fun s_ w' => (SS_ gb212 a0_0 a0_1 a0_2 a0_3 A0_4 l0_4 c0_4 A0_5 l0_5 c0_5 A0_6 l0_6 c0_6 a0_7 w') ∧ (Kd.R Kd.string 9 w' w.heap.size (fun k_ => some k_ ≠ (s_.2.1 : Value).ownBlock ∧ some k_ ≠ (s_.2.2.1 : Value).ownBlock) s_.1 t214) ∧ (Kd.R Kd.string 9 w' w.heap.size (fun k_ => some k_ ≠ (s_.1 : Value).ownBlock ∧ some k_ ≠ (s_.2.2.1 : Value).ownBlock) s_.2.1 t218) ∧ (Kd.R Kd.string 9 w' w.heap.size (fun k_ => some k_ ≠ (s_.1 : Value).ownBlock ∧ some k_ ≠ (s_.2.1 : Value).ownBlock) s_.2.2.1 t222) ∧ (w'.heap[gb212]? = some (.cells #[.int .i64 a0_0, .int .i64 a0_1, .int .i64 a0_2, .int .i64 a0_3, .slice A0_4 l0_4.length c0_4, .slice A0_5 l0_5.length c0_5, .slice A0_6 l0_6.length c0_6, .int .i64 a0_7] 24 (0, 0))) ∧ (w'.heap[gb213]? = some (.cells zT_ 29 (0, 0))) ∧ (w'.heap[s_.2.2.2]? = some (.cells zT_ 29 (0, 0))) ∧ (w.heap.size ≤ s_.2.2.2) ∧ (w.heap.size ≤ s_.2.2.2) ∧ (gb212 ≠ s_.2.2.2) ∧ (s_.2.2.2 ≠ gb212) ∧ (gb213 ≠ s_.2.2.2) ∧ (s_.2.2.2 ≠ gb213) ∧ (Below w.heap.size w w')) ?_ ?_
 rotate_left
 ·intro hj0
  refine join_ (σ := Value × Value × Value) 2 #[true, true, true, true, true, true, true, true, true, true, true, true, true, false, false] (fun s_ => [(13, s_.1), (16, .string t217), (17, s_.2.1), (20, .string t221), (21, s_.2.2), (24, .string t225), (25, .agg #[.string t217, .slice none 0 0, .string t221, .string t225, .slice none 0 0, .slice none 0 0, .slice none 0 0, .string (⟨#[]⟩ : ByteArray)])]) (fun s_ w' => (SS_ gb212 a0_0 a0_1 a0_2 a0_3 A0_4 l0_4 c0_4 A0_5 l0_5 c0_5 A0_6 l0_6 c0_6 a0_7 w') ∧ (Kd.R Kd.string 9 w' w.heap.size (fun k_ => some k_ ≠ (s_.2.1 : Value).ownBlock ∧ some k_ ≠ (s_.2.2 : Value).ownBlock) s_.1 t214) ∧ (Kd.R Kd.string 9 w' w.heap.size (fun k_ => some k_ ≠ (s_.1 : Value).ownBlock ∧ some k_ ≠ (s_.2.2 : Value).ownBlock) s_.2.1 t218) ∧ (Kd.R Kd.string 9 w' w.heap.size (fun k_ => some k_ ≠ (s_.1 : Value).ownBlock ∧ some k_ ≠ (s_.2.1 : Value).ownBlock) s_.2.2 t222) ∧ (w'.heap[gb212]? = some (.cells #[.int .i64 a0_0, .int .i64 a0_1, .int .i64 a0_2, .int .i64 a0_3, .slice A0_4 l0_4.length c0_4, .slice A0_5 l0_5.length c0_5, .slice A0_6 l0_6.length c0_6, .int .i64 a0_7] 24 (0, 0))) ∧ (w'.heap[gb213]? = some (.cells zT_ 29 (0, 0))) ∧ (Below w.heap.size w w')) ?_ ?_
  rotate_left
  ·intro hj2
   refine join_ (σ := Value × Value × Value × Nat) 3 #[true, true, true, true, true, true, true, true, true, true, true, false, false, true, false] (fun s_ => [(13, s_.1), (16, .string t217), (17, s_.2.1), (20, .string t221), (21, s_.2.2.1), (3, .pointer (some ⟨s_.2.2.2, 0, none⟩))]) (fun s_ w' => (SS_ gb212 a0_0 a0_1 a0_2 a0_3 A0_4 l0_4 c0_4 A0_5 l0_5 c0_5 A0_6 l0_6 c0_6 a0_7 w') ∧ (Kd.R Kd.string 9 w' w.heap.size (fun k_ => some k_ ≠ (s_.2.1 : Value).ownBlock ∧ some k_ ≠ (s_.2.2.1 : Value).ownBlock) s_.1 t214) ∧ (Kd.R Kd.string 9 w' w.heap.size (fun k_ => some k_ ≠ (s_.1 : Value).ownBlock ∧ some k_ ≠ (s_.2.2.1 : Value).ownBlock) s_.2.1 t218) ∧ (Kd.R Kd.string 9 w' w.heap.size (fun k_ => some k_ ≠ (s_.1 : Value).ownBlock ∧ some k_ ≠ (s_.2.1 : Value).ownBlock) s_.2.2.1 t222) ∧ (w'.heap[gb212]? = some (.cells #[.int .i64 a0_0, .int .i64 a0_1, .int .i64 a0_2, .int .i64 a0_3, .slice A0_4 l0_4.length c0_4, .slice A0_5 l0_5.length c0_5, .slice A0_6 l0_6.length c0_6, .int .i64 a0_7] 24 (0, 0))) ∧ (w'.heap[gb213]? = some (.cells zT_ 29 (0, 0))) ∧ (w'.heap[s_.2.2.2]? = some (.cells zT_ 29 (0, 0))) ∧ (w.heap.size ≤ s_.2.2.2) ∧ (w.heap.size ≤ s_.2.2.2) ∧ (gb212 ≠ s_.2.2.2) ∧ (s_.2.2.2 ≠ gb212) ∧ (gb213 ≠ s_.2.2.2) ∧ (s_.2.2.2 ≠ gb213) ∧ (Below w.heap.size w w')) ?_ ?_
   rotate_left
   ·intro hj1
    refine join_ (σ := Value × Value × Value) 4 #[true, true, true, true, true, true, true, true, true, true, true, false, false, false, false] (fun s_ => [(13, s_.1), (16, .string t217), (17, s_.2.1), (20, .string t221), (21, s_.2.2)]) (fun s_ w' => (SS_ gb212 a0_0 a0_1 a0_2 a0_3 A0_4 l0_4 c0_4 A0_5 l0_5 c0_5 A0_6 l0_6 c0_6 a0_7 w') ∧ (Kd.R Kd.string 9 w' w.heap.size (fun k_ => some k_ ≠ (s_.2.1 : Value).ownBlock ∧ some k_ ≠ (s_.2.2 : Value).ownBlock) s_.1 t214) ∧ (Kd.R Kd.string 9 w' w.heap.size (fun k_ => some k_ ≠ (s_.1 : Value).ownBlock ∧ some k_ ≠ (s_.2.2 : Value).ownBlock) s_.2.1 t218) ∧ (Kd.R Kd.string 9 w' w.heap.size (fun k_ => some k_ ≠ (s_.1 : Value).ownBlock ∧ some k_ ≠ (s_.2.1 : Value).ownBlock) s_.2.2 t222) ∧ (w'.heap[gb212]? = some (.cells #[.int .i64 a0_0, .int .i64 a0_1, .int .i64 a0_2, .int .i64 a0_3, .slice A0_4 l0_4.length c0_4, .slice A0_5 l0_5.length c0_5, .slice A0_6 l0_6.length c0_6, .int .i64 a0_7] 24 (0, 0))) ∧ (w'.heap[gb213]? = some (.cells zT_ 29 (0, 0))) ∧ (Below w.heap.size w w')) ?_ ?_
    rotate_left
    ·intro hj4
     refine join_ (σ := Value × Value × Nat) 4 #[true, true, true, true, true, true, true, true, false, true, true, false, false, true, false] (fun s_ => [(13, s_.1), (16, .string t217), (17, s_.2.1), (20, .string t221), (3, .pointer (some ⟨s_.2.2, 0, none⟩))]) (fun s_ w' => (SS_ gb212 a0_0 a0_1 a0_2 a0_3 A0_4 l0_4 c0_4 A0_5 l0_5 c0_5 A0_6 l0_6 c0_6 a0_7 w') ∧ (Kd.R Kd.string 9 w' w.heap.size (fun k_ => some k_ ≠ (s_.2.1 : Value).ownBlock) s_.1 t214) ∧ (Kd.R Kd.string 9 w' w.heap.size (fun k_ => some k_ ≠ (s_.1 : Value).ownBlock) s_.2.1 t218) ∧ (w'.heap[gb212]? = some (.cells #[.int .i64 a0_0, .int .i64 a0_1, .int .i64 a0_2, .int .i64 a0_3, .slice A0_4 l0_4.length c0_4, .slice A0_5 l0_5.length c0_5, .slice A0_6 l0_6.length c0_6, .int .i64 a0_7] 24 (0, 0))) ∧ (w'.heap[gb213]? = some (.cells zT_ 29 (0, 0))) ∧ (w'.heap[s_.2.2]? = some (.cells zT_ 29 (0, 0))) ∧ (w.heap.size ≤ s_.2.2) ∧ (w.heap.size ≤ s_.2.2) ∧ (gb212 ≠ s_.2.2) ∧ (s_.2.2 ≠ gb212) ∧ (gb213 ≠ s_.2.2) ∧ (s_.2.2 ≠ gb213) ∧ (Below w.heap.size w w')) ?_ ?_
     rotate_left
     ·intro hj3
      refine join_ (σ := Value × Value) 5 #[true, true, true, true, true, true, true, true, false, true, true, false, false, false, false] (fun s_ => [(13, s_.1), (16, .string t217), (17, s_.2), (20, .string t221)]) (fun s_ w' => (SS_ gb212 a0_0 a0_1 a0_2 a0_3 A0_4 l0_4 c0_4 A0_5 l0_5 c0_5 A0_6 l0_6 c0_6 a0_7 w') ∧ (Kd.R Kd.string 9 w' w.heap.size (fun k_ => some k_ ≠ (s_.2 : Value).ownBlock) s_.1 t214) ∧ (Kd.R Kd.string 9 w' w.heap.size (fun k_ => some k_ ≠ (s_.1 : Value).ownBlock) s_.2 t218) ∧ (w'.heap[gb212]? = some (.cells #[.int .i64 a0_0, .int .i64 a0_1, .int .i64 a0_2, .int .i64 a0_3, .slice A0_4 l0_4.length c0_4, .slice A0_5 l0_5.length c0_5, .slice A0_6 l0_6.length c0_6, .int .i64 a0_7] 24 (0, 0))) ∧ (w'.heap[gb213]? = some (.cells zT_ 29 (0, 0))) ∧ (Below w.heap.size w w')) ?_ ?_
      rotate_left
      ·intro hj6
       refine join_ (σ := Value × Value × Nat) 5 #[true, true, true, true, true, true, true, false, false, true, true, false, false, true, false] (fun s_ => [(13, s_.1), (16, .string t217), (17, s_.2.1), (3, .pointer (some ⟨s_.2.2, 0, none⟩))]) (fun s_ w' => (SS_ gb212 a0_0 a0_1 a0_2 a0_3 A0_4 l0_4 c0_4 A0_5 l0_5 c0_5 A0_6 l0_6 c0_6 a0_7 w') ∧ (Kd.R Kd.string 9 w' w.heap.size (fun k_ => some k_ ≠ (s_.2.1 : Value).ownBlock) s_.1 t214) ∧ (Kd.R Kd.string 9 w' w.heap.size (fun k_ => some k_ ≠ (s_.1 : Value).ownBlock) s_.2.1 t218) ∧ (w'.heap[gb212]? = some (.cells #[.int .i64 a0_0, .int .i64 a0_1, .int .i64 a0_2, .int .i64 a0_3, .slice A0_4 l0_4.length c0_4, .slice A0_5 l0_5.length c0_5, .slice A0_6 l0_6.length c0_6, .int .i64 a0_7] 24 (0, 0))) ∧ (w'.heap[gb213]? = some (.cells zT_ 29 (0, 0))) ∧ (w'.heap[s_.2.2]? = some (.cells zT_ 29 (0, 0))) ∧ (w.heap.size ≤ s_.2.2) ∧ (w.heap.size ≤ s_.2.2) ∧ (gb212 ≠ s_.2.2) ∧ (s_.2.2 ≠ gb212) ∧ (gb213 ≠ s_.2.2) ∧ (s_.2.2 ≠ gb213) ∧ (Below w.heap.size w w')) ?_ ?_
       rotate_left
       ·intro hj5
        refine join_ (σ := Value × Value) 6 #[true, true, true, true, true, true, true, false, false, true, true, false, false, false, false] (fun s_ => [(13, s_.1), (16, .string t217), (17, s_.2)]) (fun s_ w' => (SS_ gb212 a0_0 a0_1 a0_2 a0_3 A0_4 l0_4 c0_4 A0_5 l0_5 c0_5 A0_6 l0_6 c0_6 a0_7 w') ∧ (Kd.R Kd.string 9 w' w.heap.size (fun k_ => some k_ ≠ (s_.2 : Value).ownBlock) s_.1 t214) ∧ (Kd.R Kd.string 9 w' w.heap.size (fun k_ => some k_ ≠ (s_.1 : Value).ownBlock) s_.2 t218) ∧ (w'.heap[gb212]? = some (.cells #[.int .i64 a0_0, .int .i64 a0_1, .int .i64 a0_2, .int .i64 a0_3, .slice A0_4 l0_4.length c0_4, .slice A0_5 l0_5.length c0_5, .slice A0_6 l0_6.length c0_6, .int .i64 a0_7] 24 (0, 0))) ∧ (w'.heap[gb213]? = some (.cells zT_ 29 (0, 0))) ∧ (Below w.heap.size w w')) ?_ ?_
        rotate_left
        ·intro hj8
         refine join_ (σ := Value × Nat) 6 #[true, true, true, true, false, true, true, false, false, true, true, false, false, true, false] (fun s_ => [(13, s_.1), (16, .string t217), (3, .pointer (some ⟨s_.2, 0, none⟩))]) (fun s_ w' => (SS_ gb212 a0_0 a0_1 a0_2 a0_3 A0_4 l0_4 c0_4 A0_5 l0_5 c0_5 A0_6 l0_6 c0_6 a0_7 w') ∧ (Kd.R Kd.string 9 w' w.heap.size (fun _ => True) s_.1 t214) ∧ (w'.heap[gb212]? = some (.cells #[.int .i64 a0_0, .int .i64 a0_1, .int .i64 a0_2, .int .i64 a0_3, .slice A0_4 l0_4.length c0_4, .slice A0_5 l0_5.length c0_5, .slice A0_6 l0_6.length c0_6, .int .i64 a0_7] 24 (0, 0))) ∧ (w'.heap[gb213]? = some (.cells zT_ 29 (0, 0))) ∧ (w'.heap[s_.2]? = some (.cells zT_ 29 (0, 0))) ∧ (w.heap.size ≤ s_.2) ∧ (w.heap.size ≤ s_.2) ∧ (gb212 ≠ s_.2) ∧ (s_.2 ≠ gb212) ∧ (gb213 ≠ s_.2) ∧ (s_.2 ≠ gb213) ∧ (Below w.heap.size w w')) ?_ ?_
         rotate_left
         ·intro hj7
          refine join_ (σ := Value) 7 #[true, true, true, true, false, true, true, false, false, true, true, false, false, false, false] (fun s_ => [(13, s_), (16, .string t217)]) (fun s_ w' => (SS_ gb212 a0_0 a0_1 a0_2 a0_3 A0_4 l0_4 c0_4 A0_5 l0_5 c0_5 A0_6 l0_6 c0_6 a0_7 w') ∧ (Kd.R Kd.string 9 w' w.heap.size (fun _ => True) s_ t214) ∧ (w'.heap[gb212]? = some (.cells #[.int .i64 a0_0, .int .i64 a0_1, .int .i64 a0_2, .int .i64 a0_3, .slice A0_4 l0_4.length c0_4, .slice A0_5 l0_5.length c0_5, .slice A0_6 l0_6.length c0_6, .int .i64 a0_7] 24 (0, 0))) ∧ (w'.heap[gb213]? = some (.cells zT_ 29 (0, 0))) ∧ (Below w.heap.size w w')) ?_ ?_
          rotate_left
          ·intro hj10
           refine join_ (σ := Value × Nat) 7 #[true, true, true, false, false, true, true, false, false, true, true, false, false, true, false] (fun s_ => [(13, s_.1), (3, .pointer (some ⟨s_.2, 0, none⟩))]) (fun s_ w' => (SS_ gb212 a0_0 a0_1 a0_2 a0_3 A0_4 l0_4 c0_4 A0_5 l0_5 c0_5 A0_6 l0_6 c0_6 a0_7 w') ∧ (Kd.R Kd.string 9 w' w.heap.size (fun _ => True) s_.1 t214) ∧ (w'.heap[gb212]? = some (.cells #[.int .i64 a0_0, .int .i64 a0_1, .int .i64 a0_2, .int .i64 a0_3, .slice A0_4 l0_4.length c0_4, .slice A0_5 l0_5.length c0_5, .slice A0_6 l0_6.length c0_6, .int .i64 a0_7] 24 (0, 0))) ∧ (w'.heap[gb213]? = some (.cells zT_ 29 (0, 0))) ∧ (w'.heap[s_.2]? = some (.cells zT_ 29 (0, 0))) ∧ (w.heap.size ≤ s_.2) ∧ (w.heap.size ≤ s_.2) ∧ (gb212 ≠ s_.2) ∧ (s_.2 ≠ gb212) ∧ (gb213 ≠ s_.2) ∧ (s_.2 ≠ gb213) ∧ (Below w.heap.size w w')) ?_ ?_
           rotate_left
           ·intro hj9
            refine join_ (σ := Value) 8 #[true, true, true, false, false, true, true, false, false, true, true, false, false, false, false] (fun s_ => [(13, s_)]) (fun s_ w' => (SS_ gb212 a0_0 a0_1 a0_2 a0_3 A0_4 l0_4 c0_4 A0_5 l0_5 c0_5 A0_6 l0_6 c0_6 a0_7 w') ∧ (Kd.R Kd.string 9 w' w.heap.size (fun _ => True) s_ t214) ∧ (w'.heap[gb212]? = some (.cells #[.int .i64 a0_0, .int .i64 a0_1, .int .i64 a0_2, .int .i64 a0_3, .slice A0_4 l0_4.length c0_4, .slice A0_5 l0_5.length c0_5, .slice A0_6 l0_6.length c0_6, .int .i64 a0_7] 24 (0, 0))) ∧ (w'.heap[gb213]? = some (.cells zT_ 29 (0, 0))) ∧ (Below w.heap.size w w')) ?_ ?_
            rotate_left
            ·intro hJ0
             refine join_ (σ := Nat) 8 #[false, true, true, false, false, true, true, false, false, true, true, false, false, true, false] (fun s_ => [(3, .pointer (some ⟨s_, 0, none⟩))]) (fun s_ w' => (SS_ gb212 a0_0 a0_1 a0_2 a0_3 A0_4 l0_4 c0_4 A0_5 l0_5 c0_5 A0_6 l0_6 c0_6 a0_7 w') ∧ (w'.heap[gb212]? = some (.cells #[.int .i64 a0_0, .int .i64 a0_1, .int .i64 a0_2, .int .i64 a0_3, .slice A0_4 l0_4.length c0_4, .slice A0_5 l0_5.length c0_5, .slice A0_6 l0_6.length c0_6, .int .i64 a0_7] 24 (0, 0))) ∧ (w'.heap[gb213]? = some (.cells zT_ 29 (0, 0))) ∧ (w'.heap[s_]? = some (.cells zT_ 29 (0, 0))) ∧ (w.heap.size ≤ s_) ∧ (w.heap.size ≤ s_) ∧ (gb212 ≠ s_) ∧ (s_ ≠ gb212) ∧ (gb213 ≠ s_) ∧ (s_ ≠ gb213) ∧ (Below w.heap.size w w')) ?_ ?_
             rotate_left
             ·intro hJ13
              refine two_ (i := 0) (j := 13) (Ni := some 13) (Nj := some 3) #[true, true, true, false, false, true, true, false, false, true, true, false, false, false, false] #[false, true, true, false, false, true, true, false, false, true, true, false, false, true, false] rfl rfl rfl rfl (two_of HT_.out (by kernel_rfl)) (by decide) (by decide) (fun K hK => ?_) (fun K hK => ?_)
              ·skip
               refine goes_ Tryz.func33 (by kernel_rfl) rfl #[] (by rfl) rfl rfl (by (try simp only [List.map_toArray, List.map_cons, List.map_nil]); first | done | rfl | (simp only [List.length_drop, List.length_take]; rfl)) ?_
               with_reducible refine (isoglossref06_langs.calls  t214 _ A2.out).mono ?_
               rintro e w12 ⟨v215, rfl, ho0, hb⟩
               refine ⟨_, rfl, ?_⟩
               have n0_ := Aside0.mk (Kd.R_lower ho0 (below_size HB.out))
               have n1_ := Aside0.mk (blk_below (g := gb212) K1.out hb)
               have n2_ := Aside0.mk (blk_below (g := gb213) K2.out hb)
               have n3_ := Aside0.mk (below_step HB.out hb)
               clear K1 K2 HB
               have HO216 := n0_; have K1 := n1_; have K2 := n2_; have HB := n3_
               clear n0_ n1_ n2_ n3_
               (try clear hb); (try clear hb2); (try clear hk); (try clear hi); (try clear ho0)
               refine hK.out _ _ ⟨(bC_ K1.out 0).trans rfl, (bC_ K1.out 1).trans rfl, (bC_ K1.out 2).trans rfl, (bC_ K1.out 3).trans rfl, (bC_ K1.out 4).trans rfl, (bC_ K1.out 5).trans rfl, (bC_ K1.out 6).trans rfl, (bC_ K1.out 7).trans rfl⟩ (fun hHeld => ?_)
               clear hK K
               refine norm_ (a' := ?_) ?_ ?_
               rotate_left
               ·show Act.put _ (some 13) _ = _
                simp only [Act.put, sA_, sB_, sC_, i64_w, i32_w]
                rfl
               exact norm_ (by first | (simp only [putAll, Act.put, sA_, sB_, sC_]; done) | (simp only [putAll, Act.put, sA_, sB_, sC_]; rfl)) (hJ0 (v215) _ ⟨hHeld, HO216.out, K1.out, K2.out, (by first | exact HB.out | exact wN_ HB.out _)⟩)
              ·skip
               refine box_step ?hg (N := 3) ?hd (cs := #[.string (⟨#[]⟩ : ByteArray), .slice none 0 0, .string (⟨#[]⟩ : ByteArray), .string (⟨#[]⟩ : ByteArray), .slice none 0 0, .slice none 0 0, .slice none 0 0, .string (⟨#[]⟩ : ByteArray)]) (t := 29) ?hr ?_; (case hd => rfl); (case hg => rfl); (case hr => first | (go_simp; done) | (go_simp; rfl))
               intro gb226 hg w12 hbox hb
               have n0_ := Aside0.mk (blk_below (g := gb212) K1.out hb)
               have n1_ := Aside0.mk (blk_below (g := gb213) K2.out hb)
               have n2_ := Aside0.mk (below_step HB.out hb)
               have n3_ := Aside0.mk (hbox)
               have n4_ := Aside0.mk ((by rw [hg]; exact (below_size HB.out) : _ ≤ gb226))
               have n5_ := Aside0.mk ((by rw [hg]; exact (below_size HB.out) : _ ≤ gb226))
               have n6_ := Aside0.mk ((by rw [hg]; exact Nat.ne_of_lt (blk_lt (g := gb212) K1.out) : gb212 ≠ gb226))
               have n7_ := Aside0.mk ((by rw [hg]; exact Nat.ne_of_gt (blk_lt (g := gb212) K1.out) : gb226 ≠ gb212))
               have n8_ := Aside0.mk ((by rw [hg]; exact Nat.ne_of_lt (blk_lt (g := gb213) K2.out) : gb213 ≠ gb226))
               have n9_ := Aside0.mk ((by rw [hg]; exact Nat.ne_of_gt (blk_lt (g := gb213) K2.out) : gb226 ≠ gb213))
               clear K1 K2 HB
               have K1 := n0_; have K2 := n1_; have HB := n2_; have K3 := n3_; have GW226 := n4_; have GE226 := n5_; have N13 := n6_; have N31 := n7_; have N23 := n8_; have N32 := n9_
               clear n0_ n1_ n2_ n3_ n4_ n5_ n6_ n7_ n8_ n9_ hb hbox hg
               refine hK.out _ _ ⟨(bC_ K1.out 0).trans rfl, (bC_ K1.out 1).trans rfl, (bC_ K1.out 2).trans rfl, (bC_ K1.out 3).trans rfl, (bC_ K1.out 4).trans rfl, (bC_ K1.out 5).trans rfl, (bC_ K1.out 6).trans rfl, (bC_ K1.out 7).trans rfl⟩ (fun hHeld => ?_)
               clear hK K
               refine norm_ (a' := ?_) ?_ ?_
               rotate_left
               ·show Act.put _ (some 3) _ = _
                simp only [Act.put, sA_, sB_, sC_, i64_w, i32_w]
                rfl
               exact norm_ (by first | (simp only [putAll, Act.put, sA_, sB_, sC_]; done) | (simp only [putAll, Act.put, sA_, sB_, sC_]; rfl)) (hJ13 (gb226) _ ⟨hHeld, K1.out, K2.out, K3.out, GW226.out, GE226.out, N13.out, N31.out, N23.out, N32.out, (by first | exact HB.out | exact wN_ HB.out _)⟩)
             ·skip
              rintro gb226 w13 ⟨hS_, h0_, h1_, h2_, h3_, h4_, h5_, h6_, h7_, h8_, h9_⟩
              have n0_ : Aside0 (w13.heap[gb212]? = some (.cells #[.int .i64 a0_0, .int .i64 a0_1, .int .i64 a0_2, .int .i64 a0_3, .slice A0_4 l0_4.length c0_4, .slice A0_5 l0_5.length c0_5, .slice A0_6 l0_6.length c0_6, .int .i64 a0_7] 24 (0, 0))) := ⟨h0_⟩
              have n1_ : Aside0 (w13.heap[gb213]? = some (.cells zT_ 29 (0, 0))) := ⟨h1_⟩
              have n2_ : Aside0 (w13.heap[gb226]? = some (.cells zT_ 29 (0, 0))) := ⟨h2_⟩
              have n3_ : Aside0 (w.heap.size ≤ gb226) := ⟨h3_⟩
              have n4_ : Aside0 (w.heap.size ≤ gb226) := ⟨h4_⟩
              have n5_ : Aside0 (gb212 ≠ gb226) := ⟨h5_⟩
              have n6_ : Aside0 (gb226 ≠ gb212) := ⟨h6_⟩
              have n7_ : Aside0 (gb213 ≠ gb226) := ⟨h7_⟩
              have n8_ : Aside0 (gb226 ≠ gb213) := ⟨h8_⟩
              have n9_ : Aside0 (Below w.heap.size w w13) := ⟨h9_⟩
              clear K1 K2 HB h0_ h1_ h2_ h3_ h4_ h5_ h6_ h7_ h8_ h9_
              have K1 := n0_; have K2 := n1_; have K3 := n2_; have GW226 := n3_; have GE226 := n4_; have N13 := n5_; have N31 := n6_; have N23 := n7_; have N32 := n8_; have HB := n9_
              clear n0_ n1_ n2_ n3_ n4_ n5_ n6_ n7_ n8_ n9_
              have hHeld : SS_ gb212 a0_0 a0_1 a0_2 a0_3 A0_4 l0_4 c0_4 A0_5 l0_5 c0_5 A0_6 l0_6 c0_6 a0_7 w13 := hS_
              refine norm_ (a' := ?_) ?_ ?_
              rotate_left
              ·simp only [putAll, Act.put, sA_, sB_, sC_]
               rfl
              refine one_ (i := 0) (N := some 13) #[true, true, true, false, false, true, true, false, false, true, true, false, false, true, false] rfl rfl (one_of HT_.out (by kernel_rfl)) (by decide) (fun K hK => ?_)
              refine goes_ Tryz.func33 (by kernel_rfl) rfl #[] (by rfl) rfl rfl (by (try simp only [List.map_toArray, List.map_cons, List.map_nil]); first | done | rfl | (simp only [List.length_drop, List.length_take]; rfl)) ?_
              with_reducible refine (isoglossref06_langs.calls  t214 _ A2.out).mono ?_
              rintro e w14 ⟨v215, rfl, ho0, hb⟩
              refine ⟨_, rfl, ?_⟩
              have n0_ := Aside0.mk (Kd.R_lower ho0 (below_size HB.out))
              have n1_ := Aside0.mk (blk_below (g := gb212) K1.out hb)
              have n2_ := Aside0.mk (blk_below (g := gb213) K2.out hb)
              have n3_ := Aside0.mk (blk_below (g := gb226) K3.out hb)
              have n4_ := Aside0.mk (below_step HB.out hb)
              clear K1 K2 K3 HB
              have HO216 := n0_; have K1 := n1_; have K2 := n2_; have K3 := n3_; have HB := n4_
              clear n0_ n1_ n2_ n3_ n4_
              (try clear hb); (try clear hb2); (try clear hk); (try clear hi); (try clear ho0)
              refine hK.out _ _ ⟨(bC_ K1.out 0).trans rfl, (bC_ K1.out 1).trans rfl, (bC_ K1.out 2).trans rfl, (bC_ K1.out 3).trans rfl, (bC_ K1.out 4).trans rfl, (bC_ K1.out 5).trans rfl, (bC_ K1.out 6).trans rfl, (bC_ K1.out 7).trans rfl⟩ (fun hHeld => ?_)
              clear hK K
              refine norm_ (a' := ?_) ?_ ?_
              rotate_left
              ·show Act.put _ (some 13) _ = _
               simp only [Act.put, sA_, sB_, sC_, i64_w, i32_w]
               rfl
              exact norm_ (by first | (simp only [putAll, Act.put, sA_, sB_, sC_]; done) | (simp only [putAll, Act.put, sA_, sB_, sC_]; rfl)) (hj9 (_, gb226) _ ⟨hHeld, HO216.out, K1.out, K2.out, K3.out, GW226.out, GE226.out, N13.out, N31.out, N23.out, N32.out, (by first | exact HB.out | exact wN_ HB.out _)⟩)
            ·skip
             rintro v215 w13 ⟨hS_, h0_, h1_, h2_, h3_⟩
             have n0_ : Aside0 (Kd.R Kd.string 9 w13 w.heap.size (fun _ => True) v215 t214) := ⟨h0_⟩
             have n1_ : Aside0 (w13.heap[gb212]? = some (.cells #[.int .i64 a0_0, .int .i64 a0_1, .int .i64 a0_2, .int .i64 a0_3, .slice A0_4 l0_4.length c0_4, .slice A0_5 l0_5.length c0_5, .slice A0_6 l0_6.length c0_6, .int .i64 a0_7] 24 (0, 0))) := ⟨h1_⟩
             have n2_ : Aside0 (w13.heap[gb213]? = some (.cells zT_ 29 (0, 0))) := ⟨h2_⟩
             have n3_ : Aside0 (Below w.heap.size w w13) := ⟨h3_⟩
             clear K1 K2 HB h0_ h1_ h2_ h3_
             have HO216 := n0_; have K1 := n1_; have K2 := n2_; have HB := n3_
             clear n0_ n1_ n2_ n3_
             have hHeld : SS_ gb212 a0_0 a0_1 a0_2 a0_3 A0_4 l0_4 c0_4 A0_5 l0_5 c0_5 A0_6 l0_6 c0_6 a0_7 w13 := hS_
             obtain ⟨Ao14, co14, eo14⟩ := Kd.R_slice HO216.out
             (first | subst eo14 | (injection eo14 with f1_ f2_ f3_; have f4_ := f1_.symm; have f5_ := f3_.symm; clear f1_ f2_ f3_; subst f4_; subst f5_))
             refine norm_ (a' := ?_) ?_ ?_
             rotate_left
             ·simp only [putAll, Act.put, sA_, sB_, sC_]
              rfl
             refine two_ (i := 3) (j := 13) (Ni := some 16) (Nj := some 3) #[true, true, true, true, false, true, true, false, false, true, true, false, false, false, false] #[true, true, true, false, false, true, true, false, false, true, true, false, false, true, false] rfl rfl rfl rfl (two_of HT_.out (by kernel_rfl)) (by decide) (by decide) (fun K hK => ?_) (fun K hK => ?_)
             ·skip
              refine goes_ Tryz.func32 (by kernel_rfl) rfl #[.slice Ao14 t214.length co14, .int .i64 a0_0] (by rfl) rfl rfl (by (try simp only [List.map_toArray, List.map_cons, List.map_nil]); first | done | rfl | (simp only [List.length_drop, List.length_take]; rfl)) ?_
              with_reducible refine (isoglossref06_Pick.calls _ _ t214 a0_0 t217 _ ?side1 ?side2 A3.out).mono ?_
              (case side1 => repeat (first | exact (Kd.R_reads' HO216.out).2.2 | (with_reducible refine Kd.C_alloc ?_ _) | (with_reducible refine Kd.C_drewN ?_ _) | (with_reducible refine Kd.C_drew ?_)))
              (case side2 => exact (Kd.R_reads' HO216.out).2.1)
              rintro e w' ⟨rfl, ⟨nd, rfl⟩⟩
              refine ⟨_, rfl, ?_⟩
              refine hK.out _ _ ⟨(bC_ K1.out 0).trans rfl, (bC_ K1.out 1).trans rfl, (bC_ K1.out 2).trans rfl, (bC_ K1.out 3).trans rfl, (bC_ K1.out 4).trans rfl, (bC_ K1.out 5).trans rfl, (bC_ K1.out 6).trans rfl, (bC_ K1.out 7).trans rfl⟩ (fun hHeld => ?_)
              clear hK K
              refine norm_ (a' := ?_) ?_ ?_
              rotate_left
              ·show Act.put _ (some 16) _ = _
               simp only [Act.put, sA_, sB_, sC_, i64_w, i32_w]
               rfl
              exact norm_ (by first | (simp only [putAll, Act.put, sA_, sB_, sC_]; done) | (simp only [putAll, Act.put, sA_, sB_, sC_]; rfl)) (hj10 (.slice Ao14 t214.length co14) _ ⟨hHeld, HO216.out, K1.out, K2.out, (by first | exact HB.out | exact wN_ HB.out _)⟩)
             ·skip
              refine box_step ?hg (N := 3) ?hd (cs := #[.string (⟨#[]⟩ : ByteArray), .slice none 0 0, .string (⟨#[]⟩ : ByteArray), .string (⟨#[]⟩ : ByteArray), .slice none 0 0, .slice none 0 0, .slice none 0 0, .string (⟨#[]⟩ : ByteArray)]) (t := 29) ?hr ?_; (case hd => rfl); (case hg => rfl); (case hr => first | (go_simp; done) | (go_simp; rfl))
              intro gb226 hg w14 hbox hb
              have n0_ := Aside0.mk (Kd.R_below HO216.out hb)
              have n1_ := Aside0.mk (blk_below (g := gb212) K1.out hb)
              have n2_ := Aside0.mk (blk_below (g := gb213) K2.out hb)
              have n3_ := Aside0.mk (below_step HB.out hb)
              have n4_ := Aside0.mk (hbox)
              have n5_ := Aside0.mk ((by rw [hg]; exact (below_size HB.out) : _ ≤ gb226))
              have n6_ := Aside0.mk ((by rw [hg]; exact (below_size HB.out) : _ ≤ gb226))
              have n7_ := Aside0.mk ((by rw [hg]; exact Nat.ne_of_lt (blk_lt (g := gb212) K1.out) : gb212 ≠ gb226))
              have n8_ := Aside0.mk ((by rw [hg]; exact Nat.ne_of_gt (blk_lt (g := gb212) K1.out) : gb226 ≠ gb212))
              have n9_ := Aside0.mk ((by rw [hg]; exact Nat.ne_of_lt (blk_lt (g := gb213) K2.out) : gb213 ≠ gb226))
              have n10_ := Aside0.mk ((by rw [hg]; exact Nat.ne_of_gt (blk_lt (g := gb213) K2.out) : gb226 ≠ gb213))
              clear HO216 K1 K2 HB
              have HO216 := n0_; have K1 := n1_; have K2 := n2_; have HB := n3_; have K3 := n4_; have GW226 := n5_; have GE226 := n6_; have N13 := n7_; have N31 := n8_; have N23 := n9_; have N32 := n10_
              clear n0_ n1_ n2_ n3_ n4_ n5_ n6_ n7_ n8_ n9_ n10_ hb hbox hg
              refine hK.out _ _ ⟨(bC_ K1.out 0).trans rfl, (bC_ K1.out 1).trans rfl, (bC_ K1.out 2).trans rfl, (bC_ K1.out 3).trans rfl, (bC_ K1.out 4).trans rfl, (bC_ K1.out 5).trans rfl, (bC_ K1.out 6).trans rfl, (bC_ K1.out 7).trans rfl⟩ (fun hHeld => ?_)
              clear hK K
              refine norm_ (a' := ?_) ?_ ?_
              rotate_left
              ·show Act.put _ (some 3) _ = _
               simp only [Act.put, sA_, sB_, sC_, i64_w, i32_w]
               rfl
              exact norm_ (by first | (simp only [putAll, Act.put, sA_, sB_, sC_]; done) | (simp only [putAll, Act.put, sA_, sB_, sC_]; rfl)) (hj9 (_, gb226) _ ⟨hHeld, HO216.out, K1.out, K2.out, K3.out, GW226.out, GE226.out, N13.out, N31.out, N23.out, N32.out, (by first | exact HB.out | exact wN_ HB.out _)⟩)
           ·skip
            rintro ⟨v215, gb226⟩ w14 ⟨hS_, h0_, h1_, h2_, h3_, h4_, h5_, h6_, h7_, h8_, h9_, h10_⟩
            have n0_ : Aside0 (Kd.R Kd.string 9 w14 w.heap.size (fun _ => True) v215 t214) := ⟨h0_⟩
            have n1_ : Aside0 (w14.heap[gb212]? = some (.cells #[.int .i64 a0_0, .int .i64 a0_1, .int .i64 a0_2, .int .i64 a0_3, .slice A0_4 l0_4.length c0_4, .slice A0_5 l0_5.length c0_5, .slice A0_6 l0_6.length c0_6, .int .i64 a0_7] 24 (0, 0))) := ⟨h1_⟩
            have n2_ : Aside0 (w14.heap[gb213]? = some (.cells zT_ 29 (0, 0))) := ⟨h2_⟩
            have n3_ : Aside0 (w14.heap[gb226]? = some (.cells zT_ 29 (0, 0))) := ⟨h3_⟩
            have n4_ : Aside0 (w.heap.size ≤ gb226) := ⟨h4_⟩
            have n5_ : Aside0 (w.heap.size ≤ gb226) := ⟨h5_⟩
            have n6_ : Aside0 (gb212 ≠ gb226) := ⟨h6_⟩
            have n7_ : Aside0 (gb226 ≠ gb212) := ⟨h7_⟩
            have n8_ : Aside0 (gb213 ≠ gb226) := ⟨h8_⟩
            have n9_ : Aside0 (gb226 ≠ gb213) := ⟨h9_⟩
            have n10_ : Aside0 (Below w.heap.size w w14) := ⟨h10_⟩
            clear K1 K2 HB h0_ h1_ h2_ h3_ h4_ h5_ h6_ h7_ h8_ h9_ h10_
            have HO216 := n0_; have K1 := n1_; have K2 := n2_; have K3 := n3_; have GW226 := n4_; have GE226 := n5_; have N13 := n6_; have N31 := n7_; have N23 := n8_; have N32 := n9_; have HB := n10_
            clear n0_ n1_ n2_ n3_ n4_ n5_ n6_ n7_ n8_ n9_ n10_
            have hHeld : SS_ gb212 a0_0 a0_1 a0_2 a0_3 A0_4 l0_4 c0_4 A0_5 l0_5 c0_5 A0_6 l0_6 c0_6 a0_7 w14 := hS_
            obtain ⟨Ao15, co15, eo15⟩ := Kd.R_slice HO216.out
            (first | subst eo15 | (injection eo15 with f1_ f2_ f3_; have f4_ := f1_.symm; have f5_ := f3_.symm; clear f1_ f2_ f3_; subst f4_; subst f5_))
            refine norm_ (a' := ?_) ?_ ?_
            rotate_left
            ·simp only [putAll, Act.put, sA_, sB_, sC_]
             rfl
            refine one_ (i := 3) (N := some 16) #[true, true, true, true, false, true, true, false, false, true, true, false, false, true, false] rfl rfl (one_of HT_.out (by kernel_rfl)) (by decide) (fun K hK => ?_)
            refine goes_ Tryz.func32 (by kernel_rfl) rfl #[.slice Ao15 t214.length co15, .int .i64 a0_0] (by rfl) rfl rfl (by (try simp only [List.map_toArray, List.map_cons, List.map_nil]); first | done | rfl | (simp only [List.length_drop, List.length_take]; rfl)) ?_
            with_reducible refine (isoglossref06_Pick.calls _ _ t214 a0_0 t217 _ ?side1 ?side2 A3.out).mono ?_
            (case side1 => repeat (first | exact (Kd.R_reads' HO216.out).2.2 | (with_reducible refine Kd.C_alloc ?_ _) | (with_reducible refine Kd.C_drewN ?_ _) | (with_reducible refine Kd.C_drew ?_)))
            (case side2 => exact (Kd.R_reads' HO216.out).2.1)
            rintro e w' ⟨rfl, ⟨nd, rfl⟩⟩
            refine ⟨_, rfl, ?_⟩
            refine hK.out _ _ ⟨(bC_ K1.out 0).trans rfl, (bC_ K1.out 1).trans rfl, (bC_ K1.out 2).trans rfl, (bC_ K1.out 3).trans rfl, (bC_ K1.out 4).trans rfl, (bC_ K1.out 5).trans rfl, (bC_ K1.out 6).trans rfl, (bC_ K1.out 7).trans rfl⟩ (fun hHeld => ?_)
            clear hK K
            refine norm_ (a' := ?_) ?_ ?_
            rotate_left
            ·show Act.put _ (some 16) _ = _
             simp only [Act.put, sA_, sB_, sC_, i64_w, i32_w]
             rfl
            exact norm_ (by first | (simp only [putAll, Act.put, sA_, sB_, sC_]; done) | (simp only [putAll, Act.put, sA_, sB_, sC_]; rfl)) (hj7 (.slice Ao15 t214.length co15, gb226) _ ⟨hHeld, HO216.out, K1.out, K2.out, K3.out, GW226.out, GE226.out, N13.out, N31.out, N23.out, N32.out, (by first | exact HB.out | exact wN_ HB.out _)⟩)
          ·skip
           rintro v215 w14 ⟨hS_, h0_, h1_, h2_, h3_⟩
           have n0_ : Aside0 (Kd.R Kd.string 9 w14 w.heap.size (fun _ => True) v215 t214) := ⟨h0_⟩
           have n1_ : Aside0 (w14.heap[gb212]? = some (.cells #[.int .i64 a0_0, .int .i64 a0_1, .int .i64 a0_2, .int .i64 a0_3, .slice A0_4 l0_4.length c0_4, .slice A0_5 l0_5.length c0_5, .slice A0_6 l0_6.length c0_6, .int .i64 a0_7] 24 (0, 0))) := ⟨h1_⟩
           have n2_ : Aside0 (w14.heap[gb213]? = some (.cells zT_ 29 (0, 0))) := ⟨h2_⟩
           have n3_ : Aside0 (Below w.heap.size w w14) := ⟨h3_⟩
           clear K1 K2 HB h0_ h1_ h2_ h3_
           have HO216 := n0_; have K1 := n1_; have K2 := n2_; have HB := n3_
           clear n0_ n1_ n2_ n3_
           have hHeld : SS_ gb212 a0_0 a0_1 a0_2 a0_3 A0_4 l0_4 c0_4 A0_5 l0_5 c0_5 A0_6 l0_6 c0_6 a0_7 w14 := hS_
           refine norm_ (a' := ?_) ?_ ?_
           rotate_left
           ·simp only [putAll, Act.put, sA_, sB_, sC_]
            rfl
           refine two_ (i := 4) (j := 13) (Ni := some 17) (Nj := some 3) #[true, true, true, true, true, true, true, false, false, true, true, false, false, false, false] #[true, true, true, true, false, true, true, false, false, true, true, false, false, true, false] rfl rfl rfl rfl (two_of HT_.out (by kernel_rfl)) (by decide) (by decide) (fun K hK => ?_) (fun K hK => ?_)
           ·skip
            refine goes_ Tryz.func34 (by kernel_rfl) rfl #[] (by rfl) rfl rfl (by (try simp only [List.map_toArray, List.map_cons, List.map_nil]); first | done | rfl | (simp only [List.length_drop, List.length_take]; rfl)) ?_
            with_reducible refine (isoglossref06_scripts.calls  t218 _ A4.out).mono ?_
            rintro e w15 ⟨v219, rfl, ho0, hb⟩
            refine ⟨_, rfl, ?_⟩
            have n0_ := Aside0.mk (Kd.R_elder' HO216.out (Kd.R_base ho0) hb)
            have n1_ := Aside0.mk (Kd.R_lower (Kd.R_new' ho0 (Kd.R_lt HO216.out)) (below_size HB.out))
            have n2_ := Aside0.mk (blk_below (g := gb212) K1.out hb)
            have n3_ := Aside0.mk (blk_below (g := gb213) K2.out hb)
            have n4_ := Aside0.mk (below_step HB.out hb)
            clear HO216 K1 K2 HB
            have HO216 := n0_; have HO220 := n1_; have K1 := n2_; have K2 := n3_; have HB := n4_
            clear n0_ n1_ n2_ n3_ n4_
            (try clear hb); (try clear hb2); (try clear hk); (try clear hi); (try clear ho0)
            refine hK.out _ _ ⟨(bC_ K1.out 0).trans rfl, (bC_ K1.out 1).trans rfl, (bC_ K1.out 2).trans rfl, (bC_ K1.out 3).trans rfl, (bC_ K1.out 4).trans rfl, (bC_ K1.out 5).trans rfl, (bC_ K1.out 6).trans rfl, (bC_ K1.out 7).trans rfl⟩ (fun hHeld => ?_)
            clear hK K
            refine norm_ (a' := ?_) ?_ ?_
            rotate_left
            ·show Act.put _ (some 17) _ = _
             simp only [Act.put, sA_, sB_, sC_, i64_w, i32_w]
             rfl
            exact norm_ (by first | (simp only [putAll, Act.put, sA_, sB_, sC_]; done) | (simp only [putAll, Act.put, sA_, sB_, sC_]; rfl)) (hj8 (v215, v219) _ ⟨hHeld, (by (with_reducible repeat (first | apply rA_ | apply rN_ | apply rD_)); exact Kd.R_mono HO216.out (fun _ hk => hk.2)), (by (with_reducible repeat (first | apply rA_ | apply rN_ | apply rD_)); exact Kd.R_mono HO220.out (fun _ hk => hk.2)), K1.out, K2.out, (by first | exact HB.out | exact wN_ HB.out _)⟩)
           ·skip
            refine box_step ?hg (N := 3) ?hd (cs := #[.string (⟨#[]⟩ : ByteArray), .slice none 0 0, .string (⟨#[]⟩ : ByteArray), .string (⟨#[]⟩ : ByteArray), .slice none 0 0, .slice none 0 0, .slice none 0 0, .string (⟨#[]⟩ : ByteArray)]) (t := 29) ?hr ?_; (case hd => rfl); (case hg => rfl); (case hr => first | (go_simp; done) | (go_simp; rfl))
            intro gb226 hg w15 hbox hb
            have n0_ := Aside0.mk (Kd.R_below HO216.out hb)
            have n1_ := Aside0.mk (blk_below (g := gb212) K1.out hb)
            have n2_ := Aside0.mk (blk_below (g := gb213) K2.out hb)
            have n3_ := Aside0.mk (below_step HB.out hb)
            have n4_ := Aside0.mk (hbox)
            have n5_ := Aside0.mk ((by rw [hg]; exact (below_size HB.out) : _ ≤ gb226))
            have n6_ := Aside0.mk ((by rw [hg]; exact (below_size HB.out) : _ ≤ gb226))
            have n7_ := Aside0.mk ((by rw [hg]; exact Nat.ne_of_lt (blk_lt (g := gb212) K1.out) : gb212 ≠ gb226))
            have n8_ := Aside0.mk ((by rw [hg]; exact Nat.ne_of_gt (blk_lt (g := gb212) K1.out) : gb226 ≠ gb212))
            have n9_ := Aside0.mk ((by rw [hg]; exact Nat.ne_of_lt (blk_lt (g := gb213) K2.out) : gb213 ≠ gb226))
            have n10_ := Aside0.mk ((by rw [hg]; exact Nat.ne_of_gt (blk_lt (g := gb213) K2.out) : gb226 ≠ gb213))
            clear HO216 K1 K2 HB
            have HO216 := n0_; have K1 := n1_; have K2 := n2_; have HB := n3_; have K3 := n4_; have GW226 := n5_; have GE226 := n6_; have N13 := n7_; have N31 := n8_; have N23 := n9_; have N32 := n10_
            clear n0_ n1_ n2_ n3_ n4_ n5_ n6_ n7_ n8_ n9_ n10_ hb hbox hg
            refine hK.out _ _ ⟨(bC_ K1.out 0).trans rfl, (bC_ K1.out 1).trans rfl, (bC_ K1.out 2).trans rfl, (bC_ K1.out 3).trans rfl, (bC_ K1.out 4).trans rfl, (bC_ K1.out 5).trans rfl, (bC_ K1.out 6).trans rfl, (bC_ K1.out 7).trans rfl⟩ (fun hHeld => ?_)
            clear hK K
            refine norm_ (a' := ?_) ?_ ?_
            rotate_left
            ·show Act.put _ (some 3) _ = _
             simp only [Act.put, sA_, sB_, sC_, i64_w, i32_w]
             rfl
            exact norm_ (by first | (simp only [putAll, Act.put, sA_, sB_, sC_]; done) | (simp only [putAll, Act.put, sA_, sB_, sC_]; rfl)) (hj7 (_, gb226) _ ⟨hHeld, HO216.out, K1.out, K2.out, K3.out, GW226.out, GE226.out, N13.out, N31.out, N23.out, N32.out, (by first | exact HB.out | exact wN_ HB.out _)⟩)
         ·skip
          rintro ⟨v215, gb226⟩ w15 ⟨hS_, h0_, h1_, h2_, h3_, h4_, h5_, h6_, h7_, h8_, h9_, h10_⟩
          have n0_ : Aside0 (Kd.R Kd.string 9 w15 w.heap.size (fun _ => True) v215 t214) := ⟨h0_⟩
          have n1_ : Aside0 (w15.heap[gb212]? = some (.cells #[.int .i64 a0_0, .int .i64 a0_1, .int .i64 a0_2, .int .i64 a0_3, .slice A0_4 l0_4.length c0_4, .slice A0_5 l0_5.length c0_5, .slice A0_6 l0_6.length c0_6, .int .i64 a0_7] 24 (0, 0))) := ⟨h1_⟩
          have n2_ : Aside0 (w15.heap[gb213]? = some (.cells zT_ 29 (0, 0))) := ⟨h2_⟩
          have n3_ : Aside0 (w15.heap[gb226]? = some (.cells zT_ 29 (0, 0))) := ⟨h3_⟩
          have n4_ : Aside0 (w.heap.size ≤ gb226) := ⟨h4_⟩
          have n5_ : Aside0 (w.heap.size ≤ gb226) := ⟨h5_⟩
          have n6_ : Aside0 (gb212 ≠ gb226) := ⟨h6_⟩
          have n7_ : Aside0 (gb226 ≠ gb212) := ⟨h7_⟩
          have n8_ : Aside0 (gb213 ≠ gb226) := ⟨h8_⟩
          have n9_ : Aside0 (gb226 ≠ gb213) := ⟨h9_⟩
          have n10_ : Aside0 (Below w.heap.size w w15) := ⟨h10_⟩
          clear K1 K2 HB h0_ h1_ h2_ h3_ h4_ h5_ h6_ h7_ h8_ h9_ h10_
          have HO216 := n0_; have K1 := n1_; have K2 := n2_; have K3 := n3_; have GW226 := n4_; have GE226 := n5_; have N13 := n6_; have N31 := n7_; have N23 := n8_; have N32 := n9_; have HB := n10_
          clear n0_ n1_ n2_ n3_ n4_ n5_ n6_ n7_ n8_ n9_ n10_
          have hHeld : SS_ gb212 a0_0 a0_1 a0_2 a0_3 A0_4 l0_4 c0_4 A0_5 l0_5 c0_5 A0_6 l0_6 c0_6 a0_7 w15 := hS_
          refine norm_ (a' := ?_) ?_ ?_
          rotate_left
          ·simp only [putAll, Act.put, sA_, sB_, sC_]
           rfl
          refine one_ (i := 4) (N := some 17) #[true, true, true, true, true, true, true, false, false, true, true, false, false, true, false] rfl rfl (one_of HT_.out (by kernel_rfl)) (by decide) (fun K hK => ?_)
          refine goes_ Tryz.func34 (by kernel_rfl) rfl #[] (by rfl) rfl rfl (by (try simp only [List.map_toArray, List.map_cons, List.map_nil]); first | done | rfl | (simp only [List.length_drop, List.length_take]; rfl)) ?_
          with_reducible refine (isoglossref06_scripts.calls  t218 _ A4.out).mono ?_
          rintro e w16 ⟨v219, rfl, ho0, hb⟩
          refine ⟨_, rfl, ?_⟩
          have n0_ := Aside0.mk (Kd.R_elder' HO216.out (Kd.R_base ho0) hb)
          have n1_ := Aside0.mk (Kd.R_lower (Kd.R_new' ho0 (Kd.R_lt HO216.out)) (below_size HB.out))
          have n2_ := Aside0.mk (blk_below (g := gb212) K1.out hb)
          have n3_ := Aside0.mk (blk_below (g := gb213) K2.out hb)
          have n4_ := Aside0.mk (blk_below (g := gb226) K3.out hb)
          have n5_ := Aside0.mk (below_step HB.out hb)
          clear HO216 K1 K2 K3 HB
          have HO216 := n0_; have HO220 := n1_; have K1 := n2_; have K2 := n3_; have K3 := n4_; have HB := n5_
          clear n0_ n1_ n2_ n3_ n4_ n5_
          (try clear hb); (try clear hb2); (try clear hk); (try clear hi); (try clear ho0)
          refine hK.out _ _ ⟨(bC_ K1.out 0).trans rfl, (bC_ K1.out 1).trans rfl, (bC_ K1.out 2).trans rfl, (bC_ K1.out 3).trans rfl, (bC_ K1.out 4).trans rfl, (bC_ K1.out 5).trans rfl, (bC_ K1.out 6).trans rfl, (bC_ K1.out 7).trans rfl⟩ (fun hHeld => ?_)
          clear hK K
          refine norm_ (a' := ?_) ?_ ?_
          rotate_left
          ·show Act.put _ (some 17) _ = _
           simp only [Act.put, sA_, sB_, sC_, i64_w, i32_w]
           rfl
          exact norm_ (by first | (simp only [putAll, Act.put, sA_, sB_, sC_]; done) | (simp only [putAll, Act.put, sA_, sB_, sC_]; rfl)) (hj5 (v215, _, gb226) _ ⟨hHeld, (by (with_reducible repeat (first | apply rA_ | apply rN_ | apply rD_)); exact Kd.R_mono HO216.out (fun _ hk => hk.2)), (by (with_reducible repeat (first | apply rA_ | apply rN_ | apply rD_)); exact Kd.R_mono HO220.out (fun _ hk => hk.2)), K1.out, K2.out, K3.out, GW226.out, GE226.out, N13.out, N31.out, N23.out, N32.out, (by first | exact HB.out | exact wN_ HB.out _)⟩)
        ·skip
         rintro ⟨v215, v219⟩ w15 ⟨hS_, h0_, h1_, h2_, h3_, h4_⟩
         have n0_ : Aside0 (Kd.R Kd.string 9 w15 w.heap.size (fun k_ => some k_ ≠ (v219 : Value).ownBlock) v215 t214) := ⟨h0_⟩
         have n1_ : Aside0 (Kd.R Kd.string 9 w15 w.heap.size (fun k_ => some k_ ≠ (v215 : Value).ownBlock) v219 t218) := ⟨h1_⟩
         have n2_ : Aside0 (w15.heap[gb212]? = some (.cells #[.int .i64 a0_0, .int .i64 a0_1, .int .i64 a0_2, .int .i64 a0_3, .slice A0_4 l0_4.length c0_4, .slice A0_5 l0_5.length c0_5, .slice A0_6 l0_6.length c0_6, .int .i64 a0_7] 24 (0, 0))) := ⟨h2_⟩
         have n3_ : Aside0 (w15.heap[gb213]? = some (.cells zT_ 29 (0, 0))) := ⟨h3_⟩
         have n4_ : Aside0 (Below w.heap.size w w15) := ⟨h4_⟩
         clear K1 K2 HB h0_ h1_ h2_ h3_ h4_
         have HO216 := n0_; have HO220 := n1_; have K1 := n2_; have K2 := n3_; have HB := n4_
         clear n0_ n1_ n2_ n3_ n4_
         have hHeld : SS_ gb212 a0_0 a0_1 a0_2 a0_3 A0_4 l0_4 c0_4 A0_5 l0_5 c0_5 A0_6 l0_6 c0_6 a0_7 w15 := hS_
         obtain ⟨Ao16, co16, eo16⟩ := Kd.R_slice HO220.out
         (first | subst eo16 | (injection eo16 with f1_ f2_ f3_; have f4_ := f1_.symm; have f5_ := f3_.symm; clear f1_ f2_ f3_; subst f4_; subst f5_))
         refine norm_ (a' := ?_) ?_ ?_
         rotate_left
         ·simp only [putAll, Act.put, sA_, sB_, sC_]
          rfl
         refine two_ (i := 7) (j := 13) (Ni := some 20) (Nj := some 3) #[true, true, true, true, true, true, true, true, false, true, true, false, false, false, false] #[true, true, true, true, true, true, true, false, false, true, true, false, false, true, false] rfl rfl rfl rfl (two_of HT_.out (by kernel_rfl)) (by decide) (by decide) (fun K hK => ?_) (fun K hK => ?_)
         ·skip
          refine goes_ Tryz.func32 (by kernel_rfl) rfl #[.slice Ao16 t218.length co16, .int .i64 a0_2] (by rfl) rfl rfl (by (try simp only [List.map_toArray, List.map_cons, List.map_nil]); first | done | rfl | (simp only [List.length_drop, List.length_take]; rfl)) ?_
          with_reducible refine (isoglossref06_Pick.calls _ _ t218 a0_2 t221 _ ?side1 ?side2 A5.out).mono ?_
          (case side1 => repeat (first | exact (Kd.R_reads' HO220.out).2.2 | (with_reducible refine Kd.C_alloc ?_ _) | (with_reducible refine Kd.C_drewN ?_ _) | (with_reducible refine Kd.C_drew ?_)))
          (case side2 => exact (Kd.R_reads' HO220.out).2.1)
          rintro e w' ⟨rfl, ⟨nd, rfl⟩⟩
          refine ⟨_, rfl, ?_⟩
          refine hK.out _ _ ⟨(bC_ K1.out 0).trans rfl, (bC_ K1.out 1).trans rfl, (bC_ K1.out 2).trans rfl, (bC_ K1.out 3).trans rfl, (bC_ K1.out 4).trans rfl, (bC_ K1.out 5).trans rfl, (bC_ K1.out 6).trans rfl, (bC_ K1.out 7).trans rfl⟩ (fun hHeld => ?_)
          clear hK K
          refine norm_ (a' := ?_) ?_ ?_
          rotate_left
          ·show Act.put _ (some 20) _ = _
           simp only [Act.put, sA_, sB_, sC_, i64_w, i32_w]
           rfl
          exact norm_ (by first | (simp only [putAll, Act.put, sA_, sB_, sC_]; done) | (simp only [putAll, Act.put, sA_, sB_, sC_]; rfl)) (hj6 (v215, .slice Ao16 t218.length co16) _ ⟨hHeld, HO216.out, HO220.out, K1.out, K2.out, (by first | exact HB.out | exact wN_ HB.out _)⟩)
         ·skip
          refine box_step ?hg (N := 3) ?hd (cs := #[.string (⟨#[]⟩ : ByteArray), .slice none 0 0, .string (⟨#[]⟩ : ByteArray), .string (⟨#[]⟩ : ByteArray), .slice none 0 0, .slice none 0 0, .slice none 0 0, .string (⟨#[]⟩ : ByteArray)]) (t := 29) ?hr ?_; (case hd => rfl); (case hg => rfl); (case hr => first | (go_simp; done) | (go_simp; rfl))
          intro gb226 hg w16 hbox hb
          have n0_ := Aside0.mk (Kd.R_below HO216.out hb)
          have n1_ := Aside0.mk (Kd.R_below HO220.out hb)
          have n2_ := Aside0.mk (blk_below (g := gb212) K1.out hb)
          have n3_ := Aside0.mk (blk_below (g := gb213) K2.out hb)
          have n4_ := Aside0.mk (below_step HB.out hb)
          have n5_ := Aside0.mk (hbox)
          have n6_ := Aside0.mk ((by rw [hg]; exact (below_size HB.out) : _ ≤ gb226))
          have n7_ := Aside0.mk ((by rw [hg]; exact (below_size HB.out) : _ ≤ gb226))
          have n8_ := Aside0.mk ((by rw [hg]; exact Nat.ne_of_lt (blk_lt (g := gb212) K1.out) : gb212 ≠ gb226))
          have n9_ := Aside0.mk ((by rw [hg]; exact Nat.ne_of_gt (blk_lt (g := gb212) K1.out) : gb226 ≠ gb212))
          have n10_ := Aside0.mk ((by rw [hg]; exact Nat.ne_of_lt (blk_lt (g := gb213) K2.out) : gb213 ≠ gb226))
          have n11_ := Aside0.mk ((by rw [hg]; exact Nat.ne_of_gt (blk_lt (g := gb213) K2.out) : gb226 ≠ gb213))
          clear HO216 HO220 K1 K2 HB
          have HO216 := n0_; have HO220 := n1_; have K1 := n2_; have K2 := n3_; have HB := n4_; have K3 := n5_; have GW226 := n6_; have GE226 := n7_; have N13 := n8_; have N31 := n9_; have N23 := n10_; have N32 := n11_
          clear n0_ n1_ n2_ n3_ n4_ n5_ n6_ n7_ n8_ n9_ n10_ n11_ hb hbox hg
          refine hK.out _ _ ⟨(bC_ K1.out 0).trans rfl, (bC_ K1.out 1).trans rfl, (bC_ K1.out 2).trans rfl, (bC_ K1.out 3).trans rfl, (bC_ K1.out 4).trans rfl, (bC_ K1.out 5).trans rfl, (bC_ K1.out 6).trans rfl, (bC_ K1.out 7).trans rfl⟩ (fun hHeld => ?_)
          clear hK K
          refine norm_ (a' := ?_) ?_ ?_
          rotate_left
          ·show Act.put _ (some 3) _ = _
           simp only [Act.put, sA_, sB_, sC_, i64_w, i32_w]
           rfl
          exact norm_ (by first | (simp only [putAll, Act.put, sA_, sB_, sC_]; done) | (simp only [putAll, Act.put, sA_, sB_, sC_]; rfl)) (hj5 (v215, _, gb226) _ ⟨hHeld, HO216.out, HO220.out, K1.out, K2.out, K3.out, GW226.out, GE226.out, N13.out, N31.out, N23.out, N32.out, (by first | exact HB.out | exact wN_ HB.out _)⟩)
       ·skip
        rintro ⟨v215, v219, gb226⟩ w16 ⟨hS_, h0_, h1_, h2_, h3_, h4_, h5_, h6_, h7_, h8_, h9_, h10_, h11_⟩
        have n0_ : Aside0 (Kd.R Kd.string 9 w16 w.heap.size (fun k_ => some k_ ≠ (v219 : Value).ownBlock) v215 t214) := ⟨h0_⟩
        have n1_ : Aside0 (Kd.R Kd.string 9 w16 w.heap.size (fun k_ => some k_ ≠ (v215 : Value).ownBlock) v219 t218) := ⟨h1_⟩
        have n2_ : Aside0 (w16.heap[gb212]? = some (.cells #[.int .i64 a0_0, .int .i64 a0_1, .int .i64 a0_2, .int .i64 a0_3, .slice A0_4 l0_4.length c0_4, .slice A0_5 l0_5.length c0_5, .slice A0_6 l0_6.length c0_6, .int .i64 a0_7] 24 (0, 0))) := ⟨h2_⟩
        have n3_ : Aside0 (w16.heap[gb213]? = some (.cells zT_ 29 (0, 0))) := ⟨h3_⟩
        have n4_ : Aside0 (w16.heap[gb226]? = some (.cells zT_ 29 (0, 0))) := ⟨h4_⟩
        have n5_ : Aside0 (w.heap.size ≤ gb226) := ⟨h5_⟩
        have n6_ : Aside0 (w.heap.size ≤ gb226) := ⟨h6_⟩
        have n7_ : Aside0 (gb212 ≠ gb226) := ⟨h7_⟩
        have n8_ : Aside0 (gb226 ≠ gb212) := ⟨h8_⟩
        have n9_ : Aside0 (gb213 ≠ gb226) := ⟨h9_⟩
        have n10_ : Aside0 (gb226 ≠ gb213) := ⟨h10_⟩
        have n11_ : Aside0 (Below w.heap.size w w16) := ⟨h11_⟩
        clear K1 K2 HB h0_ h1_ h2_ h3_ h4_ h5_ h6_ h7_ h8_ h9_ h10_ h11_
        have HO216 := n0_; have HO220 := n1_; have K1 := n2_; have K2 := n3_; have K3 := n4_; have GW226 := n5_; have GE226 := n6_; have N13 := n7_; have N31 := n8_; have N23 := n9_; have N32 := n10_; have HB := n11_
        clear n0_ n1_ n2_ n3_ n4_ n5_ n6_ n7_ n8_ n9_ n10_ n11_
        have hHeld : SS_ gb212 a0_0 a0_1 a0_2 a0_3 A0_4 l0_4 c0_4 A0_5 l0_5 c0_5 A0_6 l0_6 c0_6 a0_7 w16 := hS_
        obtain ⟨Ao17, co17, eo17⟩ := Kd.R_slice HO220.out
        (first | subst eo17 | (injection eo17 with f1_ f2_ f3_; have f4_ := f1_.symm; have f5_ := f3_.symm; clear f1_ f2_ f3_; subst f4_; subst f5_))
        refine norm_ (a' := ?_) ?_ ?_
        rotate_left
        ·simp only [putAll, Act.put, sA_, sB_, sC_]
         rfl
        refine one_ (i := 7) (N := some 20) #[true, true, true, true, true, true, true, true, false, true, true, false, false, true, false] rfl rfl (one_of HT_.out (by kernel_rfl)) (by decide) (fun K hK => ?_)
        refine goes_ Tryz.func32 (by kernel_rfl) rfl #[.slice Ao17 t218.length co17, .int .i64 a0_2] (by rfl) rfl rfl (by (try simp only [List.map_toArray, List.map_cons, List.map_nil]); first | done | rfl | (simp only [List.length_drop, List.length_take]; rfl)) ?_
        with_reducible refine (isoglossref06_Pick.calls _ _ t218 a0_2 t221 _ ?side1 ?side2 A5.out).mono ?_
        (case side1 => repeat (first | exact (Kd.R_reads' HO220.out).2.2 | (with_reducible refine Kd.C_alloc ?_ _) | (with_reducible refine Kd.C_drewN ?_ _) | (with_reducible refine Kd.C_drew ?_)))
        (case side2 => exact (Kd.R_reads' HO220.out).2.1)
        rintro e w' ⟨rfl, ⟨nd, rfl⟩⟩
        refine ⟨_, rfl, ?_⟩
        refine hK.out _ _ ⟨(bC_ K1.out 0).trans rfl, (bC_ K1.out 1).trans rfl, (bC_ K1.out 2).trans rfl, (bC_ K1.out 3).trans rfl, (bC_ K1.out 4).trans rfl, (bC_ K1.out 5).trans rfl, (bC_ K1.out 6).trans rfl, (bC_ K1.out 7).trans rfl⟩ (fun hHeld => ?_)
        clear hK K
        refine norm_ (a' := ?_) ?_ ?_
        rotate_left
        ·show Act.put _ (some 20) _ = _
         simp only [Act.put, sA_, sB_, sC_, i64_w, i32_w]
         rfl
        exact norm_ (by first | (simp only [putAll, Act.put, sA_, sB_, sC_]; done) | (simp only [putAll, Act.put, sA_, sB_, sC_]; rfl)) (hj3 (v215, .slice Ao17 t218.length co17, gb226) _ ⟨hHeld, HO216.out, HO220.out, K1.out, K2.out, K3.out, GW226.out, GE226.out, N13.out, N31.out, N23.out, N32.out, (by first | exact HB.out | exact wN_ HB.out _)⟩)
      ·skip
       rintro ⟨v215, v219⟩ w16 ⟨hS_, h0_, h1_, h2_, h3_, h4_⟩
       have n0_ : Aside0 (Kd.R Kd.string 9 w16 w.heap.size (fun k_ => some k_ ≠ (v219 : Value).ownBlock) v215 t214) := ⟨h0_⟩
       have n1_ : Aside0 (Kd.R Kd.string 9 w16 w.heap.size (fun k_ => some k_ ≠ (v215 : Value).ownBlock) v219 t218) := ⟨h1_⟩
       have n2_ : Aside0 (w16.heap[gb212]? = some (.cells #[.int .i64 a0_0, .int .i64 a0_1, .int .i64 a0_2, .int .i64 a0_3, .slice A0_4 l0_4.length c0_4, .slice A0_5 l0_5.length c0_5, .slice A0_6 l0_6.length c0_6, .int .i64 a0_7] 24 (0, 0))) := ⟨h2_⟩
       have n3_ : Aside0 (w16.heap[gb213]? = some (.cells zT_ 29 (0, 0))) := ⟨h3_⟩
       have n4_ : Aside0 (Below w.heap.size w w16) := ⟨h4_⟩
       clear K1 K2 HB h0_ h1_ h2_ h3_ h4_
       have HO216 := n0_; have HO220 := n1_; have K1 := n2_; have K2 := n3_; have HB := n4_
       clear n0_ n1_ n2_ n3_ n4_
       have hHeld : SS_ gb212 a0_0 a0_1 a0_2 a0_3 A0_4 l0_4 c0_4 A0_5 l0_5 c0_5 A0_6 l0_6 c0_6 a0_7 w16 := hS_
       refine norm_ (a' := ?_) ?_ ?_
       rotate_left
       ·simp only [putAll, Act.put, sA_, sB_, sC_]
        rfl
       refine two_ (i := 8) (j := 13) (Ni := some 21) (Nj := some 3) #[true, true, true, true, true, true, true, true, true, true, true, false, false, false, false] #[true, true, true, true, true, true, true, true, false, true, true, false, false, true, false] rfl rfl rfl rfl (two_of HT_.out (by kernel_rfl)) (by decide) (by decide) (fun K hK => ?_) (fun K hK => ?_)
       ·skip
        refine goes_ Tryz.func35 (by kernel_rfl) rfl #[] (by rfl) rfl rfl (by (try simp only [List.map_toArray, List.map_cons, List.map_nil]); first | done | rfl | (simp only [List.length_drop, List.length_take]; rfl)) ?_
        with_reducible refine (isoglossref06_regions.calls  t222 _ A6.out).mono ?_
        rintro e w17 ⟨v223, rfl, ho0, hb⟩
        refine ⟨_, rfl, ?_⟩
        have n0_ := Aside0.mk (Kd.R_elder' HO216.out (Kd.R_base ho0) hb)
        have n1_ := Aside0.mk (Kd.R_elder' HO220.out (Kd.R_base ho0) hb)
        have n2_ := Aside0.mk (Kd.R_lower (Kd.R_new' (Kd.R_new' ho0 (Kd.R_lt HO216.out)) (Kd.R_lt HO220.out)) (below_size HB.out))
        have n3_ := Aside0.mk (blk_below (g := gb212) K1.out hb)
        have n4_ := Aside0.mk (blk_below (g := gb213) K2.out hb)
        have n5_ := Aside0.mk (below_step HB.out hb)
        clear HO216 HO220 K1 K2 HB
        have HO216 := n0_; have HO220 := n1_; have HO224 := n2_; have K1 := n3_; have K2 := n4_; have HB := n5_
        clear n0_ n1_ n2_ n3_ n4_ n5_
        (try clear hb); (try clear hb2); (try clear hk); (try clear hi); (try clear ho0)
        refine hK.out _ _ ⟨(bC_ K1.out 0).trans rfl, (bC_ K1.out 1).trans rfl, (bC_ K1.out 2).trans rfl, (bC_ K1.out 3).trans rfl, (bC_ K1.out 4).trans rfl, (bC_ K1.out 5).trans rfl, (bC_ K1.out 6).trans rfl, (bC_ K1.out 7).trans rfl⟩ (fun hHeld => ?_)
        clear hK K
        refine norm_ (a' := ?_) ?_ ?_
        rotate_left
        ·show Act.put _ (some 21) _ = _
         simp only [Act.put, sA_, sB_, sC_, i64_w, i32_w]
         rfl
        exact norm_ (by first | (simp only [putAll, Act.put, sA_, sB_, sC_]; done) | (simp only [putAll, Act.put, sA_, sB_, sC_]; rfl)) (hj4 (v215, v219, v223) _ ⟨hHeld, HO216.out, HO220.out, (by (with_reducible repeat (first | apply rA_ | apply rN_ | apply rD_)); exact Kd.R_mono HO224.out (fun _ hk => ⟨hk.1.2, hk.2⟩)), K1.out, K2.out, (by first | exact HB.out | exact wN_ HB.out _)⟩)
       ·skip
        refine box_step ?hg (N := 3) ?hd (cs := #[.string (⟨#[]⟩ : ByteArray), .slice none 0 0, .string (⟨#[]⟩ : ByteArray), .string (⟨#[]⟩ : ByteArray), .slice none 0 0, .slice none 0 0, .slice none 0 0, .string (⟨#[]⟩ : ByteArray)]) (t := 29) ?hr ?_; (case hd => rfl); (case hg => rfl); (case hr => first | (go_simp; done) | (go_simp; rfl))
        intro gb226 hg w17 hbox hb
        have n0_ := Aside0.mk (Kd.R_below HO216.out hb)
        have n1_ := Aside0.mk (Kd.R_below HO220.out hb)
        have n2_ := Aside0.mk (blk_below (g := gb212) K1.out hb)
        have n3_ := Aside0.mk (blk_below (g := gb213) K2.out hb)
        have n4_ := Aside0.mk (below_step HB.out hb)
        have n5_ := Aside0.mk (hbox)
        have n6_ := Aside0.mk ((by rw [hg]; exact (below_size HB.out) : _ ≤ gb226))
        have n7_ := Aside0.mk ((by rw [hg]; exact (below_size HB.out) : _ ≤ gb226))
        have n8_ := Aside0.mk ((by rw [hg]; exact Nat.ne_of_lt (blk_lt (g := gb212) K1.out) : gb212 ≠ gb226))
        have n9_ := Aside0.mk ((by rw [hg]; exact Nat.ne_of_gt (blk_lt (g := gb212) K1.out) : gb226 ≠ gb212))
        have n10_ := Aside0.mk ((by rw [hg]; exact Nat.ne_of_lt (blk_lt (g := gb213) K2.out) : gb213 ≠ gb226))
        have n11_ := Aside0.mk ((by rw [hg]; exact Nat.ne_of_gt (blk_lt (g := gb213) K2.out) : gb226 ≠ gb213))
        clear HO216 HO220 K1 K2 HB
        have HO216 := n0_; have HO220 := n1_; have K1 := n2_; have K2 := n3_; have HB := n4_; have K3 := n5_; have GW226 := n6_; have GE226 := n7_; have N13 := n8_; have N31 := n9_; have N23 := n10_; have N32 := n11_
        clear n0_ n1_ n2_ n3_ n4_ n5_ n6_ n7_ n8_ n9_ n10_ n11_ hb hbox hg
        refine hK.out _ _ ⟨(bC_ K1.out 0).trans rfl, (bC_ K1.out 1).trans rfl, (bC_ K1.out 2).trans rfl, (bC_ K1.out 3).trans rfl, (bC_ K1.out 4).trans rfl, (bC_ K1.out 5).trans rfl, (bC_ K1.out 6).trans rfl, (bC_ K1.out 7).trans rfl⟩ (fun hHeld => ?_)
        clear hK K
        refine norm_ (a' := ?_) ?_ ?_
        rotate_left
        ·show Act.put _ (some 3) _ = _
         simp only [Act.put, sA_, sB_, sC_, i64_w, i32_w]
         rfl
        exact norm_ (by first | (simp only [putAll, Act.put, sA_, sB_, sC_]; done) | (simp only [putAll, Act.put, sA_, sB_, sC_]; rfl)) (hj3 (v215, _, gb226) _ ⟨hHeld, HO216.out, HO220.out, K1.out, K2.out, K3.out, GW226.out, GE226.out, N13.out, N31.out, N23.out, N32.out, (by first | exact HB.out | exact wN_ HB.out _)⟩)
     ·skip
      rintro ⟨v215, v219, gb226⟩ w17 ⟨hS_, h0_, h1_, h2_, h3_, h4_, h5_, h6_, h7_, h8_, h9_, h10_, h11_⟩
      have n0_ : Aside0 (Kd.R Kd.string 9 w17 w.heap.size (fun k_ => some k_ ≠ (v219 : Value).ownBlock) v215 t214) := ⟨h0_⟩
      have n1_ : Aside0 (Kd.R Kd.string 9 w17 w.heap.size (fun k_ => some k_ ≠ (v215 : Value).ownBlock) v219 t218) := ⟨h1_⟩
      have n2_ : Aside0 (w17.heap[gb212]? = some (.cells #[.int .i64 a0_0, .int .i64 a0_1, .int .i64 a0_2, .int .i64 a0_3, .slice A0_4 l0_4.length c0_4, .slice A0_5 l0_5.length c0_5, .slice A0_6 l0_6.length c0_6, .int .i64 a0_7] 24 (0, 0))) := ⟨h2_⟩
      have n3_ : Aside0 (w17.heap[gb213]? = some (.cells zT_ 29 (0, 0))) := ⟨h3_⟩
      have n4_ : Aside0 (w17.heap[gb226]? = some (.cells zT_ 29 (0, 0))) := ⟨h4_⟩
      have n5_ : Aside0 (w.heap.size ≤ gb226) := ⟨h5_⟩
      have n6_ : Aside0 (w.heap.size ≤ gb226) := ⟨h6_⟩
      have n7_ : Aside0 (gb212 ≠ gb226) := ⟨h7_⟩
      have n8_ : Aside0 (gb226 ≠ gb212) := ⟨h8_⟩
      have n9_ : Aside0 (gb213 ≠ gb226) := ⟨h9_⟩
      have n10_ : Aside0 (gb226 ≠ gb213) := ⟨h10_⟩
      have n11_ : Aside0 (Below w.heap.size w w17) := ⟨h11_⟩
      clear K1 K2 HB h0_ h1_ h2_ h3_ h4_ h5_ h6_ h7_ h8_ h9_ h10_ h11_
      have HO216 := n0_; have HO220 := n1_; have K1 := n2_; have K2 := n3_; have K3 := n4_; have GW226 := n5_; have GE226 := n6_; have N13 := n7_; have N31 := n8_; have N23 := n9_; have N32 := n10_; have HB := n11_
      clear n0_ n1_ n2_ n3_ n4_ n5_ n6_ n7_ n8_ n9_ n10_ n11_
      have hHeld : SS_ gb212 a0_0 a0_1 a0_2 a0_3 A0_4 l0_4 c0_4 A0_5 l0_5 c0_5 A0_6 l0_6 c0_6 a0_7 w17 := hS_
      refine norm_ (a' := ?_) ?_ ?_
      rotate_left
      ·simp only [putAll, Act.put, sA_, sB_, sC_]
       rfl
      refine one_ (i := 8) (N := some 21) #[true, true, true, true, true, true, true, true, true, true, true, false, false, true, false] rfl rfl (one_of HT_.out (by kernel_rfl)) (by decide) (fun K hK => ?_)
      refine goes_ Tryz.func35 (by kernel_rfl) rfl #[] (by rfl) rfl rfl (by (try simp only [List.map_toArray, List.map_cons, List.map_nil]); first | done | rfl | (simp only [List.length_drop, List.length_take]; rfl)) ?_
      with_reducible refine (isoglossref06_regions.calls  t222 _ A6.out).mono ?_
      rintro e w18 ⟨v223, rfl, ho0, hb⟩
      refine ⟨_, rfl, ?_⟩
      have n0_ := Aside0.mk (Kd.R_elder' HO216.out (Kd.R_base ho0) hb)
      have n1_ := Aside0.mk (Kd.R_elder' HO220.out (Kd.R_base ho0) hb)
      have n2_ := Aside0.mk (Kd.R_lower (Kd.R_new' (Kd.R_new' ho0 (Kd.R_lt HO216.out)) (Kd.R_lt HO220.out)) (below_size HB.out))
      have n3_ := Aside0.mk (blk_below (g := gb212) K1.out hb)
      have n4_ := Aside0.mk (blk_below (g := gb213) K2.out hb)
      have n5_ := Aside0.mk (blk_below (g := gb226) K3.out hb)
      have n6_ := Aside0.mk (below_step HB.out hb)
      clear HO216 HO220 K1 K2 K3 HB
      have HO216 := n0_; have HO220 := n1_; have HO224 := n2_; have K1 := n3_; have K2 := n4_; have K3 := n5_; have HB := n6_
      clear n0_ n1_ n2_ n3_ n4_ n5_ n6_
      (try clear hb); (try clear hb2); (try clear hk); (try clear hi); (try clear ho0)
      refine hK.out _ _ ⟨(bC_ K1.out 0).trans rfl, (bC_ K1.out 1).trans rfl, (bC_ K1.out 2).trans rfl, (bC_ K1.out 3).trans rfl, (bC_ K1.out 4).trans rfl, (bC_ K1.out 5).trans rfl, (bC_ K1.out 6).trans rfl, (bC_ K1.out 7).trans rfl⟩ (fun hHeld => ?_)
      clear hK K
      refine norm_ (a' := ?_) ?_ ?_
      rotate_left
      ·show Act.put _ (some 21) _ = _
       simp only [Act.put, sA_, sB_, sC_, i64_w, i32_w]
       rfl
      exact norm_ (by first | (simp only [putAll, Act.put, sA_, sB_, sC_]; done) | (simp only [putAll, Act.put, sA_, sB_, sC_]; rfl)) (hj1 (v215, v219, _, gb226) _ ⟨hHeld, HO216.out, HO220.out, (by (with_reducible repeat (first | apply rA_ | apply rN_ | apply rD_)); exact Kd.R_mono HO224.out (fun _ hk => ⟨hk.1.2, hk.2⟩)), K1.out, K2.out, K3.out, GW226.out, GE226.out, N13.out, N31.out, N23.out, N32.out, (by first | exact HB.out | exact wN_ HB.out _)⟩)
    ·skip
     rintro ⟨v215, v219, v223⟩ w17 ⟨hS_, h0_, h1_, h2_, h3_, h4_, h5_⟩
     have n0_ : Aside0 (Kd.R Kd.string 9 w17 w.heap.size (fun k_ => some k_ ≠ (v219 : Value).ownBlock ∧ some k_ ≠ (v223 : Value).ownBlock) v215 t214) := ⟨h0_⟩
     have n1_ : Aside0 (Kd.R Kd.string 9 w17 w.heap.size (fun k_ => some k_ ≠ (v215 : Value).ownBlock ∧ some k_ ≠ (v223 : Value).ownBlock) v219 t218) := ⟨h1_⟩
     have n2_ : Aside0 (Kd.R Kd.string 9 w17 w.heap.size (fun k_ => some k_ ≠ (v215 : Value).ownBlock ∧ some k_ ≠ (v219 : Value).ownBlock) v223 t222) := ⟨h2_⟩
     have n3_ : Aside0 (w17.heap[gb212]? = some (.cells #[.int .i64 a0_0, .int .i64 a0_1, .int .i64 a0_2, .int .i64 a0_3, .slice A0_4 l0_4.length c0_4, .slice A0_5 l0_5.length c0_5, .slice A0_6 l0_6.length c0_6, .int .i64 a0_7] 24 (0, 0))) := ⟨h3_⟩
     have n4_ : Aside0 (w17.heap[gb213]? = some (.cells zT_ 29 (0, 0))) := ⟨h4_⟩
     have n5_ : Aside0 (Below w.heap.size w w17) := ⟨h5_⟩
     clear K1 K2 HB h0_ h1_ h2_ h3_ h4_ h5_
     have HO216 := n0_; have HO220 := n1_; have HO224 := n2_; have K1 := n3_; have K2 := n4_; have HB := n5_
     clear n0_ n1_ n2_ n3_ n4_ n5_
     have hHeld : SS_ gb212 a0_0 a0_1 a0_2 a0_3 A0_4 l0_4 c0_4 A0_5 l0_5 c0_5 A0_6 l0_6 c0_6 a0_7 w17 := hS_
     obtain ⟨Ao18, co18, eo18⟩ := Kd.R_slice HO224.out
     (first | subst eo18 | (injection eo18 with f1_ f2_ f3_; have f4_ := f1_.symm; have f5_ := f3_.symm; clear f1_ f2_ f3_; subst f4_; subst f5_))
     refine norm_ (a' := ?_) ?_ ?_
     rotate_left
     ·simp only [putAll, Act.put, sA_, sB_, sC_]
      rfl
     refine two_ (i := 11) (j := 13) (Ni := some 24) (Nj := some 3) #[true, true, true, true, true, true, true, true, true, true, true, true, false, false, false] #[true, true, true, true, true, true, true, true, true, true, true, false, false, true, false] rfl rfl rfl rfl (two_of HT_.out (by kernel_rfl)) (by decide) (by decide) (fun K hK => ?_) (fun K hK => ?_)
     ·skip
      refine goes_ Tryz.func32 (by kernel_rfl) rfl #[.slice Ao18 t222.length co18, .int .i64 a0_3] (by rfl) rfl rfl (by (try simp only [List.map_toArray, List.map_cons, List.map_nil]); first | done | rfl | (simp only [List.length_drop, List.length_take]; rfl)) ?_
      with_reducible refine (isoglossref06_Pick.calls _ _ t222 a0_3 t225 _ ?side1 ?side2 A7.out).mono ?_
      (case side1 => repeat (first | exact (Kd.R_reads' HO224.out).2.2 | (with_reducible refine Kd.C_alloc ?_ _) | (with_reducible refine Kd.C_drewN ?_ _) | (with_reducible refine Kd.C_drew ?_)))
      (case side2 => exact (Kd.R_reads' HO224.out).2.1)
      rintro e w' ⟨rfl, ⟨nd, rfl⟩⟩
      refine ⟨_, rfl, ?_⟩
      refine hK.out _ _ ⟨(bC_ K1.out 0).trans rfl, (bC_ K1.out 1).trans rfl, (bC_ K1.out 2).trans rfl, (bC_ K1.out 3).trans rfl, (bC_ K1.out 4).trans rfl, (bC_ K1.out 5).trans rfl, (bC_ K1.out 6).trans rfl, (bC_ K1.out 7).trans rfl⟩ (fun hHeld => ?_)
      clear hK K
      refine norm_ (a' := ?_) ?_ ?_
      rotate_left
      ·show Act.put _ (some 24) _ = _
       simp only [Act.put, sA_, sB_, sC_, i64_w, i32_w]
       rfl
      refine pure_ (i := 12) (N := some 25) (v := ?_) (a' := ?_) #[true, true, true, true, true, true, true, true, true, true, true, true, true, false, false] rfl rfl (any_of HT_.out (by kernel_rfl)) (fun _ _ _ h => h) (Or.inl ⟨by rfl, ?_⟩) ?_ ?_
      rotate_left
      ·intro w'
       go_simp
       with_reducible rfl
      rotate_left
      ·simp only [Act.put, sA_, sB_, sC_, i64_w, i32_w]
       rfl
      exact norm_ (by first | (simp only [putAll, Act.put, sA_, sB_, sC_]; done) | (simp only [putAll, Act.put, sA_, sB_, sC_]; rfl)) (hj2 (v215, v219, .slice Ao18 t222.length co18) _ ⟨hHeld, HO216.out, HO220.out, HO224.out, K1.out, K2.out, (by first | exact HB.out | exact wN_ HB.out _)⟩)
     ·skip
      refine box_step ?hg (N := 3) ?hd (cs := #[.string (⟨#[]⟩ : ByteArray), .slice none 0 0, .string (⟨#[]⟩ : ByteArray), .string (⟨#[]⟩ : ByteArray), .slice none 0 0, .slice none 0 0, .slice none 0 0, .string (⟨#[]⟩ : ByteArray)]) (t := 29) ?hr ?_; (case hd => rfl); (case hg => rfl); (case hr => first | (go_simp; done) | (go_simp; rfl))
      intro gb226 hg w18 hbox hb
      have n0_ := Aside0.mk (Kd.R_below HO216.out hb)
      have n1_ := Aside0.mk (Kd.R_below HO220.out hb)
      have n2_ := Aside0.mk (Kd.R_below HO224.out hb)
      have n3_ := Aside0.mk (blk_below (g := gb212) K1.out hb)
      have n4_ := Aside0.mk (blk_below (g := gb213) K2.out hb)
      have n5_ := Aside0.mk (below_step HB.out hb)
      have n6_ := Aside0.mk (hbox)
      have n7_ := Aside0.mk ((by rw [hg]; exact (below_size HB.out) : _ ≤ gb226))
      have n8_ := Aside0.mk ((by rw [hg]; exact (below_size HB.out) : _ ≤ gb226))
      have n9_ := Aside0.mk ((by rw [hg]; exact Nat.ne_of_lt (blk_lt (g := gb212) K1.out) : gb212 ≠ gb226))
      have n10_ := Aside0.mk ((by rw [hg]; exact Nat.ne_of_gt (blk_lt (g := gb212) K1.out) : gb226 ≠ gb212))
      have n11_ := Aside0.mk ((by rw [hg]; exact Nat.ne_of_lt (blk_lt (g := gb213) K2.out) : gb213 ≠ gb226))
      have n12_ := Aside0.mk ((by rw [hg]; exact Nat.ne_of_gt (blk_lt (g := gb213) K2.out) : gb226 ≠ gb213))
      clear HO216 HO220 HO224 K1 K2 HB
      have HO216 := n0_; have HO220 := n1_; have HO224 := n2_; have K1 := n3_; have K2 := n4_; have HB := n5_; have K3 := n6_; have GW226 := n7_; have GE226 := n8_; have N13 := n9_; have N31 := n10_; have N23 := n11_; have N32 := n12_
      clear n0_ n1_ n2_ n3_ n4_ n5_ n6_ n7_ n8_ n9_ n10_ n11_ n12_ hb hbox hg
      refine hK.out _ _ ⟨(bC_ K1.out 0).trans rfl, (bC_ K1.out 1).trans rfl, (bC_ K1.out 2).trans rfl, (bC_ K1.out 3).trans rfl, (bC_ K1.out 4).trans rfl, (bC_ K1.out 5).trans rfl, (bC_ K1.out 6).trans rfl, (bC_ K1.out 7).trans rfl⟩ (fun hHeld => ?_)
      clear hK K
      refine norm_ (a' := ?_) ?_ ?_
      rotate_left
      ·show Act.put _ (some 3) _ = _
       simp only [Act.put, sA_, sB_, sC_, i64_w, i32_w]
       rfl
      exact norm_ (by first | (simp only [putAll, Act.put, sA_, sB_, sC_]; done) | (simp only [putAll, Act.put, sA_, sB_, sC_]; rfl)) (hj1 (v215, v219, _, gb226) _ ⟨hHeld, HO216.out, HO220.out, HO224.out, K1.out, K2.out, K3.out, GW226.out, GE226.out, N13.out, N31.out, N23.out, N32.out, (by first | exact HB.out | exact wN_ HB.out _)⟩)
   ·skip
    rintro ⟨v215, v219, v223, gb226⟩ w18 ⟨hS_, h0_, h1_, h2_, h3_, h4_, h5_, h6_, h7_, h8_, h9_, h10_, h11_, h12_⟩
    have n0_ : Aside0 (Kd.R Kd.string 9 w18 w.heap.size (fun k_ => some k_ ≠ (v219 : Value).ownBlock ∧ some k_ ≠ (v223 : Value).ownBlock) v215 t214) := ⟨h0_⟩
    have n1_ : Aside0 (Kd.R Kd.string 9 w18 w.heap.size (fun k_ => some k_ ≠ (v215 : Value).ownBlock ∧ some k_ ≠ (v223 : Value).ownBlock) v219 t218) := ⟨h1_⟩
    have n2_ : Aside0 (Kd.R Kd.string 9 w18 w.heap.size (fun k_ => some k_ ≠ (v215 : Value).ownBlock ∧ some k_ ≠ (v219 : Value).ownBlock) v223 t222) := ⟨h2_⟩
    have n3_ : Aside0 (w18.heap[gb212]? = some (.cells #[.int .i64 a0_0, .int .i64 a0_1, .int .i64 a0_2, .int .i64 a0_3, .slice A0_4 l0_4.length c0_4, .slice A0_5 l0_5.length c0_5, .slice A0_6 l0_6.length c0_6, .int .i64 a0_7] 24 (0, 0))) := ⟨h3_⟩
    have n4_ : Aside0 (w18.heap[gb213]? = some (.cells zT_ 29 (0, 0))) := ⟨h4_⟩
    have n5_ : Aside0 (w18.heap[gb226]? = some (.cells zT_ 29 (0, 0))) := ⟨h5_⟩
    have n6_ : Aside0 (w.heap.size ≤ gb226) := ⟨h6_⟩
    have n7_ : Aside0 (w.heap.size ≤ gb226) := ⟨h7_⟩
    have n8_ : Aside0 (gb212 ≠ gb226) := ⟨h8_⟩
    have n9_ : Aside0 (gb226 ≠ gb212) := ⟨h9_⟩
    have n10_ : Aside0 (gb213 ≠ gb226) := ⟨h10_⟩
    have n11_ : Aside0 (gb226 ≠ gb213) := ⟨h11_⟩
    have n12_ : Aside0 (Below w.heap.size w w18) := ⟨h12_⟩
    clear K1 K2 HB h0_ h1_ h2_ h3_ h4_ h5_ h6_ h7_ h8_ h9_ h10_ h11_ h12_
    have HO216 := n0_; have HO220 := n1_; have HO224 := n2_; have K1 := n3_; have K2 := n4_; have K3 := n5_; have GW226 := n6_; have GE226 := n7_; have N13 := n8_; have N31 := n9_; have N23 := n10_; have N32 := n11_; have HB := n12_
    clear n0_ n1_ n2_ n3_ n4_ n5_ n6_ n7_ n8_ n9_ n10_ n11_ n12_
    have hHeld : SS_ gb212 a0_0 a0_1 a0_2 a0_3 A0_4 l0_4 c0_4 A0_5 l0_5 c0_5 A0_6 l0_6 c0_6 a0_7 w18 := hS_
    obtain ⟨Ao19, co19, eo19⟩ := Kd.R_slice HO224.out
    (first | subst eo19 | (injection eo19 with f1_ f2_ f3_; have f4_ := f1_.symm; have f5_ := f3_.symm; clear f1_ f2_ f3_; subst f4_; subst f5_))
    refine norm_ (a' := ?_) ?_ ?_
    rotate_left
    ·simp only [putAll, Act.put, sA_, sB_, sC_]
     rfl
    refine one_ (i := 11) (N := some 24) #[true, true, true, true, true, true, true, true, true, true, true, true, false, true, false] rfl rfl (one_of HT_.out (by kernel_rfl)) (by decide) (fun K hK => ?_)
    refine goes_ Tryz.func32 (by kernel_rfl) rfl #[.slice Ao19 t222.length co19, .int .i64 a0_3] (by rfl) rfl rfl (by (try simp only [List.map_toArray, List.map_cons, List.map_nil]); first | done | rfl | (simp only [List.length_drop, List.length_take]; rfl)) ?_
    with_reducible refine (isoglossref06_Pick.calls _ _ t222 a0_3 t225 _ ?side1 ?side2 A7.out).mono ?_
    (case side1 => repeat (first | exact (Kd.R_reads' HO224.out).2.2 | (with_reducible refine Kd.C_alloc ?_ _) | (with_reducible refine Kd.C_drewN ?_ _) | (with_reducible refine Kd.C_drew ?_)))
    (case side2 => exact (Kd.R_reads' HO224.out).2.1)
    rintro e w' ⟨rfl, ⟨nd, rfl⟩⟩
    refine ⟨_, rfl, ?_⟩
    refine hK.out _ _ ⟨(bC_ K1.out 0).trans rfl, (bC_ K1.out 1).trans rfl, (bC_ K1.out 2).trans rfl, (bC_ K1.out 3).trans rfl, (bC_ K1.out 4).trans rfl, (bC_ K1.out 5).trans rfl, (bC_ K1.out 6).trans rfl, (bC_ K1.out 7).trans rfl⟩ (fun hHeld => ?_)
    clear hK K
    refine norm_ (a' := ?_) ?_ ?_
    rotate_left
    ·show Act.put _ (some 24) _ = _
     simp only [Act.put, sA_, sB_, sC_, i64_w, i32_w]
     rfl
    refine pure_ (i := 12) (N := some 25) (v := ?_) (a' := ?_) #[true, true, true, true, true, true, true, true, true, true, true, true, true, true, false] rfl rfl (any_of HT_.out (by kernel_rfl)) (fun _ _ _ h => h) (Or.inl ⟨by rfl, ?_⟩) ?_ ?_
    rotate_left
    ·intro w'
     go_simp
     with_reducible rfl
    rotate_left
    ·simp only [Act.put, sA_, sB_, sC_, i64_w, i32_w]
     rfl
    exact norm_ (by first | (simp only [putAll, Act.put, sA_, sB_, sC_]; done) | (simp only [putAll, Act.put, sA_, sB_, sC_]; rfl)) (hj0 (v215, v219, .slice Ao19 t222.length co19, gb226) _ ⟨hHeld, HO216.out, HO220.out, HO224.out, K1.out, K2.out, K3.out, GW226.out, GE226.out, N13.out, N31.out, N23.out, N32.out, (by first | exact HB.out | exact wN_ HB.out _)⟩)
  ·skip
   rintro ⟨v215, v219, v223⟩ w18 ⟨hS_, h0_, h1_, h2_, h3_, h4_, h5_⟩
   have n0_ : Aside0 (Kd.R Kd.string 9 w18 w.heap.size (fun k_ => some k_ ≠ (v219 : Value).ownBlock ∧ some k_ ≠ (v223 : Value).ownBlock) v215 t214) := ⟨h0_⟩
   have n1_ : Aside0 (Kd.R Kd.string 9 w18 w.heap.size (fun k_ => some k_ ≠ (v215 : Value).ownBlock ∧ some k_ ≠ (v223 : Value).ownBlock) v219 t218) := ⟨h1_⟩
   have n2_ : Aside0 (Kd.R Kd.string 9 w18 w.heap.size (fun k_ => some k_ ≠ (v215 : Value).ownBlock ∧ some k_ ≠ (v219 : Value).ownBlock) v223 t222) := ⟨h2_⟩
   have n3_ : Aside0 (w18.heap[gb212]? = some (.cells #[.int .i64 a0_0, .int .i64 a0_1, .int .i64 a0_2, .int .i64 a0_3, .slice A0_4 l0_4.length c0_4, .slice A0_5 l0_5.length c0_5, .slice A0_6 l0_6.length c0_6, .int .i64 a0_7] 24 (0, 0))) := ⟨h3_⟩
   have n4_ : Aside0 (w18.heap[gb213]? = some (.cells zT_ 29 (0, 0))) := ⟨h4_⟩
   have n5_ : Aside0 (Below w.heap.size w w18) := ⟨h5_⟩
   clear K1 K2 HB h0_ h1_ h2_ h3_ h4_ h5_
   have HO216 := n0_; have HO220 := n1_; have HO224 := n2_; have K1 := n3_; have K2 := n4_; have HB := n5_
   clear n0_ n1_ n2_ n3_ n4_ n5_
   have hHeld : SS_ gb212 a0_0 a0_1 a0_2 a0_3 A0_4 l0_4 c0_4 A0_5 l0_5 c0_5 A0_6 l0_6 c0_6 a0_7 w18 := hS_
   refine norm_ (a' := ?_) ?_ ?_
   rotate_left
   ·simp only [putAll, Act.put, sA_, sB_, sC_]
    rfl
   refine one_ (i := 13) (N := some 3) #[true, true, true, true, true, true, true, true, true, true, true, true, true, true, false] rfl rfl (one_of HT_.out (by kernel_rfl)) (by decide) (fun K hK => ?_)
   refine box_step ?hg (N := 3) ?hd (cs := #[.string (⟨#[]⟩ : ByteArray), .slice none 0 0, .string (⟨#[]⟩ : ByteArray), .string (⟨#[]⟩ : ByteArray), .slice none 0 0, .slice none 0 0, .slice none 0 0, .string (⟨#[]⟩ : ByteArray)]) (t := 29) ?hr ?_; (case hd => rfl); (case hg => rfl); (case hr => first | (go_simp; done) | (go_simp; rfl))
   intro gb226 hg w19 hbox hb
   have n0_ := Aside0.mk (Kd.R_below HO216.out hb)
   have n1_ := Aside0.mk (Kd.R_below HO220.out hb)
   have n2_ := Aside0.mk (Kd.R_below HO224.out hb)
   have n3_ := Aside0.mk (blk_below (g := gb212) K1.out hb)
   have n4_ := Aside0.mk (blk_below (g := gb213) K2.out hb)
   have n5_ := Aside0.mk (below_step HB.out hb)
   have n6_ := Aside0.mk (hbox)
   have n7_ := Aside0.mk ((by rw [hg]; exact (below_size HB.out) : _ ≤ gb226))
   have n8_ := Aside0.mk ((by rw [hg]; exact (below_size HB.out) : _ ≤ gb226))
   have n9_ := Aside0.mk ((by rw [hg]; exact Nat.ne_of_lt (blk_lt (g := gb212) K1.out) : gb212 ≠ gb226))
   have n10_ := Aside0.mk ((by rw [hg]; exact Nat.ne_of_gt (blk_lt (g := gb212) K1.out) : gb226 ≠ gb212))
   have n11_ := Aside0.mk ((by rw [hg]; exact Nat.ne_of_lt (blk_lt (g := gb213) K2.out) : gb213 ≠ gb226))
   have n12_ := Aside0.mk ((by rw [hg]; exact Nat.ne_of_gt (blk_lt (g := gb213) K2.out) : gb226 ≠ gb213))
   clear HO216 HO220 HO224 K1 K2 HB
   have HO216 := n0_; have HO220 := n1_; have HO224 := n2_; have K1 := n3_; have K2 := n4_; have HB := n5_; have K3 := n6_; have GW226 := n7_; have GE226 := n8_; have N13 := n9_; have N31 := n10_; have N23 := n11_; have N32 := n12_
   clear n0_ n1_ n2_ n3_ n4_ n5_ n6_ n7_ n8_ n9_ n10_ n11_ n12_ hb hbox hg
   refine hK.out _ _ ⟨(bC_ K1.out 0).trans rfl, (bC_ K1.out 1).trans rfl, (bC_ K1.out 2).trans rfl, (bC_ K1.out 3).trans rfl, (bC_ K1.out 4).trans rfl, (bC_ K1.out 5).trans rfl, (bC_ K1.out 6).trans rfl, (bC_ K1.out 7).trans rfl⟩ (fun hHeld => ?_)
   clear hK K
   refine norm_ (a' := ?_) ?_ ?_
   rotate_left
   ·show Act.put _ (some 3) _ = _
    simp only [Act.put, sA_, sB_, sC_, i64_w, i32_w]
    rfl
   exact norm_ (by first | (simp only [putAll, Act.put, sA_, sB_, sC_]; done) | (simp only [putAll, Act.put, sA_, sB_, sC_]; rfl)) (hj0 (v215, v219, _, gb226) _ ⟨hHeld, HO216.out, HO220.out, HO224.out, K1.out, K2.out, K3.out, GW226.out, GE226.out, N13.out, N31.out, N23.out, N32.out, (by first | exact HB.out | exact wN_ HB.out _)⟩)
 rintro ⟨v215, v219, v223, gb226⟩ w19 ⟨hS_, h0_, h1_, h2_, h3_, h4_, h5_, h6_, h7_, h8_, h9_, h10_, h11_, h12_⟩
 have n0_ : Aside0 (Kd.R Kd.string 9 w19 w.heap.size (fun k_ => some k_ ≠ (v219 : Value).ownBlock ∧ some k_ ≠ (v223 : Value).ownBlock) v215 t214) := ⟨h0_⟩
 have n1_ : Aside0 (Kd.R Kd.string 9 w19 w.heap.size (fun k_ => some k_ ≠ (v215 : Value).ownBlock ∧ some k_ ≠ (v223 : Value).ownBlock) v219 t218) := ⟨h1_⟩
 have n2_ : Aside0 (Kd.R Kd.string 9 w19 w.heap.size (fun k_ => some k_ ≠ (v215 : Value).ownBlock ∧ some k_ ≠ (v219 : Value).ownBlock) v223 t222) := ⟨h2_⟩
 have n3_ : Aside0 (w19.heap[gb212]? = some (.cells #[.int .i64 a0_0, .int .i64 a0_1, .int .i64 a0_2, .int .i64 a0_3, .slice A0_4 l0_4.length c0_4, .slice A0_5 l0_5.length c0_5, .slice A0_6 l0_6.length c0_6, .int .i64 a0_7] 24 (0, 0))) := ⟨h3_⟩
 have n4_ : Aside0 (w19.heap[gb213]? = some (.cells zT_ 29 (0, 0))) := ⟨h4_⟩
 have n5_ : Aside0 (w19.heap[gb226]? = some (.cells zT_ 29 (0, 0))) := ⟨h5_⟩
 have n6_ : Aside0 (w.heap.size ≤ gb226) := ⟨h6_⟩
 have n7_ : Aside0 (w.heap.size ≤ gb226) := ⟨h7_⟩
 have n8_ : Aside0 (gb212 ≠ gb226) := ⟨h8_⟩
 have n9_ : Aside0 (gb226 ≠ gb212) := ⟨h9_⟩
 have n10_ : Aside0 (gb213 ≠ gb226) := ⟨h10_⟩
 have n11_ : Aside0 (gb226 ≠ gb213) := ⟨h11_⟩
 have n12_ : Aside0 (Below w.heap.size w w19) := ⟨h12_⟩
 clear K1 K2 HB h0_ h1_ h2_ h3_ h4_ h5_ h6_ h7_ h8_ h9_ h10_ h11_ h12_
 have HO216 := n0_; have HO220 := n1_; have HO224 := n2_; have K1 := n3_; have K2 := n4_; have K3 := n5_; have GW226 := n6_; have GE226 := n7_; have N13 := n8_; have N31 := n9_; have N23 := n10_; have N32 := n11_; have HB := n12_
 clear n0_ n1_ n2_ n3_ n4_ n5_ n6_ n7_ n8_ n9_ n10_ n11_ n12_
 have hHeld : SS_ gb212 a0_0 a0_1 a0_2 a0_3 A0_4 l0_4 c0_4 A0_5 l0_5 c0_5 A0_6 l0_6 c0_6 a0_7 w19 := hS_
 refine norm_ (a' := ?_) ?_ ?_
 rotate_left
 ·simp only [putAll, Act.put, sA_, sB_, sC_]
  rfl
 refine one_ (i := 14) (N := none) #[true, true, true, true, true, true, true, true, true, true, true, true, true, true, true] rfl rfl (one_of HT_.out (by kernel_rfl)) (by decide) (fun K hK => ?_)
 have hs20 : w19.cell? ⟨gb226, 0, none⟩ = some (.string (⟨#[]⟩ : ByteArray)) := (bC_ K3.out 0).trans rfl
 have hfs20 := bF_ K3.out 0
 have hns20_0 := N13.out
 have hns20_1 := N23.out
 have hms20_0 := N31.out
 have hms20_1 := N32.out
 have hs21 : w19.cell? ⟨gb226, 1, none⟩ = some (.slice none 0 0) := (bC_ K3.out 1).trans rfl
 have hfs21 := bF_ K3.out 1
 have hns21_0 := N13.out
 have hns21_1 := N23.out
 have hms21_0 := N31.out
 have hms21_1 := N32.out
 have hs22 : w19.cell? ⟨gb226, 2, none⟩ = some (.string (⟨#[]⟩ : ByteArray)) := (bC_ K3.out 2).trans rfl
 have hfs22 := bF_ K3.out 2
 have hns22_0 := N13.out
 have hns22_1 := N23.out
 have hms22_0 := N31.out
 have hms22_1 := N32.out
 have hs23 : w19.cell? ⟨gb226, 3, none⟩ = some (.string (⟨#[]⟩ : ByteArray)) := (bC_ K3.out 3).trans rfl
 have hfs23 := bF_ K3.out 3
 have hns23_0 := N13.out
 have hns23_1 := N23.out
 have hms23_0 := N31.out
 have hms23_1 := N32.out
 have hs24 : w19.cell? ⟨gb226, 4, none⟩ = some (.slice none 0 0) := (bC_ K3.out 4).trans rfl
 have hfs24 := bF_ K3.out 4
 have hns24_0 := N13.out
 have hns24_1 := N23.out
 have hms24_0 := N31.out
 have hms24_1 := N32.out
 have hs25 : w19.cell? ⟨gb226, 5, none⟩ = some (.slice none 0 0) := (bC_ K3.out 5).trans rfl
 have hfs25 := bF_ K3.out 5
 have hns25_0 := N13.out
 have hns25_1 := N23.out
 have hms25_0 := N31.out
 have hms25_1 := N32.out
 have hs26 : w19.cell? ⟨gb226, 6, none⟩ = some (.slice none 0 0) := (bC_ K3.out 6).trans rfl
 have hfs26 := bF_ K3.out 6
 have hns26_0 := N13.out
 have hns26_1 := N23.out
 have hms26_0 := N31.out
 have hms26_1 := N32.out
 have hs27 : w19.cell? ⟨gb226, 7, none⟩ = some (.string (⟨#[]⟩ : ByteArray)) := (bC_ K3.out 7).trans rfl
 have hfs27 := bF_ K3.out 7
 have hns27_0 := N13.out
 have hns27_1 := N23.out
 have hms27_0 := N31.out
 have hms27_1 := N32.out
 refine skip_ (w1 := ?_) (by rfl) rfl ?_ ?_
 rotate_left
 ·go_simp
  rfl
 refine hK.out _ _ ⟨((cell_far (p := ⟨gb226, _, none⟩) N13.out _).trans (((cell_far (p := ⟨gb226, _, none⟩) N13.out _).trans (((cell_far (p := ⟨gb226, _, none⟩) N13.out _).trans (((cell_far (p := ⟨gb226, _, none⟩) N13.out _).trans (((cell_far (p := ⟨gb226, _, none⟩) N13.out _).trans (((cell_far (p := ⟨gb226, _, none⟩) N13.out _).trans (((cell_far (p := ⟨gb226, _, none⟩) N13.out _).trans (((cell_far (p := ⟨gb226, _, none⟩) N13.out _).trans (hHeld.1)))))))))))))))), ((cell_far (p := ⟨gb226, _, none⟩) N13.out _).trans (((cell_far (p := ⟨gb226, _, none⟩) N13.out _).trans (((cell_far (p := ⟨gb226, _, none⟩) N13.out _).trans (((cell_far (p := ⟨gb226, _, none⟩) N13.out _).trans (((cell_far (p := ⟨gb226, _, none⟩) N13.out _).trans (((cell_far (p := ⟨gb226, _, none⟩) N13.out _).trans (((cell_far (p := ⟨gb226, _, none⟩) N13.out _).trans (((cell_far (p := ⟨gb226, _, none⟩) N13.out _).trans (hHeld.2.1)))))))))))))))), ((cell_far (p := ⟨gb226, _, none⟩) N13.out _).trans (((cell_far (p := ⟨gb226, _, none⟩) N13.out _).trans (((cell_far (p := ⟨gb226, _, none⟩) N13.out _).trans (((cell_far (p := ⟨gb226, _, none⟩) N13.out _).trans (((cell_far (p := ⟨gb226, _, none⟩) N13.out _).trans (((cell_far (p := ⟨gb226, _, none⟩) N13.out _).trans (((cell_far (p := ⟨gb226, _, none⟩) N13.out _).trans (((cell_far (p := ⟨gb226, _, none⟩) N13.out _).trans (hHeld.2.2.1)))))))))))))))), ((cell_far (p := ⟨gb226, _, none⟩) N13.out _).trans (((cell_far (p := ⟨gb226, _, none⟩) N13.out _).trans (((cell_far (p := ⟨gb226, _, none⟩) N13.out _).trans (((cell_far (p := ⟨gb226, _, none⟩) N13.out _).trans (((cell_far (p := ⟨gb226, _, none⟩) N13.out _).trans (((cell_far (p := ⟨gb226, _, none⟩) N13.out _).trans (((cell_far (p := ⟨gb226, _, none⟩) N13.out _).trans (((cell_far (p := ⟨gb226, _, none⟩) N13.out _).trans (hHeld.2.2.2.1)))))))))))))))), ((cell_far (p := ⟨gb226, _, none⟩) N13.out _).trans (((cell_far (p := ⟨gb226, _, none⟩) N13.out _).trans (((cell_far (p := ⟨gb226, _, none⟩) N13.out _).trans (((cell_far (p := ⟨gb226, _, none⟩) N13.out _).trans (((cell_far (p := ⟨gb226, _, none⟩) N13.out _).trans (((cell_far (p := ⟨gb226, _, none⟩) N13.out _).trans (((cell_far (p := ⟨gb226, _, none⟩) N13.out _).trans (((cell_far (p := ⟨gb226, _, none⟩) N13.out _).trans (hHeld.2.2.2.2.1)))))))))))))))), ((cell_far (p := ⟨gb226, _, none⟩) N13.out _).trans (((cell_far (p := ⟨gb226, _, none⟩) N13.out _).trans (((cell_far (p := ⟨gb226, _, none⟩) N13.out _).trans (((cell_far (p := ⟨gb226, _, none⟩) N13.out _).trans (((cell_far (p := ⟨gb226, _, none⟩) N13.out _).trans (((cell_far (p := ⟨gb226, _, none⟩) N13.out _).trans (((cell_far (p := ⟨gb226, _, none⟩) N13.out _).trans (((cell_far (p := ⟨gb226, _, none⟩) N13.out _).trans (hHeld.2.2.2.2.2.1)))))))))))))))), ((cell_far (p := ⟨gb226, _, none⟩) N13.out _).trans (((cell_far (p := ⟨gb226, _, none⟩) N13.out _).trans (((cell_far (p := ⟨gb226, _, none⟩) N13.out _).trans (((cell_far (p := ⟨gb226, _, none⟩) N13.out _).trans (((cell_far (p := ⟨gb226, _, none⟩) N13.out _).trans (((cell_far (p := ⟨gb226, _, none⟩) N13.out _).trans (((cell_far (p := ⟨gb226, _, none⟩) N13.out _).trans (((cell_far (p := ⟨gb226, _, none⟩) N13.out _).trans (hHeld.2.2.2.2.2.2.1)))))))))))))))), ((cell_far (p := ⟨gb226, _, none⟩) N13.out _).trans (((cell_far (p := ⟨gb226, _, none⟩) N13.out _).trans (((cell_far (p := ⟨gb226, _, none⟩) N13.out _).trans (((cell_far (p := ⟨gb226, _, none⟩) N13.out _).trans (((cell_far (p := ⟨gb226, _, none⟩) N13.out _).trans (((cell_far (p := ⟨gb226, _, none⟩) N13.out _).trans (((cell_far (p := ⟨gb226, _, none⟩) N13.out _).trans (((cell_far (p := ⟨gb226, _, none⟩) N13.out _).trans (hHeld.2.2.2.2.2.2.2))))))))))))))))⟩ (fun hHeld => ?_)
 clear hK K
 refine done_ (done_of HT_.out (by kernel_rfl)) ?_
 go_upto_region 2 with (fail)
 go_cut [35] (fun v35 wc => ∃ (kq : Nat) (x35_7 : Bool), v35 = .bool x35_7 ∧ Aside0 (mD.j0 kq x35_7 a0_0 a0_1 a0_2 a0_3 l0_4 l0_5 l0_6 a0_7 t217 t221 t225 (⟨#[]⟩ : ByteArray) = some (r1, r2, r3, r4, r5, r6, r7, r8)) ∧ Aside0 (kq ≤ k) ∧ Aside0 (wc.heap[gb212]? = some (.cells #[.int .i64 a0_0, .int .i64 a0_1, .int .i64 a0_2, .int .i64 a0_3, (.slice A0_4 l0_4.length c0_4), (.slice A0_5 l0_5.length c0_5), (.slice A0_6 l0_6.length c0_6), .int .i64 a0_7] 24 (0, 0))) ∧ Aside0 (wc.heap[gb213]? = some (.cells zT_ 29 (0, 0))) ∧ Aside0 (wc.heap[gb226]? = some (.cells #[.string t217, (.slice none 0 0), .string t221, .string t225, (.slice none 0 0), (.slice none 0 0), (.slice none 0 0), .string (⟨#[]⟩ : ByteArray)] 29 (0, 0))) ∧ Aside0 (Below w.heap.size w wc))
 case first =>
  have H := HC8.out
  clear HC8
  by_cases c28 : (t217.size : Int) ≤ 3
  ·rw [if_pos c28] at H
   have c28b0 : decide ((t217.size : Int) ≤ 3) = true := decide_eq_true c28
   have c28b1 : decide (t217.size ≤ 3) = true := decide_eq_true (by omega)
   clear c28
   (first | rw [c28b0] | rw [c28b1] | (simp only [i64_w, i32_w]; rw [c28b0]) | skip)
   have H' := Aside0.mk H
   clear H
   have hnb29 := N31.out
   have hnc29 := N13.out
   have hnb30 := N32.out
   have hnc30 := N23.out
   obtain ⟨z31_0, z31_1, z31_2, z31_3, z31_4, z31_5, z31_6, z31_7, f31_0, f31_1, f31_2, f31_3, f31_4, f31_5, f31_6, f31_7⟩ := cells8 K3.out
   have hnb32 := N12.out
   have hnc32 := N21.out
   obtain ⟨z33_0, z33_1, z33_2, z33_3, z33_4, z33_5, z33_6, z33_7, f33_0, f33_1, f33_2, f33_3, f33_4, f33_5, f33_6, f33_7⟩ := cells8 K1.out
   go_wp2
   go_meet
   case rel => exact ⟨_, (((Int.tmod a0_1 4) == 1)), (by first | rfl | (simp; done) | (simp [*]; done)), H', ⟨by first | omega | exact Nat.le_refl _⟩, ⟨by (with_reducible repeat (first | refine bN_ ?_ _ | refine bD_ ?_ | refine bA_ ?_ _)); refine blk_far ?_ N13.out _; (with_reducible repeat (first | refine bN_ ?_ _ | refine bD_ ?_ | refine bA_ ?_ _)); refine blk_far ?_ N13.out _; (with_reducible repeat (first | refine bN_ ?_ _ | refine bD_ ?_ | refine bA_ ?_ _)); refine blk_far ?_ N13.out _; (with_reducible repeat (first | refine bN_ ?_ _ | refine bD_ ?_ | refine bA_ ?_ _)); refine blk_far ?_ N13.out _; (with_reducible repeat (first | refine bN_ ?_ _ | refine bD_ ?_ | refine bA_ ?_ _)); refine blk_far ?_ N13.out _; (with_reducible repeat (first | refine bN_ ?_ _ | refine bD_ ?_ | refine bA_ ?_ _)); refine blk_far ?_ N13.out _; (with_reducible repeat (first | refine bN_ ?_ _ | refine bD_ ?_ | refine bA_ ?_ _)); refine blk_far ?_ N13.out _; (with_reducible repeat (first | refine bN_ ?_ _ | refine bD_ ?_ | refine bA_ ?_ _)); refine blk_far ?_ N13.out _; (with_reducible repeat (first | refine bN_ ?_ _ | refine bD_ ?_ | refine bA_ ?_ _)); exact K1.out⟩, ⟨by (with_reducible repeat (first | refine bN_ ?_ _ | refine bD_ ?_ | refine bA_ ?_ _)); refine blk_far ?_ N23.out _; (with_reducible repeat (first | refine bN_ ?_ _ | refine bD_ ?_ | refine bA_ ?_ _)); refine blk_far ?_ N23.out _; (with_reducible repeat (first | refine bN_ ?_ _ | refine bD_ ?_ | refine bA_ ?_ _)); refine blk_far ?_ N23.out _; (with_reducible repeat (first | refine bN_ ?_ _ | refine bD_ ?_ | refine bA_ ?_ _)); refine blk_far ?_ N23.out _; (with_reducible repeat (first | refine bN_ ?_ _ | refine bD_ ?_ | refine bA_ ?_ _)); refine blk_far ?_ N23.out _; (with_reducible repeat (first | refine bN_ ?_ _ | refine bD_ ?_ | refine bA_ ?_ _)); refine blk_far ?_ N23.out _; (with_reducible repeat (first | refine bN_ ?_ _ | refine bD_ ?_ | refine bA_ ?_ _)); refine blk_far ?_ N23.out _; (with_reducible repeat (first | refine bN_ ?_ _ | refine bD_ ?_ | refine bA_ ?_ _)); refine blk_far ?_ N23.out _; (with_reducible repeat (first | refine bN_ ?_ _ | refine bD_ ?_ | refine bA_ ?_ _)); exact K2.out⟩, ⟨by (with_reducible repeat (first | refine bN_ ?_ _ | refine bD_ ?_ | refine bA_ ?_ _)); refine blk_put (cs := #[.string t217, .slice none 0 0, .string t221, .string t225, .slice none 0 0, .slice none 0 0, .slice none 0 0, .string (⟨#[]⟩ : ByteArray)]) ?_ 7 _ rfl; (with_reducible repeat (first | refine bN_ ?_ _ | refine bD_ ?_ | refine bA_ ?_ _)); refine blk_put (cs := #[.string t217, .slice none 0 0, .string t221, .string t225, .slice none 0 0, .slice none 0 0, .slice none 0 0, .string (⟨#[]⟩ : ByteArray)]) ?_ 6 _ rfl; (with_reducible repeat (first | refine bN_ ?_ _ | refine bD_ ?_ | refine bA_ ?_ _)); refine blk_put (cs := #[.string t217, .slice none 0 0, .string t221, .string t225, .slice none 0 0, .slice none 0 0, .slice none 0 0, .string (⟨#[]⟩ : ByteArray)]) ?_ 5 _ rfl; (with_reducible repeat (first | refine bN_ ?_ _ | refine bD_ ?_ | refine bA_ ?_ _)); refine blk_put (cs := #[.string t217, .slice none 0 0, .string t221, .string t225, .slice none 0 0, .slice none 0 0, .slice none 0 0, .string (⟨#[]⟩ : ByteArray)]) ?_ 4 _ rfl; (with_reducible repeat (first | refine bN_ ?_ _ | refine bD_ ?_ | refine bA_ ?_ _)); refine blk_put (cs := #[.string t217, .slice none 0 0, .string t221, .string (⟨#[]⟩ : ByteArray), .slice none 0 0, .slice none 0 0, .slice none 0 0, .string (⟨#[]⟩ : ByteArray)]) ?_ 3 _ rfl; (with_reducible repeat (first | refine bN_ ?_ _ | refine bD_ ?_ | refine bA_ ?_ _)); refine blk_put (cs := #[.string t217, .slice none 0 0, .string (⟨#[]⟩ : ByteArray), .string (⟨#[]⟩ : ByteArray), .slice none 0 0, .slice none 0 0, .slice none 0 0, .string (⟨#[]⟩ : ByteArray)]) ?_ 2 _ rfl; (with_reducible repeat (first | refine bN_ ?_ _ | refine bD_ ?_ | refine bA_ ?_ _)); refine blk_put (cs := #[.string t217, .slice none 0 0, .string (⟨#[]⟩ : ByteArray), .string (⟨#[]⟩ : ByteArray), .slice none 0 0, .slice none 0 0, .slice none 0 0, .string (⟨#[]⟩ : ByteArray)]) ?_ 1 _ rfl; (with_reducible repeat (first | refine bN_ ?_ _ | refine bD_ ?_ | refine bA_ ?_ _)); refine blk_put (cs := #[.string (⟨#[]⟩ : ByteArray), .slice none 0 0, .string (⟨#[]⟩ : ByteArray), .string (⟨#[]⟩ : ByteArray), .slice none 0 0, .slice none 0 0, .slice none 0 0, .string (⟨#[]⟩ : ByteArray)]) ?_ 0 _ rfl; (with_reducible repeat (first | refine bN_ ?_ _ | refine bD_ ?_ | refine bA_ ?_ _)); exact K3.out⟩, ⟨by repeat (first | (with_reducible first | exact HB.out | apply wA_ | apply wN_ | apply wD_ | refine wS_ ?_ GE212.out | refine wS_ ?_ GE213.out | refine wS_ ?_ GE226.out) | exact HB.out)⟩⟩
  ·rw [if_neg c28] at H
   have c28b0 : decide ((t217.size : Int) ≤ 3) = false := decide_eq_false c28
   have c28b1 : decide (t217.size ≤ 3) = false := decide_eq_false (by omega)
   clear c28
   (first | rw [c28b0] | rw [c28b1] | (simp only [i64_w, i32_w]; rw [c28b0]) | skip)
   have H' := Aside0.mk H
   clear H
   have hnb34 := N31.out
   have hnc34 := N13.out
   have hnb35 := N32.out
   have hnc35 := N23.out
   obtain ⟨z36_0, z36_1, z36_2, z36_3, z36_4, z36_5, z36_6, z36_7, f36_0, f36_1, f36_2, f36_3, f36_4, f36_5, f36_6, f36_7⟩ := cells8 K3.out
   go_wp2
   go_meet
   case rel => exact ⟨_, (false), (by first | rfl | (simp; done) | (simp [*]; done)), H', ⟨by first | omega | exact Nat.le_refl _⟩, ⟨by (with_reducible repeat (first | refine bN_ ?_ _ | refine bD_ ?_ | refine bA_ ?_ _)); refine blk_far ?_ N13.out _; (with_reducible repeat (first | refine bN_ ?_ _ | refine bD_ ?_ | refine bA_ ?_ _)); refine blk_far ?_ N13.out _; (with_reducible repeat (first | refine bN_ ?_ _ | refine bD_ ?_ | refine bA_ ?_ _)); refine blk_far ?_ N13.out _; (with_reducible repeat (first | refine bN_ ?_ _ | refine bD_ ?_ | refine bA_ ?_ _)); refine blk_far ?_ N13.out _; (with_reducible repeat (first | refine bN_ ?_ _ | refine bD_ ?_ | refine bA_ ?_ _)); refine blk_far ?_ N13.out _; (with_reducible repeat (first | refine bN_ ?_ _ | refine bD_ ?_ | refine bA_ ?_ _)); refine blk_far ?_ N13.out _; (with_reducible repeat (first | refine bN_ ?_ _ | refine bD_ ?_ | refine bA_ ?_ _)); refine blk_far ?_ N13.out _; (with_reducible repeat (first | refine bN_ ?_ _ | refine bD_ ?_ | refine bA_ ?_ _)); refine blk_far ?_ N13.out _; (with_reducible repeat (first | refine bN_ ?_ _ | refine bD_ ?_ | refine bA_ ?_ _)); exact K1.out⟩, ⟨by (with_reducible repeat (first | refine bN_ ?_ _ | refine bD_ ?_ | refine bA_ ?_ _)); refine blk_far ?_ N23.out _; (with_reducible repeat (first | refine bN_ ?_ _ | refine bD_ ?_ | refine bA_ ?_ _)); refine blk_far ?_ N23.out _; (with_reducible repeat (first | refine bN_ ?_ _ | refine bD_ ?_ | refine bA_ ?_ _)); refine blk_far ?_ N23.out _; (with_reducible repeat (first | refine bN_ ?_ _ | refine bD_ ?_ | refine bA_ ?_ _)); refine blk_far ?_ N23.out _; (with_reducible repeat (first | refine bN_ ?_ _ | refine bD_ ?_ | refine bA_ ?_ _)); refine blk_far ?_ N23.out _; (with_reducible repeat (first | refine bN_ ?_ _ | refine bD_ ?_ | refine bA_ ?_ _)); refine blk_far ?_ N23.out _; (with_reducible repeat (first | refine bN_ ?_ _ | refine bD_ ?_ | refine bA_ ?_ _)); refine blk_far ?_ N23.out _; (with_reducible repeat (first | refine bN_ ?_ _ | refine bD_ ?_ | refine bA_ ?_ _)); refine blk_far ?_ N23.out _; (with_reducible repeat (first | refine bN_ ?_ _ | refine bD_ ?_ | refine bA_ ?_ _)); exact K2.out⟩, ⟨by (with_reducible repeat (first | refine bN_ ?_ _ | refine bD_ ?_ | refine bA_ ?_ _)); refine blk_put (cs := #[.string t217, .slice none 0 0, .string t221, .string t225, .slice none 0 0, .slice none 0 0, .slice none 0 0, .string (⟨#[]⟩ : ByteArray)]) ?_ 7 _ rfl; (with_reducible repeat (first | refine bN_ ?_ _ | refine bD_ ?_ | refine bA_ ?_ _)); refine blk_put (cs := #[.string t217, .slice none 0 0, .string t221, .string t225, .slice none 0 0, .slice none 0 0, .slice none 0 0, .string (⟨#[]⟩ : ByteArray)]) ?_ 6 _ rfl; (with_reducible repeat (first | refine bN_ ?_ _ | refine bD_ ?_ | refine bA_ ?_ _)); refine blk_put (cs := #[.string t217, .slice none 0 0, .string t221, .string t225, .slice none 0 0, .slice none 0 0, .slice none 0 0, .string (⟨#[]⟩ : ByteArray)]) ?_ 5 _ rfl; (with_reducible repeat (first | refine bN_ ?_ _ | refine bD_ ?_ | refine bA_ ?_ _)); refine blk_put (cs := #[.string t217, .slice none 0 0, .string t221, .string t225, .slice none 0 0, .slice none 0 0, .slice none 0 0, .string (⟨#[]⟩ : ByteArray)]) ?_ 4 _ rfl; (with_reducible repeat (first | refine bN_ ?_ _ | refine bD_ ?_ | refine bA_ ?_ _)); refine blk_put (cs := #[.string t217, .slice none 0 0, .string t221, .string (⟨#[]⟩ : ByteArray), .slice none 0 0, .slice none 0 0, .slice none 0 0, .string (⟨#[]⟩ : ByteArray)]) ?_ 3 _ rfl; (with_reducible repeat (first | refine bN_ ?_ _ | refine bD_ ?_ | refine bA_ ?_ _)); refine blk_put (cs := #[.string t217, .slice none 0 0, .string (⟨#[]⟩ : ByteArray), .string (⟨#[]⟩ : ByteArray), .slice none 0 0, .slice none 0 0, .slice none 0 0, .string (⟨#[]⟩ : ByteArray)]) ?_ 2 _ rfl; (with_reducible repeat (first | refine bN_ ?_ _ | refine bD_ ?_ | refine bA_ ?_ _)); refine blk_put (cs := #[.string t217, .slice none 0 0, .string (⟨#[]⟩ : ByteArray), .string (⟨#[]⟩ : ByteArray), .slice none 0 0, .slice none 0 0, .slice none 0 0, .string (⟨#[]⟩ : ByteArray)]) ?_ 1 _ rfl; (with_reducible repeat (first | refine bN_ ?_ _ | refine bD_ ?_ | refine bA_ ?_ _)); refine blk_put (cs := #[.string (⟨#[]⟩ : ByteArray), .slice none 0 0, .string (⟨#[]⟩ : ByteArray), .string (⟨#[]⟩ : ByteArray), .slice none 0 0, .slice none 0 0, .slice none 0 0, .string (⟨#[]⟩ : ByteArray)]) ?_ 0 _ rfl; (with_reducible repeat (first | refine bN_ ?_ _ | refine bD_ ?_ | refine bA_ ?_ _)); exact K3.out⟩, ⟨by repeat (first | (with_reducible first | exact HB.out | apply wA_ | apply wN_ | apply wD_ | refine wS_ ?_ GE212.out | refine wS_ ?_ GE213.out | refine wS_ ?_ GE226.out) | exact HB.out)⟩⟩
 case rest =>
  clear HC8
  try clear c2; try clear p2; try clear c3; try clear c28; try clear c28b0; try clear c28b1; try clear c29; try clear c30; try clear c32; try clear c34; try clear c35
  try clear z31_0 z31_1 z31_2 z31_3 z31_4 z31_5 z31_6 z31_7 f31_0 f31_1 f31_2 f31_3 f31_4 f31_5 f31_6 f31_7; try clear z33_0 z33_1 z33_2 z33_3 z33_4 z33_5 z33_6 z33_7 f33_0 f33_1 f33_2 f33_3 f33_4 f33_5 f33_6 f33_7; try clear z36_0 z36_1 z36_2 z36_3 z36_4 z36_5 z36_6 z36_7 f36_0 f36_1 f36_2 f36_3 f36_4 f36_5 f36_6 f36_7
  obtain ⟨kq, x35_7, rfl, HA, HJ7, K1, K2, K3, HB⟩ := hcut
  cases kq with
  | zero => exact absurd HA.out (by simp [mD.j0])
  | succ kj7 =>
   have H := HA.out
   clear HA
   simp only [mD.j0] at H
   have HC37 := Aside0.mk H
   clear H
   go_upto_if 35 with (fail)
   go_cut [] (fun wc => ∃ (kq : Nat) (x1_ : List ByteArray) (u227001 : Value), Aside0 (mD.j1 kq a0_0 a0_1 a0_2 a0_3 l0_4 l0_5 l0_6 a0_7 t217 x1_ t221 t225 (⟨#[]⟩ : ByteArray) = some (r1, r2, r3, r4, r5, r6, r7, r8)) ∧ Aside0 (kq ≤ kj7) ∧ Aside0 (Kd.R Kd.string 9 wc w.heap.size (fun _ => True) u227001 x1_) ∧ Aside0 (wc.heap[gb212]? = some (.cells #[.int .i64 a0_0, .int .i64 a0_1, .int .i64 a0_2, .int .i64 a0_3, (.slice A0_4 l0_4.length c0_4), (.slice A0_5 l0_5.length c0_5), (.slice A0_6 l0_6.length c0_6), .int .i64 a0_7] 24 (0, 0))) ∧ Aside0 (wc.heap[gb213]? = some (.cells zT_ 29 (0, 0))) ∧ Aside0 (wc.heap[gb226]? = some (.cells #[.string t217, u227001, .string t221, .string t225, (.slice none 0 0), (.slice none 0 0), (.slice none 0 0), .string (⟨#[]⟩ : ByteArray)] 29 (0, 0))) ∧ Aside0 (Below w.heap.size w wc))
   case first =>
    have H := HC37.out
    clear HC37
    by_cases c38 : x35_7 = true
    ·subst c38
     have H1 : ((isoglossref06_Pick.f (([(⟨#[121, 117, 101]⟩ : ByteArray), (⟨#[99, 109, 110]⟩ : ByteArray), (⟨#[109, 105, 110]⟩ : ByteArray)] : List ByteArray)) (wrap64 (Int.tdiv a0_1 4))).bind fun t230 => (mD.j1 kj7 a0_0 a0_1 a0_2 a0_3 l0_4 l0_5 l0_6 a0_7 t217 (([t230] : List ByteArray)) t221 t225 (⟨#[]⟩ : ByteArray))) = some (r1, r2, r3, r4, r5, r6, r7, r8) := by rw [if_pos rfl] at H; exact H
     clear H
     have H := H1
     clear H1
     obtain ⟨y227, hy227⟩ : ∃ y_ : List ByteArray, y_ = (([(⟨#[121, 117, 101]⟩ : ByteArray), (⟨#[99, 109, 110]⟩ : ByteArray), (⟨#[109, 105, 110]⟩ : ByteArray)] : List ByteArray)) := ⟨_, rfl⟩
     replace H : ((isoglossref06_Pick.f y227 (wrap64 (Int.tdiv a0_1 4))).bind fun t230 => (mD.j1 kj7 a0_0 a0_1 a0_2 a0_3 l0_4 l0_5 l0_6 a0_7 t217 (([t230] : List ByteArray)) t221 t225 (⟨#[]⟩ : ByteArray))) = some (r1, r2, r3, r4, r5, r6, r7, r8) := by first | (rw [hy227]; with_reducible exact H) | (have H2_ := (Option.bind_some _ _).symm.trans H; rw [hy227]; with_reducible exact H2_) | (have H2_ := (Option.bind_some _ _).symm.trans H; with_reducible exact H2_) | with_reducible exact H | (rw [hy227]; exact H) | exact H
     have Ny227 := Aside0.mk hy227
     clear hy227
     replace H := Option.bind_eq_some_iff.mp H
     obtain ⟨t230, A412, H⟩ := H
     replace H : (mD.j1 kj7 a0_0 a0_1 a0_2 a0_3 l0_4 l0_5 l0_6 a0_7 t217 (([t230] : List ByteArray)) t221 t225 (⟨#[]⟩ : ByteArray)) = some (r1, r2, r3, r4, r5, r6, r7, r8) := H
     have A39 := Aside0.mk A412
     clear A412
     obtain ⟨y231, hy231⟩ : ∃ y_ : List ByteArray, y_ = (([t230] : List ByteArray)) := ⟨_, rfl⟩
     replace H : (mD.j1 kj7 a0_0 a0_1 a0_2 a0_3 l0_4 l0_5 l0_6 a0_7 t217 y231 t221 t225 (⟨#[]⟩ : ByteArray)) = some (r1, r2, r3, r4, r5, r6, r7, r8) := by first | (rw [hy231]; with_reducible exact H) | (have H2_ := (Option.bind_some _ _).symm.trans H; rw [hy231]; with_reducible exact H2_) | (have H2_ := (Option.bind_some _ _).symm.trans H; with_reducible exact H2_) | with_reducible exact H | (rw [hy231]; exact H) | exact H
     have Ny231 := Aside0.mk hy231
     clear hy231
     have H' := Aside0.mk H
     clear H
     go_wp2_with (first | ((with_reducible refine gate_dst (N := 36) rfl ?_); refine Kd.R_lit Kd.string _ 9 ?hg (N := 36) ?hd (xs := ([(⟨#[121, 117, 101]⟩ : ByteArray), (⟨#[99, 109, 110]⟩ : ByteArray), (⟨#[109, 105, 110]⟩ : ByteArray)] : List ByteArray)) (inner := [.string (⟨#[121, 117, 101]⟩ : ByteArray), .string (⟨#[99, 109, 110]⟩ : ByteArray), .string (⟨#[109, 105, 110]⟩ : ByteArray)]) (ok := fun _ => True) (okp := fun _ => True) ?hr ?hp (fun _ hk => hk) trivial (Below.refl _ _) (Nat.le_refl _) (by simp) ?_; (case hd => rfl); (case hg => rfl); (case hr => first | (go_simp; done) | (go_simp; rfl)); (case hp => exact (Reps.one (show Kd.M Kd.string _ _ _ (⟨#[121, 117, 101]⟩ : ByteArray) [.string (⟨#[121, 117, 101]⟩ : ByteArray)] from rfl) (Reps.one (show Kd.M Kd.string _ _ _ (⟨#[99, 109, 110]⟩ : ByteArray) [.string (⟨#[99, 109, 110]⟩ : ByteArray)] from rfl) (Reps.one (show Kd.M Kd.string _ _ _ (⟨#[109, 105, 110]⟩ : ByteArray) [.string (⟨#[109, 105, 110]⟩ : ByteArray)] from rfl) (Reps.none _ _))))); intro v228 w40 ho41 hb hg_ hnew_; clear hg_ hnew_; (first | rw [← Ny227.out] at ho41 | (simp only [Int.reduceToNat] at ho41; rw [← Ny227.out] at ho41)); have n0_ := Aside0.mk (Kd.R_lower ho41 (below_size (by repeat (first | (with_reducible first | exact HB.out | apply wA_ | apply wN_ | apply wD_ | refine wS_ ?_ GE212.out | refine wS_ ?_ GE213.out | refine wS_ ?_ GE226.out) | exact HB.out)))); have n1_ := Aside0.mk (blk_below (g := gb212) (o := .cells #[.int .i64 a0_0, .int .i64 a0_1, .int .i64 a0_2, .int .i64 a0_3, .slice A0_4 l0_4.length c0_4, .slice A0_5 l0_5.length c0_5, .slice A0_6 l0_6.length c0_6, .int .i64 a0_7] 24 (0, 0)) (by (with_reducible repeat (first | refine bN_ ?_ _ | refine bD_ ?_ | refine bA_ ?_ _)); exact K1.out) hb); have n2_ := Aside0.mk (blk_below (g := gb213) (o := .cells zT_ 29 (0, 0)) (by (with_reducible repeat (first | refine bN_ ?_ _ | refine bD_ ?_ | refine bA_ ?_ _)); exact K2.out) hb); have n3_ := Aside0.mk (blk_below (g := gb226) (o := .cells #[.string t217, .slice none 0 0, .string t221, .string t225, .slice none 0 0, .slice none 0 0, .slice none 0 0, .string (⟨#[]⟩ : ByteArray)] 29 (0, 0)) (by (with_reducible repeat (first | refine bN_ ?_ _ | refine bD_ ?_ | refine bA_ ?_ _)); exact K3.out) hb); have n4_ := Aside0.mk (below_step (by repeat (first | (with_reducible first | exact HB.out | apply wA_ | apply wN_ | apply wD_ | refine wS_ ?_ GE212.out | refine wS_ ?_ GE213.out | refine wS_ ?_ GE226.out) | exact HB.out)) hb); clear K1; clear K2; clear K3; clear HB; have HO229 := n0_; have K1 := n1_; have K2 := n2_; have K3 := n3_; have HB := n4_; clear n0_ n1_ n2_ n3_ n4_; clear hb ho41; have hnb42 := N12.out; have hnc42 := N21.out; have hnb43 := N13.out; have hnc43 := N31.out; obtain ⟨z44_0, z44_1, z44_2, z44_3, z44_4, z44_5, z44_6, z44_7, f44_0, f44_1, f44_2, f44_3, f44_4, f44_5, f44_6, f44_7⟩ := cells8 K1.out; obtain ⟨Ao45, co45, eo45⟩ := Kd.R_slice HO229.out; subst eo45) | ((with_reducible refine gate_callee (f := 32) rfl ?_); refine goesL_ (some 40) rfl rfl Tryz.func32 (by kernel_rfl) rfl #[.slice Ao45 y227.length co45, .int .i64 (wrap64 (Int.tdiv a0_1 4))] rfl (by (try simp only [List.map_toArray, List.map_cons, List.map_nil]); first | done | rfl | (simp only [List.length_drop, List.length_take]; rfl)) ?_; (with_reducible refine (isoglossref06_Pick.calls _ _ y227 (wrap64 (Int.tdiv a0_1 4)) t230 _ ?side1 ?side2 A39.out).mono ?_); (case side1 => repeat (first | exact (Kd.R_reads' HO229.out).2.2 | (with_reducible refine Kd.C_alloc ?_ _) | (with_reducible refine Kd.C_drewN ?_ _) | (with_reducible refine Kd.C_drew ?_))); (case side2 => exact (Kd.R_reads' HO229.out).2.1); rintro e w' ⟨rfl, ⟨nd, rfl⟩⟩; refine ⟨_, rfl, ?_⟩; (try (rw [drewN_self w40]; generalize hq_ : World.drewN w40 _ = w40; have n0_ : Aside0 (Kd.R Kd.string 9 w40 w.heap.size (fun _ => True) (.slice Ao45 y227.length co45) y227) := ⟨by rw [← hq_]; exact (by (with_reducible repeat (first | apply rA_ | apply rN_ | apply rD_)); exact HO229.out)⟩; have n1_ : Aside0 (w40.heap[gb212]? = some (.cells #[.int .i64 a0_0, .int .i64 a0_1, .int .i64 a0_2, .int .i64 a0_3, .slice A0_4 l0_4.length c0_4, .slice A0_5 l0_5.length c0_5, .slice A0_6 l0_6.length c0_6, .int .i64 a0_7] 24 (0, 0))) := ⟨by rw [← hq_]; exact (by (with_reducible repeat (first | refine bN_ ?_ _ | refine bD_ ?_ | refine bA_ ?_ _)); exact K1.out)⟩; have n2_ : Aside0 (w40.heap[gb213]? = some (.cells zT_ 29 (0, 0))) := ⟨by rw [← hq_]; exact (by (with_reducible repeat (first | refine bN_ ?_ _ | refine bD_ ?_ | refine bA_ ?_ _)); exact K2.out)⟩; have n3_ : Aside0 (w40.heap[gb226]? = some (.cells #[.string t217, .slice none 0 0, .string t221, .string t225, .slice none 0 0, .slice none 0 0, .slice none 0 0, .string (⟨#[]⟩ : ByteArray)] 29 (0, 0))) := ⟨by rw [← hq_]; exact (by (with_reducible repeat (first | refine bN_ ?_ _ | refine bD_ ?_ | refine bA_ ?_ _)); exact K3.out)⟩; have n4_ : Aside0 (Below w.heap.size w w40) := ⟨by rw [← hq_]; exact (by repeat (first | (with_reducible first | exact HB.out | apply wA_ | apply wN_ | apply wD_ | refine wS_ ?_ GE212.out | refine wS_ ?_ GE213.out | refine wS_ ?_ GE226.out) | exact HB.out))⟩; clear HO229 K1 K2 K3 HB hq_; have HO229 := n0_; have K1 := n1_; have K2 := n2_; have K3 := n3_; have HB := n4_; clear n0_ n1_ n2_ n3_ n4_))) | ((with_reducible refine gate_dst (N := 41) rfl ?_); refine Kd.R_lit Kd.string _ 9 ?hg (N := 41) ?hd (xs := ([t230] : List ByteArray)) (inner := [.string t230]) (ok := fun _ => True) (okp := fun _ => True) ?hr ?hp (fun _ hk => hk) trivial (Below.refl _ _) (Nat.le_refl _) (by simp) ?_; (case hd => rfl); (case hg => rfl); (case hr => first | (go_simp; done) | (go_simp; rfl)); (case hp => exact (Reps.one (show Kd.M Kd.string _ _ _ t230 [.string t230] from rfl) (Reps.none _ _))); intro v232 w46 ho47 hb hg_ hnew_; clear hg_ hnew_; (first | rw [← Ny231.out] at ho47 | (simp only [Int.reduceToNat] at ho47; rw [← Ny231.out] at ho47)); have n0_ := Aside0.mk (Kd.R_elder' (by (with_reducible repeat (first | apply rA_ | apply rN_ | apply rD_)); exact HO229.out) (Kd.R_base ho47) hb); have n1_ := Aside0.mk (Kd.R_lower (Kd.R_new' ho47 (Kd.R_lt (by (with_reducible repeat (first | apply rA_ | apply rN_ | apply rD_)); exact HO229.out))) (below_size (by repeat (first | (with_reducible first | exact HB.out | apply wA_ | apply wN_ | apply wD_ | refine wS_ ?_ GE212.out | refine wS_ ?_ GE213.out | refine wS_ ?_ GE226.out) | exact HB.out)))); have n2_ := Aside0.mk (blk_below (g := gb212) (o := .cells #[.int .i64 a0_0, .int .i64 a0_1, .int .i64 a0_2, .int .i64 a0_3, .slice A0_4 l0_4.length c0_4, .slice A0_5 l0_5.length c0_5, .slice A0_6 l0_6.length c0_6, .int .i64 a0_7] 24 (0, 0)) (by (with_reducible repeat (first | refine bN_ ?_ _ | refine bD_ ?_ | refine bA_ ?_ _)); exact K1.out) hb); have n3_ := Aside0.mk (blk_below (g := gb213) (o := .cells zT_ 29 (0, 0)) (by (with_reducible repeat (first | refine bN_ ?_ _ | refine bD_ ?_ | refine bA_ ?_ _)); exact K2.out) hb); have n4_ := Aside0.mk (blk_below (g := gb226) (o := .cells #[.string t217, .slice none 0 0, .string t221, .string t225, .slice none 0 0, .slice none 0 0, .slice none 0 0, .string (⟨#[]⟩ : ByteArray)] 29 (0, 0)) (by (with_reducible repeat (first | refine bN_ ?_ _ | refine bD_ ?_ | refine bA_ ?_ _)); exact K3.out) hb); have n5_ := Aside0.mk (below_step (by repeat (first | (with_reducible first | exact HB.out | apply wA_ | apply wN_ | apply wD_ | refine wS_ ?_ GE212.out | refine wS_ ?_ GE213.out | refine wS_ ?_ GE226.out) | exact HB.out)) hb); clear HO229; clear K1; clear K2; clear K3; clear HB; have HO229 := n0_; have HO233 := n1_; have K1 := n2_; have K2 := n3_; have K3 := n4_; have HB := n5_; clear n0_ n1_ n2_ n3_ n4_ n5_; clear hb ho47; obtain ⟨Ao48, co48, eo48⟩ := Kd.R_slice HO233.out; subst eo48; have hnb49 := N32.out; have hnc49 := N23.out; obtain ⟨z50_0, z50_1, z50_2, z50_3, z50_4, z50_5, z50_6, z50_7, f50_0, f50_1, f50_2, f50_3, f50_4, f50_5, f50_6, f50_7⟩ := cells8 K3.out))
     go_meet
     case rel => exact ⟨_, (y231), (.slice Ao48 y231.length co48), H', ⟨by have := HJ7.out; first | omega | exact Nat.le_refl _⟩, ⟨by (with_reducible repeat (first | apply rA_ | apply rN_ | apply rD_)); exact Kd.R_mono (Kd.R_far (p := ⟨gb226, 1, none⟩) (Kd.R_types HO233.out K3.out (by decide)) (fun _ hk => hk.2) (.slice Ao48 y231.length co48)) (fun _ hk => trivial)⟩, ⟨by (with_reducible repeat (first | refine bN_ ?_ _ | refine bD_ ?_ | refine bA_ ?_ _)); refine blk_far ?_ N13.out _; (with_reducible repeat (first | refine bN_ ?_ _ | refine bD_ ?_ | refine bA_ ?_ _)); exact K1.out⟩, ⟨by (with_reducible repeat (first | refine bN_ ?_ _ | refine bD_ ?_ | refine bA_ ?_ _)); refine blk_far ?_ N23.out _; (with_reducible repeat (first | refine bN_ ?_ _ | refine bD_ ?_ | refine bA_ ?_ _)); exact K2.out⟩, ⟨by (with_reducible repeat (first | refine bN_ ?_ _ | refine bD_ ?_ | refine bA_ ?_ _)); refine blk_put (cs := #[.string t217, .slice none 0 0, .string t221, .string t225, .slice none 0 0, .slice none 0 0, .slice none 0 0, .string (⟨#[]⟩ : ByteArray)]) ?_ 1 _ rfl; (with_reducible repeat (first | refine bN_ ?_ _ | refine bD_ ?_ | refine bA_ ?_ _)); exact K3.out⟩, ⟨by repeat (first | (with_reducible first | exact HB.out | apply wA_ | apply wN_ | apply wD_ | refine wS_ ?_ GE212.out | refine wS_ ?_ GE213.out | refine wS_ ?_ GE226.out) | exact HB.out)⟩⟩
    ·replace c38 := Bool.eq_false_iff.mpr c38
     subst c38
     have H1 : (mD.j1 kj7 a0_0 a0_1 a0_2 a0_3 l0_4 l0_5 l0_6 a0_7 t217 ([] : List ByteArray) t221 t225 (⟨#[]⟩ : ByteArray)) = some (r1, r2, r3, r4, r5, r6, r7, r8) := by rw [if_neg (show ¬ (false = true) by decide)] at H; exact H
     clear H
     have H := H1
     clear H1
     have H' := Aside0.mk H
     clear H
     go_wp2
     go_meet
     case rel => exact ⟨_, (([] : List ByteArray)), (.slice none 0 0), H', ⟨by have := HJ7.out; first | omega | exact Nat.le_refl _⟩, ⟨by first | exact Kd.R_nil _ _ _ _ _ | exact Kd.N_nil _ _ _ _ _ | exact Kd.V_nil _ _ _ _ _ | exact Kd.Q_nil _ _ _ _ _ | exact Kd.S_nil _ _ _ _ _⟩, ⟨by (with_reducible repeat (first | refine bN_ ?_ _ | refine bD_ ?_ | refine bA_ ?_ _)); exact K1.out⟩, ⟨by (with_reducible repeat (first | refine bN_ ?_ _ | refine bD_ ?_ | refine bA_ ?_ _)); exact K2.out⟩, ⟨by (with_reducible repeat (first | refine bN_ ?_ _ | refine bD_ ?_ | refine bA_ ?_ _)); exact K3.out⟩, ⟨by repeat (first | (with_reducible first | exact HB.out | apply wA_ | apply wN_ | apply wD_ | refine wS_ ?_ GE212.out | refine wS_ ?_ GE213.out | refine wS_ ?_ GE226.out) | exact HB.out)⟩⟩
   case rest =>
    clear HC37
    try clear c2; try clear p2; try clear c3; try clear c4; try clear p6; try clear c28; try clear c28b0; try clear c28b1; try clear c29; try clear c30; try clear c32; try clear c34; try clear c35; try clear c38; try clear c42; try clear c43; try clear c49
    try clear z31_0 z31_1 z31_2 z31_3 z31_4 z31_5 z31_6 z31_7 f31_0 f31_1 f31_2 f31_3 f31_4 f31_5 f31_6 f31_7; try clear z33_0 z33_1 z33_2 z33_3 z33_4 z33_5 z33_6 z33_7 f33_0 f33_1 f33_2 f33_3 f33_4 f33_5 f33_6 f33_7; try clear z36_0 z36_1 z36_2 z36_3 z36_4 z36_5 z36_6 z36_7 f36_0 f36_1 f36_2 f36_3 f36_4 f36_5 f36_6 f36_7; try clear z44_0 z44_1 z44_2 z44_3 z44_4 z44_5 z44_6 z44_7 f44_0 f44_1 f44_2 f44_3 f44_4 f44_5 f44_6 f44_7; try clear z50_0 z50_1 z50_2 z50_3 z50_4 z50_5 z50_6 z50_7 f50_0 f50_1 f50_2 f50_3 f50_4 f50_5 f50_6 f50_7
    try clear p2
    obtain ⟨kq, x1_, u227001, HA, HJ36, O1, K1, K2, K3, HB⟩ := hcut
    cases kq with
    | zero => exact absurd HA.out (by simp [mD.j1])
    | succ kj36 =>
     have H := HA.out
     clear HA
     simp only [mD.j1] at H
     have H' := Aside0.mk H
     clear H
     go_wp2
     go_loopg [4] kj36 (fun kq v4 w' => ∃ (x4_3 : Int) (x4_ : List ByteArray) (u227004 : Value), v4 = .int .i64 x4_3 ∧ Aside0 (mD.l0 kq x4_3 a0_0 a0_1 a0_2 a0_3 l0_4 l0_5 l0_6 a0_7 t217 x1_ t221 t225 x4_ (⟨#[]⟩ : ByteArray) = some (r1, r2, r3, r4, r5, r6, r7, r8)) ∧ Aside0 (kq ≤ kj36) ∧ Aside0 (Kd.R Kd.string 9 w' w.heap.size (fun k_ => some k_ ≠ (u227004 : Value).ownBlock) u227001 x1_) ∧ Aside0 (Kd.R Kd.string 9 w' w.heap.size (fun k_ => some k_ ≠ (u227001 : Value).ownBlock) u227004 x4_) ∧ Aside0 (w'.heap[gb212]? = some (.cells #[.int .i64 a0_0, .int .i64 a0_1, .int .i64 a0_2, .int .i64 a0_3, (.slice A0_4 l0_4.length c0_4), (.slice A0_5 l0_5.length c0_5), (.slice A0_6 l0_6.length c0_6), .int .i64 a0_7] 24 (0, 0))) ∧ Aside0 (w'.heap[gb213]? = some (.cells zT_ 29 (0, 0))) ∧ Aside0 (w'.heap[gb226]? = some (.cells #[.string t217, u227001, .string t221, .string t225, u227004, (.slice none 0 0), (.slice none 0 0), .string (⟨#[]⟩ : ByteArray)] 29 (0, 0))) ∧ Aside0 (Below w.heap.size w w'))
     case atStart => exact ⟨(0), (([] : List ByteArray)), (.slice none 0 0), (by first | rfl | (simp; done) | (simp [*]; done)), H', ⟨Nat.le_refl _⟩, ⟨by (with_reducible repeat (first | apply rA_ | apply rN_ | apply rD_)); exact Kd.R_mono O1.out (fun _ hk => (by simp [Value.ownBlock]))⟩, ⟨by first | exact Kd.R_nil _ _ _ _ _ | exact Kd.N_nil _ _ _ _ _ | exact Kd.V_nil _ _ _ _ _ | exact Kd.Q_nil _ _ _ _ _ | exact Kd.S_nil _ _ _ _ _⟩, ⟨by (with_reducible repeat (first | refine bN_ ?_ _ | refine bD_ ?_ | refine bA_ ?_ _)); exact K1.out⟩, ⟨by (with_reducible repeat (first | refine bN_ ?_ _ | refine bD_ ?_ | refine bA_ ?_ _)); exact K2.out⟩, ⟨by (with_reducible repeat (first | refine bN_ ?_ _ | refine bD_ ?_ | refine bA_ ?_ _)); exact K3.out⟩, ⟨by repeat (first | (with_reducible first | exact HB.out | apply wA_ | apply wN_ | apply wD_ | refine wS_ ?_ GE212.out | refine wS_ ?_ GE213.out | refine wS_ ?_ GE226.out) | exact HB.out)⟩⟩
     case round =>
      clear H'
      try clear c2; try clear p2; try clear c3; try clear c4; try clear p6; try clear c28; try clear c28b0; try clear c28b1; try clear c29; try clear c30; try clear c32; try clear c34; try clear c35; try clear c38; try clear c42; try clear c43; try clear c49
      try clear z31_0 z31_1 z31_2 z31_3 z31_4 z31_5 z31_6 z31_7 f31_0 f31_1 f31_2 f31_3 f31_4 f31_5 f31_6 f31_7; try clear z33_0 z33_1 z33_2 z33_3 z33_4 z33_5 z33_6 z33_7 f33_0 f33_1 f33_2 f33_3 f33_4 f33_5 f33_6 f33_7; try clear z36_0 z36_1 z36_2 z36_3 z36_4 z36_5 z36_6 z36_7 f36_0 f36_1 f36_2 f36_3 f36_4 f36_5 f36_6 f36_7; try clear z44_0 z44_1 z44_2 z44_3 z44_4 z44_5 z44_6 z44_7 f44_0 f44_1 f44_2 f44_3 f44_4 f44_5 f44_6 f44_7; try clear z50_0 z50_1 z50_2 z50_3 z50_4 z50_5 z50_6 z50_7 f50_0 f50_1 f50_2 f50_3 f50_4 f50_5 f50_6 f50_7
      try clear p2; try clear p6
      obtain ⟨x4_3, x4_, u227004, rfl, HA, HK3, O1, O4, K1, K2, K3, HB⟩ := hrel
      cases gk with
      | zero => exact absurd HA.out (by simp [mD.l0])
      | succ k3 =>
       have H := HA.out
       clear HA
       simp only [mD.l0] at H
       have HC51 := Aside0.mk H
       clear H
       go_upto_region 5 with (fail)
       go_cut [51] (fun v51 wc => ∃ (kq : Nat) (x51_50 : Bool), v51 = .bool x51_50 ∧ Aside0 (mD.j3 kq x4_3 x51_50 a0_0 a0_1 a0_2 a0_3 l0_4 l0_5 l0_6 a0_7 t217 x1_ t221 t225 x4_ (⟨#[]⟩ : ByteArray) = some (r1, r2, r3, r4, r5, r6, r7, r8)) ∧ Aside0 (kq ≤ k3) ∧ Aside0 (Kd.R Kd.string 9 wc w.heap.size (fun k_ => some k_ ≠ (u227004 : Value).ownBlock) u227001 x1_) ∧ Aside0 (Kd.R Kd.string 9 wc w.heap.size (fun k_ => some k_ ≠ (u227001 : Value).ownBlock) u227004 x4_) ∧ Aside0 (wc.heap[gb212]? = some (.cells #[.int .i64 a0_0, .int .i64 a0_1, .int .i64 a0_2, .int .i64 a0_3, (.slice A0_4 l0_4.length c0_4), (.slice A0_5 l0_5.length c0_5), (.slice A0_6 l0_6.length c0_6), .int .i64 a0_7] 24 (0, 0))) ∧ Aside0 (wc.heap[gb213]? = some (.cells zT_ 29 (0, 0))) ∧ Aside0 (wc.heap[gb226]? = some (.cells #[.string t217, u227001, .string t221, .string t225, u227004, (.slice none 0 0), (.slice none 0 0), .string (⟨#[]⟩ : ByteArray)] 29 (0, 0))) ∧ Aside0 (Below w.heap.size w wc))
       case first =>
        have H := HC51.out
        clear HC51
        by_cases c52 : x4_3 < (l0_4.length : Int)
        ·rw [if_pos c52] at H
         have c52b0 : decide (x4_3 < (l0_4.length : Int)) = true := decide_eq_true c52
         clear c52
         (first | rw [c52b0] | (simp only [i64_w, i32_w]; rw [c52b0]) | skip)
         have H' := Aside0.mk H
         clear H
         have hnb53 := N12.out
         have hnc53 := N21.out
         have hnb54 := N13.out
         have hnc54 := N31.out
         obtain ⟨z55_0, z55_1, z55_2, z55_3, z55_4, z55_5, z55_6, z55_7, f55_0, f55_1, f55_2, f55_3, f55_4, f55_5, f55_6, f55_7⟩ := cells8 K1.out
         go_wp2
         go_meet
         case rel => exact ⟨_, (decide (x4_3 < 4)), (by first | rfl | (simp; done) | (simp [*]; done)), H', ⟨by have := HJ7.out; have := HJ36.out; have := HK3.out; first | omega | exact Nat.le_refl _⟩, ⟨by (with_reducible repeat (first | apply rA_ | apply rN_ | apply rD_)); exact O1.out⟩, ⟨by (with_reducible repeat (first | apply rA_ | apply rN_ | apply rD_)); exact O4.out⟩, ⟨by (with_reducible repeat (first | refine bN_ ?_ _ | refine bD_ ?_ | refine bA_ ?_ _)); exact K1.out⟩, ⟨by (with_reducible repeat (first | refine bN_ ?_ _ | refine bD_ ?_ | refine bA_ ?_ _)); exact K2.out⟩, ⟨by (with_reducible repeat (first | refine bN_ ?_ _ | refine bD_ ?_ | refine bA_ ?_ _)); exact K3.out⟩, ⟨by repeat (first | (with_reducible first | exact HB.out | apply wA_ | apply wN_ | apply wD_ | refine wS_ ?_ GE212.out | refine wS_ ?_ GE213.out | refine wS_ ?_ GE226.out) | exact HB.out)⟩⟩
        ·rw [if_neg c52] at H
         have c52b0 : decide (x4_3 < (l0_4.length : Int)) = false := decide_eq_false c52
         clear c52
         (first | rw [c52b0] | (simp only [i64_w, i32_w]; rw [c52b0]) | skip)
         have H' := Aside0.mk H
         clear H
         have hnb56 := N12.out
         have hnc56 := N21.out
         have hnb57 := N13.out
         have hnc57 := N31.out
         obtain ⟨z58_0, z58_1, z58_2, z58_3, z58_4, z58_5, z58_6, z58_7, f58_0, f58_1, f58_2, f58_3, f58_4, f58_5, f58_6, f58_7⟩ := cells8 K1.out
         go_wp2
         go_meet
         case rel => exact ⟨_, (false), (by first | rfl | (simp; done) | (simp [*]; done)), H', ⟨by have := HJ7.out; have := HJ36.out; have := HK3.out; first | omega | exact Nat.le_refl _⟩, ⟨by (with_reducible repeat (first | apply rA_ | apply rN_ | apply rD_)); exact O1.out⟩, ⟨by (with_reducible repeat (first | apply rA_ | apply rN_ | apply rD_)); exact O4.out⟩, ⟨by (with_reducible repeat (first | refine bN_ ?_ _ | refine bD_ ?_ | refine bA_ ?_ _)); exact K1.out⟩, ⟨by (with_reducible repeat (first | refine bN_ ?_ _ | refine bD_ ?_ | refine bA_ ?_ _)); exact K2.out⟩, ⟨by (with_reducible repeat (first | refine bN_ ?_ _ | refine bD_ ?_ | refine bA_ ?_ _)); exact K3.out⟩, ⟨by repeat (first | (with_reducible first | exact HB.out | apply wA_ | apply wN_ | apply wD_ | refine wS_ ?_ GE212.out | refine wS_ ?_ GE213.out | refine wS_ ?_ GE226.out) | exact HB.out)⟩⟩
       case rest =>
        clear HC51
        try clear c2; try clear p2; try clear c3; try clear c4; try clear c5; try clear p6; try clear c28; try clear c28b0; try clear c28b1; try clear c29; try clear c30; try clear c32; try clear c34; try clear c35; try clear c38; try clear c42; try clear c43; try clear c49; try clear c52; try clear c52b0; try clear c53; try clear c54; try clear c56; try clear c57
        try clear z31_0 z31_1 z31_2 z31_3 z31_4 z31_5 z31_6 z31_7 f31_0 f31_1 f31_2 f31_3 f31_4 f31_5 f31_6 f31_7; try clear z33_0 z33_1 z33_2 z33_3 z33_4 z33_5 z33_6 z33_7 f33_0 f33_1 f33_2 f33_3 f33_4 f33_5 f33_6 f33_7; try clear z36_0 z36_1 z36_2 z36_3 z36_4 z36_5 z36_6 z36_7 f36_0 f36_1 f36_2 f36_3 f36_4 f36_5 f36_6 f36_7; try clear z44_0 z44_1 z44_2 z44_3 z44_4 z44_5 z44_6 z44_7 f44_0 f44_1 f44_2 f44_3 f44_4 f44_5 f44_6 f44_7; try clear z50_0 z50_1 z50_2 z50_3 z50_4 z50_5 z50_6 z50_7 f50_0 f50_1 f50_2 f50_3 f50_4 f50_5 f50_6 f50_7; try clear z55_0 z55_1 z55_2 z55_3 z55_4 z55_5 z55_6 z55_7 f55_0 f55_1 f55_2 f55_3 f55_4 f55_5 f55_6 f55_7; try clear z58_0 z58_1 z58_2 z58_3 z58_4 z58_5 z58_6 z58_7 f58_0 f58_1 f58_2 f58_3 f58_4 f58_5 f58_6 f58_7
        try clear p2; try clear p6
        obtain ⟨kq, x51_50, rfl, HA, HJ50, O1, O4, K1, K2, K3, HB⟩ := hcut
        cases kq with
        | zero => exact absurd HA.out (by simp [mD.j3])
        | succ kj50 =>
         have H := HA.out
         clear HA
         simp only [mD.j3] at H
         by_cases c59 : x51_50 = true
         ·subst c59
          have H1 : ((isoglossref06_variants.f).bind fun t234 => (if 0 ≤ x4_3 then (if x4_3 < (l0_4.length : Int) then ((isoglossref06_Pick.f t234 (rd l0_4 x4_3)).bind fun t238 => (mD.l1 kj50 x4_3 t238 false 0 a0_0 a0_1 a0_2 a0_3 l0_4 l0_5 l0_6 a0_7 t217 x1_ t221 t225 x4_ (⟨#[]⟩ : ByteArray))) else (none)) else (none))) = some (r1, r2, r3, r4, r5, r6, r7, r8) := by rw [if_pos rfl] at H; exact H
          clear H
          have H := H1
          clear H1
          replace H := Option.bind_eq_some_iff.mp H
          obtain ⟨t234, A622, H⟩ := H
          replace H : (if 0 ≤ x4_3 then (if x4_3 < (l0_4.length : Int) then ((isoglossref06_Pick.f t234 (rd l0_4 x4_3)).bind fun t238 => (mD.l1 kj50 x4_3 t238 false 0 a0_0 a0_1 a0_2 a0_3 l0_4 l0_5 l0_6 a0_7 t217 x1_ t221 t225 x4_ (⟨#[]⟩ : ByteArray))) else (none)) else (none)) = some (r1, r2, r3, r4, r5, r6, r7, r8) := H
          have A60 := Aside0.mk A622
          clear A622
          by_cases c61 : 0 ≤ x4_3
          ·rw [if_pos c61] at H
           have c61b0 : decide (0 ≤ x4_3) = true := decide_eq_true c61
           clear c61
           by_cases c62 : x4_3 < (l0_4.length : Int)
           ·rw [if_pos c62] at H
            have c62b0 : decide (x4_3 < (l0_4.length : Int)) = true := decide_eq_true c62
            clear c62
            replace H := Option.bind_eq_some_iff.mp H
            obtain ⟨t238, A652, H⟩ := H
            replace H : (mD.l1 kj50 x4_3 t238 false 0 a0_0 a0_1 a0_2 a0_3 l0_4 l0_5 l0_6 a0_7 t217 x1_ t221 t225 x4_ (⟨#[]⟩ : ByteArray)) = some (r1, r2, r3, r4, r5, r6, r7, r8) := H
            have A63 := Aside0.mk A652
            clear A652
            have H' := Aside0.mk H
            clear H
            try go_wp2
            have n0_ := Aside0.mk (rD_ O1.out)
            have n1_ := Aside0.mk (rD_ O4.out)
            have n2_ := Aside0.mk (bD_ K1.out)
            have n3_ := Aside0.mk (bD_ K2.out)
            have n4_ := Aside0.mk (bD_ K3.out)
            have n5_ := Aside0.mk (wD_ HB.out)
            clear O1 O4 K1 K2 K3 HB
            have O1 := n0_; have O4 := n1_; have K1 := n2_; have K2 := n3_; have K3 := n4_; have HB := n5_
            clear n0_ n1_ n2_ n3_ n4_ n5_
            have p237 : 0 ≤ (x4_3 : Int) := of_decide_eq_true (by first | (with_reducible assumption) | assumption)
            have q237 : x4_3 < (l0_4.length : Int) := of_decide_eq_true (by first | (with_reducible assumption) | assumption)
            obtain ⟨ad237, e237, hx237_0⟩ := Kd.at_int HR0_4.out x4_3 p237 q237
            have hw237_0 := hx237_0
            cases e237
            replace hx237_0 := (HB.out.cell (World.block_lt_of_cell? w _ hx237_0)).trans hx237_0
            replace p237 := eq_true p237
            replace q237 := eq_true q237
            refine start_ (n := 8) (S := fun w' => w'.cell? ⟨gb212, 0, none⟩ = some (.int .i64 a0_0) ∧ w'.cell? ⟨gb212, 1, none⟩ = some (.int .i64 a0_1) ∧ w'.cell? ⟨gb212, 2, none⟩ = some (.int .i64 a0_2) ∧ w'.cell? ⟨gb212, 3, none⟩ = some (.int .i64 a0_3) ∧ w'.cell? ⟨gb212, 4, none⟩ = some (.slice (some ad237) l0_4.length c0_4) ∧ w'.cell? ⟨gb212, 5, none⟩ = some (.slice A0_5 l0_5.length c0_5) ∧ w'.cell? ⟨gb212, 6, none⟩ = some (.slice A0_6 l0_6.length c0_6) ∧ w'.cell? ⟨gb212, 7, none⟩ = some (.int .i64 a0_7) ∧ w'.cell? (ad237.add (x4_3).toNat) = some (.int .i64 (rd l0_4 x4_3))) (ds := []) #[false, false, false, false, false, false, false, false] (by kernel_rfl) rfl rfl ⟨(bC_ K1.out 0).trans rfl, (bC_ K1.out 1).trans rfl, (bC_ K1.out 2).trans rfl, (bC_ K1.out 3).trans rfl, (bC_ K1.out 4).trans rfl, (bC_ K1.out 5).trans rfl, (bC_ K1.out 6).trans rfl, (bC_ K1.out 7).trans rfl, ((HB.out.cell (World.block_lt_of_cell? w _ hw237_0)).trans hw237_0)⟩ (fun hHeld => ?_); refine with_tabW mD.tab7 mD.bits7 (fun HT_ HW_ => ?_)
            generalize wc.drew = w64 at O1 O4 K1 K2 K3 HB hx237_0 hHeld ⊢
            refine pure_ (i := 1) (N := some 55) (v := ?_) (a' := ?_) #[false, true, false, false, false, false, false, false] rfl rfl (any_of HT_.out (by kernel_rfl)) (fun _ _ _ h => h) (Or.inl ⟨by rfl, ?_⟩) ?_ ?_
            rotate_left
            ·intro w'
             go_simp
             with_reducible rfl
            rotate_left
            ·simp only [Act.put, sA_, sB_, sC_, i64_w, i32_w]
             rfl
            refine pure_ (i := 3) (N := some 57) (v := ?_) (a' := ?_) #[false, true, false, true, false, false, false, false] rfl rfl (any_of HT_.out (by kernel_rfl)) (fun _ _ _ h => h) (Or.inl ⟨by rfl, ?_⟩) ?_ ?_
            rotate_left
            ·intro w'
             go_simp
             with_reducible rfl
            rotate_left
            ·simp only [Act.put, sA_, sB_, sC_, i64_w, i32_w]
             rfl
            refine take_ (i := 2) (N := some 56) (v := ?_) (a' := ?_) #[false, true, true, true, false, false, false, false] rfl rfl (take_ofW HT_.out HW_.out (by kernel_rfl)) (fun _ _ _ h => h) (Or.inl ⟨by rfl, ?_⟩) hHeld ?_ ?_
            rotate_left
            ·rintro w' ⟨s0, s1, s2, s3, s4, s5, s6, s7, s8⟩
             go_simp
             with_reducible rfl
            rotate_left
            ·simp only [Act.put, sA_, sB_, sC_, i64_w, i32_w]
             rfl
            refine pure_ (i := 4) (N := some 58) (v := ?_) (a' := ?_) #[false, true, true, true, true, false, false, false] rfl rfl (any_of HT_.out (by kernel_rfl)) (fun _ _ _ h => h) (Or.inl ⟨by rfl, ?_⟩) ?_ ?_
            rotate_left
            ·intro w'
             go_simp
             with_reducible rfl
            rotate_left
            ·simp only [Act.put, sA_, sB_, sC_, i64_w, i32_w]
             rfl
            refine take_ (i := 5) (N := some 59) (v := ?_) (a' := ?_) #[false, true, true, true, true, true, false, false] rfl rfl (take_ofW HT_.out HW_.out (by kernel_rfl)) (fun _ _ _ h => h) (Or.inl ⟨by rfl, ?_⟩) hHeld ?_ ?_
            rotate_left
            ·rintro w' ⟨s0, s1, s2, s3, s4, s5, s6, s7, s8⟩
             go_simp
             with_reducible rfl
            rotate_left
            ·simp only [Act.put, sA_, sB_, sC_, i64_w, i32_w]
             rfl
            refine one_ (i := 0) (N := some 54) #[true, true, true, true, true, true, false, false] rfl rfl (one_of HT_.out (by kernel_rfl)) (by decide) (fun K hK => ?_)
            refine goes_ Tryz.func36 (by kernel_rfl) rfl #[] (by rfl) rfl rfl (by (try simp only [List.map_toArray, List.map_cons, List.map_nil]); first | done | rfl | (simp only [List.length_drop, List.length_take]; rfl)) ?_
            with_reducible refine (isoglossref06_variants.calls  t234 _ A60.out).mono ?_
            rintro e w65 ⟨v235, rfl, ho0, hb⟩
            refine ⟨_, rfl, ?_⟩
            have n0_ := Aside0.mk (Kd.R_elder' (by (with_reducible repeat (first | apply rA_ | apply rN_ | apply rD_)); exact O1.out) (Kd.R_base ho0) hb)
            have n1_ := Aside0.mk (Kd.R_elder' (by (with_reducible repeat (first | apply rA_ | apply rN_ | apply rD_)); exact O4.out) (Kd.R_base ho0) hb)
            have n2_ := Aside0.mk (Kd.R_lower (Kd.R_new' (Kd.R_new' ho0 (Kd.R_lt (by (with_reducible repeat (first | apply rA_ | apply rN_ | apply rD_)); exact O1.out))) (Kd.R_lt (by (with_reducible repeat (first | apply rA_ | apply rN_ | apply rD_)); exact O4.out))) (below_size (by repeat (first | (with_reducible first | exact HB.out | apply wA_ | apply wN_ | apply wD_ | refine wS_ ?_ GE212.out | refine wS_ ?_ GE213.out | refine wS_ ?_ GE226.out) | exact HB.out))))
            have n3_ := Aside0.mk (blk_below (g := gb212) (o := .cells #[.int .i64 a0_0, .int .i64 a0_1, .int .i64 a0_2, .int .i64 a0_3, .slice (some ad237) l0_4.length c0_4, .slice A0_5 l0_5.length c0_5, .slice A0_6 l0_6.length c0_6, .int .i64 a0_7] 24 (0, 0)) (by (with_reducible repeat (first | refine bN_ ?_ _ | refine bD_ ?_ | refine bA_ ?_ _)); exact K1.out) hb)
            have n4_ := Aside0.mk (blk_below (g := gb213) (o := .cells zT_ 29 (0, 0)) (by (with_reducible repeat (first | refine bN_ ?_ _ | refine bD_ ?_ | refine bA_ ?_ _)); exact K2.out) hb)
            have n5_ := Aside0.mk (blk_below (g := gb226) (o := .cells #[.string t217, u227001, .string t221, .string t225, u227004, .slice none 0 0, .slice none 0 0, .string (⟨#[]⟩ : ByteArray)] 29 (0, 0)) (by (with_reducible repeat (first | refine bN_ ?_ _ | refine bD_ ?_ | refine bA_ ?_ _)); exact K3.out) hb)
            have n6_ := Aside0.mk (below_step (by repeat (first | (with_reducible first | exact HB.out | apply wA_ | apply wN_ | apply wD_ | refine wS_ ?_ GE212.out | refine wS_ ?_ GE213.out | refine wS_ ?_ GE226.out) | exact HB.out)) hb)
            clear O1 O4 K1 K2 K3 HB
            have O1 := n0_; have O4 := n1_; have HO236 := n2_; have K1 := n3_; have K2 := n4_; have K3 := n5_; have HB := n6_
            clear n0_ n1_ n2_ n3_ n4_ n5_ n6_
            (try clear hb); (try clear hb2); (try clear hk); (try clear hi); (try clear ho0)
            obtain ⟨Ao66, co66, eo66⟩ := Kd.R_slice HO236.out
            (first | subst eo66 | (injection eo66 with f1_ f2_ f3_; have f4_ := f1_.symm; have f5_ := f3_.symm; clear f1_ f2_ f3_; subst f4_; subst f5_))
            refine hK.out _ _ ⟨(bC_ K1.out 0).trans rfl, (bC_ K1.out 1).trans rfl, (bC_ K1.out 2).trans rfl, (bC_ K1.out 3).trans rfl, (bC_ K1.out 4).trans rfl, (bC_ K1.out 5).trans rfl, (bC_ K1.out 6).trans rfl, (bC_ K1.out 7).trans rfl, ((HB.out.cell (World.block_lt_of_cell? w _ hw237_0)).trans hw237_0)⟩ (fun hHeld => ?_)
            clear hK K
            refine norm_ (a' := ?_) ?_ ?_
            rotate_left
            ·show Act.put _ (some 54) _ = _
             simp only [Act.put, sA_, sB_, sC_, i64_w, i32_w]
             rfl
            refine one_ (i := 6) (N := some 60) #[true, true, true, true, true, true, true, false] rfl rfl (one_of HT_.out (by kernel_rfl)) (by decide) (fun K hK => ?_)
            refine goes_ Tryz.func32 (by kernel_rfl) rfl #[.slice Ao66 t234.length co66, .int .i64 (rd l0_4 x4_3)] (by rfl) rfl rfl (by (try simp only [List.map_toArray, List.map_cons, List.map_nil]); first | done | rfl | (simp only [List.length_drop, List.length_take]; rfl)) ?_
            with_reducible refine (isoglossref06_Pick.calls _ _ t234 (rd l0_4 x4_3) t238 _ ?side1 ?side2 A63.out).mono ?_
            (case side1 => repeat (first | exact (Kd.R_reads' HO236.out).2.2 | (with_reducible refine Kd.C_alloc ?_ _) | (with_reducible refine Kd.C_drewN ?_ _) | (with_reducible refine Kd.C_drew ?_)))
            (case side2 => exact (Kd.R_reads' HO236.out).2.1)
            rintro e w' ⟨rfl, ⟨nd, rfl⟩⟩
            refine ⟨_, rfl, ?_⟩
            refine hK.out _ _ ⟨(bC_ K1.out 0).trans rfl, (bC_ K1.out 1).trans rfl, (bC_ K1.out 2).trans rfl, (bC_ K1.out 3).trans rfl, (bC_ K1.out 4).trans rfl, (bC_ K1.out 5).trans rfl, (bC_ K1.out 6).trans rfl, (bC_ K1.out 7).trans rfl, ((HB.out.cell (World.block_lt_of_cell? w _ hw237_0)).trans hw237_0)⟩ (fun hHeld => ?_)
            clear hK K
            refine norm_ (a' := ?_) ?_ ?_
            rotate_left
            ·show Act.put _ (some 60) _ = _
             simp only [Act.put, sA_, sB_, sC_, i64_w, i32_w]
             rfl
            refine pure_ (i := 7) (N := some 5) (v := ?_) (a' := ?_) #[true, true, true, true, true, true, true, true] rfl rfl (any_of HT_.out (by kernel_rfl)) (fun _ _ _ h => h) (Or.inl ⟨by rfl, ?_⟩) ?_ ?_
            rotate_left
            ·intro w'
             go_simp
             with_reducible rfl
            rotate_left
            ·simp only [Act.put, sA_, sB_, sC_, i64_w, i32_w]
             rfl
            refine done_ (done_of HT_.out (by kernel_rfl)) ?_
            try go_wp2
            go_loopg [6, 7] kj50 (fun kq v6 v7 w' => ∃ (x6_5 : Bool) (x7_5 : Int), v6 = .bool x6_5 ∧ v7 = .int .i64 x7_5 ∧ Aside0 (mD.l1 kq x4_3 t238 x6_5 x7_5 a0_0 a0_1 a0_2 a0_3 l0_4 l0_5 l0_6 a0_7 t217 x1_ t221 t225 x4_ (⟨#[]⟩ : ByteArray) = some (r1, r2, r3, r4, r5, r6, r7, r8)) ∧ Aside0 (kq ≤ kj50) ∧ Aside0 (Kd.R Kd.string 9 w' w.heap.size (fun k_ => some k_ ≠ (u227004 : Value).ownBlock) u227001 x1_) ∧ Aside0 (Kd.R Kd.string 9 w' w.heap.size (fun k_ => some k_ ≠ (u227001 : Value).ownBlock) u227004 x4_) ∧ Aside0 (w'.heap[gb212]? = some (.cells #[.int .i64 a0_0, .int .i64 a0_1, .int .i64 a0_2, .int .i64 a0_3, (.slice (some ad237) l0_4.length c0_4), (.slice A0_5 l0_5.length c0_5), (.slice A0_6 l0_6.length c0_6), .int .i64 a0_7] 24 (0, 0))) ∧ Aside0 (w'.heap[gb213]? = some (.cells zT_ 29 (0, 0))) ∧ Aside0 (w'.heap[gb226]? = some (.cells #[.string t217, u227001, .string t221, .string t225, u227004, (.slice none 0 0), (.slice none 0 0), .string (⟨#[]⟩ : ByteArray)] 29 (0, 0))) ∧ Aside0 (Below w.heap.size w w'))
            case atStart => exact ⟨(false), (0), (by first | rfl | (simp; done) | (simp [*]; done)), (by first | rfl | (simp; done) | (simp [*]; done)), H', ⟨Nat.le_refl _⟩, ⟨by (with_reducible repeat (first | apply rA_ | apply rN_ | apply rD_)); exact Kd.R_mono O1.out (fun _ hk => hk.1)⟩, ⟨by (with_reducible repeat (first | apply rA_ | apply rN_ | apply rD_)); exact Kd.R_mono O4.out (fun _ hk => hk.1)⟩, ⟨by (with_reducible repeat (first | refine bN_ ?_ _ | refine bD_ ?_ | refine bA_ ?_ _)); exact K1.out⟩, ⟨by (with_reducible repeat (first | refine bN_ ?_ _ | refine bD_ ?_ | refine bA_ ?_ _)); exact K2.out⟩, ⟨by (with_reducible repeat (first | refine bN_ ?_ _ | refine bD_ ?_ | refine bA_ ?_ _)); exact K3.out⟩, ⟨by repeat (first | (with_reducible first | exact HB.out | apply wA_ | apply wN_ | apply wD_ | refine wS_ ?_ GE212.out | refine wS_ ?_ GE213.out | refine wS_ ?_ GE226.out) | exact HB.out)⟩⟩
            case round =>
             clear H'
             try clear c2; try clear p2; try clear q2; try clear hx2; try clear c3; try clear c4; try clear c5; try clear c6; try clear p6; try clear p21; try clear q21; try clear hx21; try clear c28; try clear c28b0; try clear c28b1; try clear c29; try clear c30; try clear c32; try clear c34; try clear c35; try clear c36; try clear c38; try clear c42; try clear c43; try clear c49; try clear c52; try clear c52b0; try clear c53; try clear c54; try clear c56; try clear c57; try clear c59; try clear c61; try clear c61b0; try clear c62; try clear c62b0
             try clear z31_0 z31_1 z31_2 z31_3 z31_4 z31_5 z31_6 z31_7 f31_0 f31_1 f31_2 f31_3 f31_4 f31_5 f31_6 f31_7; try clear z33_0 z33_1 z33_2 z33_3 z33_4 z33_5 z33_6 z33_7 f33_0 f33_1 f33_2 f33_3 f33_4 f33_5 f33_6 f33_7; try clear z36_0 z36_1 z36_2 z36_3 z36_4 z36_5 z36_6 z36_7 f36_0 f36_1 f36_2 f36_3 f36_4 f36_5 f36_6 f36_7; try clear z44_0 z44_1 z44_2 z44_3 z44_4 z44_5 z44_6 z44_7 f44_0 f44_1 f44_2 f44_3 f44_4 f44_5 f44_6 f44_7; try clear z50_0 z50_1 z50_2 z50_3 z50_4 z50_5 z50_6 z50_7 f50_0 f50_1 f50_2 f50_3 f50_4 f50_5 f50_6 f50_7; try clear z55_0 z55_1 z55_2 z55_3 z55_4 z55_5 z55_6 z55_7 f55_0 f55_1 f55_2 f55_3 f55_4 f55_5 f55_6 f55_7; try clear z58_0 z58_1 z58_2 z58_3 z58_4 z58_5 z58_6 z58_7 f58_0 f58_1 f58_2 f58_3 f58_4 f58_5 f58_6 f58_7
             try clear hx237_0; try clear p2; try clear p237; try clear p6; try clear q237
             obtain ⟨x6_5, x7_5, rfl, rfl, HA, HK5, O1, O4, K1, K2, K3, HB⟩ := hrel
             cases gk with
             | zero => exact absurd HA.out (by simp [mD.l1])
             | succ k5 =>
              have H := HA.out
              clear HA
              simp only [mD.l1] at H
              by_cases c67 : x7_5 < (x4_.length : Int)
              ·rw [if_pos c67] at H
               have c67b0 : decide (x7_5 < (x4_.length : Int)) = true := decide_eq_true c67
               clear c67
               by_cases c68 : x6_5 = true
               ·subst c68
                have H1 : (mD.l1 k5 x4_3 t238 true (wrap64 (x7_5 + 1)) a0_0 a0_1 a0_2 a0_3 l0_4 l0_5 l0_6 a0_7 t217 x1_ t221 t225 x4_ (⟨#[]⟩ : ByteArray)) = some (r1, r2, r3, r4, r5, r6, r7, r8) := by rw [if_pos rfl] at H; exact H
                clear H
                have H := H1
                clear H1
                have H' := Aside0.mk H
                clear H
                have hnb69 := N31.out
                have hnc69 := N13.out
                have hnb70 := N32.out
                have hnc70 := N23.out
                obtain ⟨z71_0, z71_1, z71_2, z71_3, z71_4, z71_5, z71_6, z71_7, f71_0, f71_1, f71_2, f71_3, f71_4, f71_5, f71_6, f71_7⟩ := cells8 K3.out
                obtain ⟨Ao72, co72, eo72⟩ := Kd.R_slice O4.out
                subst eo72
                go_wp2
                go_roundg k5
                case measure => have := HJ7.out; have := HJ36.out; have := HK3.out; have := HJ50.out; have := HK5.out; omega
                case rel => exact ⟨(true), (wrap64 (x7_5 + 1)), (by first | rfl | (simp; done) | (simp [*]; done)), (by first | rfl | (simp; done) | (simp [*]; done)), H', ⟨by have := HJ7.out; have := HJ36.out; have := HK3.out; have := HJ50.out; have := HK5.out; omega⟩, ⟨by (with_reducible repeat (first | apply rA_ | apply rN_ | apply rD_)); exact O1.out⟩, ⟨by (with_reducible repeat (first | apply rA_ | apply rN_ | apply rD_)); exact O4.out⟩, ⟨by (with_reducible repeat (first | refine bN_ ?_ _ | refine bD_ ?_ | refine bA_ ?_ _)); exact K1.out⟩, ⟨by (with_reducible repeat (first | refine bN_ ?_ _ | refine bD_ ?_ | refine bA_ ?_ _)); exact K2.out⟩, ⟨by (with_reducible repeat (first | refine bN_ ?_ _ | refine bD_ ?_ | refine bA_ ?_ _)); exact K3.out⟩, ⟨by repeat (first | (with_reducible first | exact HB.out | apply wA_ | apply wN_ | apply wD_ | refine wS_ ?_ GE212.out | refine wS_ ?_ GE213.out | refine wS_ ?_ GE226.out) | exact HB.out)⟩⟩
               ·replace c68 := Bool.eq_false_iff.mpr c68
                subst c68
                have H1 : (if 0 ≤ x7_5 then (mD.l1 k5 x4_3 t238 ((rdOf ByteArray.empty x4_ x7_5).toList == t238.toList) (wrap64 (x7_5 + 1)) a0_0 a0_1 a0_2 a0_3 l0_4 l0_5 l0_6 a0_7 t217 x1_ t221 t225 x4_ (⟨#[]⟩ : ByteArray)) else (none)) = some (r1, r2, r3, r4, r5, r6, r7, r8) := by rw [if_neg (show ¬ (false = true) by decide)] at H; exact H
                clear H
                have H := H1
                clear H1
                by_cases c73 : 0 ≤ x7_5
                ·rw [if_pos c73] at H
                 have c73b0 : decide (0 ≤ x7_5) = true := decide_eq_true c73
                 clear c73
                 have H' := Aside0.mk H
                 clear H
                 have hnb74 := N31.out
                 have hnc74 := N13.out
                 have hnb75 := N32.out
                 have hnc75 := N23.out
                 obtain ⟨z76_0, z76_1, z76_2, z76_3, z76_4, z76_5, z76_6, z76_7, f76_0, f76_1, f76_2, f76_3, f76_4, f76_5, f76_6, f76_7⟩ := cells8 K3.out
                 obtain ⟨Ao77, co77, eo77⟩ := Kd.R_slice O4.out
                 subst eo77
                 have p239 : 0 ≤ (x7_5 : Int) := of_decide_eq_true (by first | (with_reducible assumption) | assumption)
                 have q239 : x7_5 < (x4_.length : Int) := of_decide_eq_true (by first | (with_reducible assumption) | assumption)
                 obtain ⟨ad239, e239, hx239_0⟩ := Kd.at_string (Kd.R_reads' O4.out).2.2 x7_5 p239 q239
                 cases e239
                 replace p239 := eq_true p239
                 replace q239 := eq_true q239
                 go_wp2
                 go_roundg k5
                 case measure => have := HJ7.out; have := HJ36.out; have := HK3.out; have := HJ50.out; have := HK5.out; omega
                 case rel => exact ⟨(((rdOf ByteArray.empty x4_ x7_5).toList == t238.toList)), (wrap64 (x7_5 + 1)), (by first | rfl | (simp; done) | (simp [*]; done)), (by first | rfl | (simp; done) | (simp [*]; done)), H', ⟨by have := HJ7.out; have := HJ36.out; have := HK3.out; have := HJ50.out; have := HK5.out; omega⟩, ⟨by (with_reducible repeat (first | apply rA_ | apply rN_ | apply rD_)); exact O1.out⟩, ⟨by (with_reducible repeat (first | apply rA_ | apply rN_ | apply rD_)); exact O4.out⟩, ⟨by (with_reducible repeat (first | refine bN_ ?_ _ | refine bD_ ?_ | refine bA_ ?_ _)); exact K1.out⟩, ⟨by (with_reducible repeat (first | refine bN_ ?_ _ | refine bD_ ?_ | refine bA_ ?_ _)); exact K2.out⟩, ⟨by (with_reducible repeat (first | refine bN_ ?_ _ | refine bD_ ?_ | refine bA_ ?_ _)); exact K3.out⟩, ⟨by repeat (first | (with_reducible first | exact HB.out | apply wA_ | apply wN_ | apply wD_ | refine wS_ ?_ GE212.out | refine wS_ ?_ GE213.out | refine wS_ ?_ GE226.out) | exact HB.out)⟩⟩
                ·rw [if_neg c73] at H
                 exact absurd H (by simp)
              ·rw [if_neg c67] at H
               have c67b0 : decide (x7_5 < (x4_.length : Int)) = false := decide_eq_false c67
               clear c67
               by_cases c78 : x6_5 = true
               ·subst c78
                have H1 : (mD.l0 k5 (wrap64 (x4_3 + 1)) a0_0 a0_1 a0_2 a0_3 l0_4 l0_5 l0_6 a0_7 t217 x1_ t221 t225 x4_ (⟨#[]⟩ : ByteArray)) = some (r1, r2, r3, r4, r5, r6, r7, r8) := by rw [if_pos rfl] at H; exact H
                clear H
                have H := H1
                clear H1
                have H' := Aside0.mk H
                clear H
                have hnb79 := N31.out
                have hnc79 := N13.out
                have hnb80 := N32.out
                have hnc80 := N23.out
                obtain ⟨z81_0, z81_1, z81_2, z81_3, z81_4, z81_5, z81_6, z81_7, f81_0, f81_1, f81_2, f81_3, f81_4, f81_5, f81_6, f81_7⟩ := cells8 K3.out
                obtain ⟨Ao82, co82, eo82⟩ := Kd.R_slice O4.out
                subst eo82
                go_wp2
                go_roundg k5
                case measure => have := HJ7.out; have := HJ36.out; have := HK3.out; have := HJ50.out; have := HK5.out; omega
                case rel => exact ⟨(wrap64 (x4_3 + 1)), (x4_), (.slice Ao82 x4_.length co82), (by first | rfl | (simp; done) | (simp [*]; done)), H', ⟨by have := HJ7.out; have := HJ36.out; have := HK3.out; have := HJ50.out; have := HK5.out; omega⟩, ⟨by (with_reducible repeat (first | apply rA_ | apply rN_ | apply rD_)); exact O1.out⟩, ⟨by (with_reducible repeat (first | apply rA_ | apply rN_ | apply rD_)); exact O4.out⟩, ⟨by (with_reducible repeat (first | refine bN_ ?_ _ | refine bD_ ?_ | refine bA_ ?_ _)); exact K1.out⟩, ⟨by (with_reducible repeat (first | refine bN_ ?_ _ | refine bD_ ?_ | refine bA_ ?_ _)); exact K2.out⟩, ⟨by (with_reducible repeat (first | refine bN_ ?_ _ | refine bD_ ?_ | refine bA_ ?_ _)); exact K3.out⟩, ⟨by repeat (first | (with_reducible first | exact HB.out | apply wA_ | apply wN_ | apply wD_ | refine wS_ ?_ GE212.out | refine wS_ ?_ GE213.out | refine wS_ ?_ GE226.out) | exact HB.out)⟩⟩
               ·replace c78 := Bool.eq_false_iff.mpr c78
                subst c78
                have H1 : (if x4_.length < 8796093022208 then (mD.l0 k5 (wrap64 (x4_3 + 1)) a0_0 a0_1 a0_2 a0_3 l0_4 l0_5 l0_6 a0_7 t217 x1_ t221 t225 (x4_ ++ [t238]) (⟨#[]⟩ : ByteArray)) else (none)) = some (r1, r2, r3, r4, r5, r6, r7, r8) := by rw [if_neg (show ¬ (false = true) by decide)] at H; exact H
                clear H
                have H := H1
                clear H1
                by_cases c83 : x4_.length < 8796093022208
                ·rw [if_pos c83] at H
                 have LMc83 := Aside0.mk c83
                 clear c83
                 obtain ⟨y240, hy240⟩ : ∃ y_ : List ByteArray, y_ = (x4_ ++ [t238]) := ⟨_, rfl⟩
                 replace H : (mD.l0 k5 (wrap64 (x4_3 + 1)) a0_0 a0_1 a0_2 a0_3 l0_4 l0_5 l0_6 a0_7 t217 x1_ t221 t225 y240 (⟨#[]⟩ : ByteArray)) = some (r1, r2, r3, r4, r5, r6, r7, r8) := by first | (rw [hy240]; with_reducible exact H) | (have H2_ := (Option.bind_some _ _).symm.trans H; rw [hy240]; with_reducible exact H2_) | (have H2_ := (Option.bind_some _ _).symm.trans H; with_reducible exact H2_) | with_reducible exact H | (rw [hy240]; exact H) | exact H
                 have Ny240 := Aside0.mk hy240
                 clear hy240
                 have H' := Aside0.mk H
                 clear H
                 have hnb84 := N31.out
                 have hnc84 := N13.out
                 have hnb85 := N32.out
                 have hnc85 := N23.out
                 obtain ⟨z86_0, z86_1, z86_2, z86_3, z86_4, z86_5, z86_6, z86_7, f86_0, f86_1, f86_2, f86_3, f86_4, f86_5, f86_6, f86_7⟩ := cells8 K3.out
                 obtain ⟨Ao87, co87, eo87⟩ := Kd.R_slice O4.out
                 subst eo87
                 go_wp2_with (first | ((with_reducible refine gate_builtin (b := .append) (xs := #[.tmp 81, .tmp 83]) rfl ?_); at_builtin; refine Kd.R_append Kd.string (w0 := w) w.heap.size rfl (.tmp 81) (.tmp 83) 26 9 (.string ⟨#[]⟩) 16 rfl Tryz.underlying26 info9 rfl (by decide) (by omega) (.slice Ao87 x4_.length co87) x4_ t238 [.string t238] (fun k_ => some k_ ≠ (u227001 : Value).ownBlock) (fun _ => False) rfl rfl ?aP (fun _ hk => hk.elim) ?aF ?aO ?aB ?aS ?aL ?_; (case aP => exact rfl); (case aB => exact (by repeat (first | (with_reducible first | exact HB.out | apply wA_ | apply wN_ | apply wD_ | refine wS_ ?_ GE212.out | refine wS_ ?_ GE213.out | refine wS_ ?_ GE226.out) | exact HB.out))); (case aF => exact (fun k_ hk => Kd.fresh' (Kd.R_lt (by (with_reducible repeat (first | apply rA_ | apply rN_ | apply rD_)); exact O1.out)) k_ hk)); (case aO => exact (by (with_reducible repeat (first | apply rA_ | apply rN_ | apply rD_)); exact O4.out)); (case aS => exact (below_size (by repeat (first | (with_reducible first | exact HB.out | apply wA_ | apply wN_ | apply wD_ | refine wS_ ?_ GE212.out | refine wS_ ?_ GE213.out | refine wS_ ?_ GE226.out) | exact HB.out)))); (case aL => have := LMc83.out; omega); intro v241 w88 ho hb hg hat; rw [← Ny240.out] at ho; have n0_ := Aside0.mk (Kd.R_after (ok := (fun _ => True)) (by (with_reducible repeat (first | apply rA_ | apply rN_ | apply rD_)); exact Kd.R_mono O1.out (fun _ hk => ⟨trivial, hk⟩)) hg hat); have n1_ := Aside0.mk (blk_grown (g := gb212) (o := .cells #[.int .i64 a0_0, .int .i64 a0_1, .int .i64 a0_2, .int .i64 a0_3, .slice (some ad237) l0_4.length c0_4, .slice A0_5 l0_5.length c0_5, .slice A0_6 l0_6.length c0_6, .int .i64 a0_7] 24 (0, 0)) (by (with_reducible repeat (first | refine bN_ ?_ _ | refine bD_ ?_ | refine bA_ ?_ _)); exact K1.out) hg (Kd.R_ne O4.out K1.out (by decide))); have n2_ := Aside0.mk (blk_grown (g := gb213) (o := .cells zT_ 29 (0, 0)) (by (with_reducible repeat (first | refine bN_ ?_ _ | refine bD_ ?_ | refine bA_ ?_ _)); exact K2.out) hg (Kd.R_ne O4.out K2.out (by decide))); have n3_ := Aside0.mk (blk_grown (g := gb226) (o := .cells #[.string t217, u227001, .string t221, .string t225, .slice Ao87 x4_.length co87, .slice none 0 0, .slice none 0 0, .string (⟨#[]⟩ : ByteArray)] 29 (0, 0)) (by (with_reducible repeat (first | refine bN_ ?_ _ | refine bD_ ?_ | refine bA_ ?_ _)); exact K3.out) hg (Kd.R_ne O4.out K3.out (by decide))); have n4_ := Aside0.mk (hb); have n5_ := Aside0.mk (ho); clear O1; clear K1; clear K2; clear K3; clear HB; clear O4; have O1 := n0_; have K1 := n1_; have K2 := n2_; have K3 := n3_; have HB := n4_; have HO242 := n5_; clear n0_ n1_ n2_ n3_ n4_ n5_; clear ho hb hg hat; obtain ⟨Ao89, co89, eo89⟩ := Kd.R_slice HO242.out; subst eo89; obtain ⟨z90_0, z90_1, z90_2, z90_3, z90_4, z90_5, z90_6, z90_7, f90_0, f90_1, f90_2, f90_3, f90_4, f90_5, f90_6, f90_7⟩ := cells8 K3.out))
                 go_roundg k5
                 case measure => have := HJ7.out; have := HJ36.out; have := HK3.out; have := HJ50.out; have := HK5.out; omega
                 case rel => exact ⟨(wrap64 (x4_3 + 1)), (y240), (.slice Ao89 y240.length co89), (by first | rfl | (simp; done) | (simp [*]; done)), H', ⟨by have := HJ7.out; have := HJ36.out; have := HK3.out; have := HJ50.out; have := HK5.out; omega⟩, ⟨by (with_reducible repeat (first | apply rA_ | apply rN_ | apply rD_)); exact Kd.R_mono (Kd.R_far (p := ⟨gb226, 4, none⟩) (Kd.R_types O1.out K3.out (by decide)) (fun _ hk => hk.2) (.slice Ao89 y240.length co89)) (fun _ hk => hk.1.2)⟩, ⟨by (with_reducible repeat (first | apply rA_ | apply rN_ | apply rD_)); exact Kd.R_mono (Kd.R_far (p := ⟨gb226, 4, none⟩) (Kd.R_types HO242.out K3.out (by decide)) (fun _ hk => hk.2) (.slice Ao89 y240.length co89)) (fun _ hk => hk.1)⟩, ⟨by (with_reducible repeat (first | refine bN_ ?_ _ | refine bD_ ?_ | refine bA_ ?_ _)); refine blk_far ?_ N13.out _; (with_reducible repeat (first | refine bN_ ?_ _ | refine bD_ ?_ | refine bA_ ?_ _)); exact K1.out⟩, ⟨by (with_reducible repeat (first | refine bN_ ?_ _ | refine bD_ ?_ | refine bA_ ?_ _)); refine blk_far ?_ N23.out _; (with_reducible repeat (first | refine bN_ ?_ _ | refine bD_ ?_ | refine bA_ ?_ _)); exact K2.out⟩, ⟨by (with_reducible repeat (first | refine bN_ ?_ _ | refine bD_ ?_ | refine bA_ ?_ _)); refine blk_put (cs := #[.string t217, u227001, .string t221, .string t225, .slice Ao87 x4_.length co87, .slice none 0 0, .slice none 0 0, .string (⟨#[]⟩ : ByteArray)]) ?_ 4 _ rfl; (with_reducible repeat (first | refine bN_ ?_ _ | refine bD_ ?_ | refine bA_ ?_ _)); exact K3.out⟩, ⟨by repeat (first | (with_reducible first | exact HB.out | apply wA_ | apply wN_ | apply wD_ | refine wS_ ?_ GE212.out | refine wS_ ?_ GE213.out | refine wS_ ?_ GE226.out) | exact HB.out)⟩⟩
                ·rw [if_neg c83] at H
                 exact absurd H (by simp)
           ·rw [if_neg c62] at H
            exact absurd H (by simp)
          ·rw [if_neg c61] at H
           exact absurd H (by simp)
         ·replace c59 := Bool.eq_false_iff.mpr c59
          subst c59
          have H1 : (mD.l2 kj50 0 a0_0 a0_1 a0_2 a0_3 l0_4 l0_5 l0_6 a0_7 t217 x1_ t221 t225 x4_ ([] : List (S47)) (⟨#[]⟩ : ByteArray)) = some (r1, r2, r3, r4, r5, r6, r7, r8) := by rw [if_neg (show ¬ (false = true) by decide)] at H; exact H
          clear H
          have H := H1
          clear H1
          have H' := Aside0.mk H
          clear H
          go_wp2
          go_loopg [8] kj50 (fun kq v8 w' => ∃ (x8_5 : Int) (x5_ : List (S47)) (u227005 : Value), v8 = .int .i64 x8_5 ∧ Aside0 (mD.l2 kq x8_5 a0_0 a0_1 a0_2 a0_3 l0_4 l0_5 l0_6 a0_7 t217 x1_ t221 t225 x4_ x5_ (⟨#[]⟩ : ByteArray) = some (r1, r2, r3, r4, r5, r6, r7, r8)) ∧ Aside0 (kq ≤ kj50) ∧ Aside0 (Kd.R Kd.string 9 w' w.heap.size (fun k_ => some k_ ≠ (u227004 : Value).ownBlock) u227001 x1_) ∧ Aside0 (Kd.R Kd.string 9 w' w.heap.size (fun k_ => some k_ ≠ (u227001 : Value).ownBlock) u227004 x4_) ∧ Aside0 (Kd.S k47 47 w' w.heap.size (fun k_ => some k_ ≠ (u227001 : Value).ownBlock ∧ some k_ ≠ (u227004 : Value).ownBlock) u227005 x5_) ∧ Aside0 (w'.heap[gb212]? = some (.cells #[.int .i64 a0_0, .int .i64 a0_1, .int .i64 a0_2, .int .i64 a0_3, (.slice A0_4 l0_4.length c0_4), (.slice A0_5 l0_5.length c0_5), (.slice A0_6 l0_6.length c0_6), .int .i64 a0_7] 24 (0, 0))) ∧ Aside0 (w'.heap[gb213]? = some (.cells zT_ 29 (0, 0))) ∧ Aside0 (w'.heap[gb226]? = some (.cells #[.string t217, u227001, .string t221, .string t225, u227004, u227005, (.slice none 0 0), .string (⟨#[]⟩ : ByteArray)] 29 (0, 0))) ∧ Aside0 (Below w.heap.size w w'))
          case atStart => exact ⟨(0), (([] : List (S47))), (.slice none 0 0), (by first | rfl | (simp; done) | (simp [*]; done)), H', ⟨Nat.le_refl _⟩, ⟨by (with_reducible repeat (first | apply rA_ | apply rN_ | apply rD_)); exact O1.out⟩, ⟨by (with_reducible repeat (first | apply rA_ | apply rN_ | apply rD_)); exact O4.out⟩, ⟨by first | exact Kd.S_nil _ _ _ _ _ | exact Kd.N_nil _ _ _ _ _ | exact Kd.V_nil _ _ _ _ _ | exact Kd.Q_nil _ _ _ _ _ | exact Kd.R_nil _ _ _ _ _⟩, ⟨by (with_reducible repeat (first | refine bN_ ?_ _ | refine bD_ ?_ | refine bA_ ?_ _)); exact K1.out⟩, ⟨by (with_reducible repeat (first | refine bN_ ?_ _ | refine bD_ ?_ | refine bA_ ?_ _)); exact K2.out⟩, ⟨by (with_reducible repeat (first | refine bN_ ?_ _ | refine bD_ ?_ | refine bA_ ?_ _)); exact K3.out⟩, ⟨by repeat (first | (with_reducible first | exact HB.out | apply wA_ | apply wN_ | apply wD_ | refine wS_ ?_ GE212.out | refine wS_ ?_ GE213.out | refine wS_ ?_ GE226.out) | exact HB.out)⟩⟩
          case round =>
           clear H'
           try clear c2; try clear p2; try clear q2; try clear hx2; try clear c3; try clear c4; try clear c5; try clear c6; try clear p6; try clear c7; try clear c8; try clear p21; try clear q21; try clear hx21; try clear c28; try clear c28b0; try clear c28b1; try clear c29; try clear c30; try clear c32; try clear c34; try clear c35; try clear c36; try clear c38; try clear c42; try clear c43; try clear c49; try clear c52; try clear c52b0; try clear c53; try clear c54; try clear c56; try clear c57; try clear c59; try clear c61; try clear c61b0; try clear c62; try clear c62b0; try clear p64; try clear c67; try clear c67b0; try clear c68; try clear c69; try clear c70; try clear c73; try clear c73b0; try clear c74; try clear c75; try clear c78; try clear c79; try clear c80; try clear c83; try clear c84; try clear c85
           try clear z31_0 z31_1 z31_2 z31_3 z31_4 z31_5 z31_6 z31_7 f31_0 f31_1 f31_2 f31_3 f31_4 f31_5 f31_6 f31_7; try clear z33_0 z33_1 z33_2 z33_3 z33_4 z33_5 z33_6 z33_7 f33_0 f33_1 f33_2 f33_3 f33_4 f33_5 f33_6 f33_7; try clear z36_0 z36_1 z36_2 z36_3 z36_4 z36_5 z36_6 z36_7 f36_0 f36_1 f36_2 f36_3 f36_4 f36_5 f36_6 f36_7; try clear z44_0 z44_1 z44_2 z44_3 z44_4 z44_5 z44_6 z44_7 f44_0 f44_1 f44_2 f44_3 f44_4 f44_5 f44_6 f44_7; try clear z50_0 z50_1 z50_2 z50_3 z50_4 z50_5 z50_6 z50_7 f50_0 f50_1 f50_2 f50_3 f50_4 f50_5 f50_6 f50_7; try clear z55_0 z55_1 z55_2 z55_3 z55_4 z55_5 z55_6 z55_7 f55_0 f55_1 f55_2 f55_3 f55_4 f55_5 f55_6 f55_7; try clear z58_0 z58_1 z58_2 z58_3 z58_4 z58_5 z58_6 z58_7 f58_0 f58_1 f58_2 f58_3 f58_4 f58_5 f58_6 f58_7; try clear z71_0 z71_1 z71_2 z71_3 z71_4 z71_5 z71_6 z71_7 f71_0 f71_1 f71_2 f71_3 f71_4 f71_5 f71_6 f71_7; try clear z76_0 z76_1 z76_2 z76_3 z76_4 z76_5 z76_6 z76_7 f76_0 f76_1 f76_2 f76_3 f76_4 f76_5 f76_6 f76_7; try clear z81_0 z81_1 z81_2 z81_3 z81_4 z81_5 z81_6 z81_7 f81_0 f81_1 f81_2 f81_3 f81_4 f81_5 f81_6 f81_7; try clear z86_0 z86_1 z86_2 z86_3 z86_4 z86_5 z86_6 z86_7 f86_0 f86_1 f86_2 f86_3 f86_4 f86_5 f86_6 f86_7; try clear z90_0 z90_1 z90_2 z90_3 z90_4 z90_5 z90_6 z90_7 f90_0 f90_1 f90_2 f90_3 f90_4 f90_5 f90_6 f90_7
           try clear hx237_0; try clear hx239_0; try clear p2; try clear p21; try clear p237; try clear p239; try clear p6; try clear q2; try clear q21; try clear q237; try clear q239
           obtain ⟨x8_5, x5_, u227005, rfl, HA, HK5, O1, O4, O5, K1, K2, K3, HB⟩ := hrel
           cases gk with
           | zero => exact absurd HA.out (by simp [mD.l2])
           | succ k5 =>
            have H := HA.out
            clear HA
            simp only [mD.l2] at H
            have HC91 := Aside0.mk H
            clear H
            go_upto_region 16 with (fail)
            go_cut [94] (fun v94 wc => ∃ (kq : Nat) (x94_90 : Bool), v94 = .bool x94_90 ∧ Aside0 (mD.j6 kq x8_5 x94_90 a0_0 a0_1 a0_2 a0_3 l0_4 l0_5 l0_6 a0_7 t217 x1_ t221 t225 x4_ x5_ (⟨#[]⟩ : ByteArray) = some (r1, r2, r3, r4, r5, r6, r7, r8)) ∧ Aside0 (kq ≤ k5) ∧ Aside0 (Kd.R Kd.string 9 wc w.heap.size (fun k_ => some k_ ≠ (u227004 : Value).ownBlock) u227001 x1_) ∧ Aside0 (Kd.R Kd.string 9 wc w.heap.size (fun k_ => some k_ ≠ (u227001 : Value).ownBlock) u227004 x4_) ∧ Aside0 (Kd.S k47 47 wc w.heap.size (fun k_ => some k_ ≠ (u227001 : Value).ownBlock ∧ some k_ ≠ (u227004 : Value).ownBlock) u227005 x5_) ∧ Aside0 (wc.heap[gb212]? = some (.cells #[.int .i64 a0_0, .int .i64 a0_1, .int .i64 a0_2, .int .i64 a0_3, (.slice A0_4 l0_4.length c0_4), (.slice A0_5 l0_5.length c0_5), (.slice A0_6 l0_6.length c0_6), .int .i64 a0_7] 24 (0, 0))) ∧ Aside0 (wc.heap[gb213]? = some (.cells zT_ 29 (0, 0))) ∧ Aside0 (wc.heap[gb226]? = some (.cells #[.string t217, u227001, .string t221, .string t225, u227004, u227005, (.slice none 0 0), .string (⟨#[]⟩ : ByteArray)] 29 (0, 0))) ∧ Aside0 (Below w.heap.size w wc))
            case first =>
             have H := HC91.out
             clear HC91
             by_cases c92 : x8_5 < (l0_5.length : Int)
             ·rw [if_pos c92] at H
              have c92b0 : decide (x8_5 < (l0_5.length : Int)) = true := decide_eq_true c92
              clear c92
              (first | rw [c92b0] | (simp only [i64_w, i32_w]; rw [c92b0]) | skip)
              have H' := Aside0.mk H
              clear H
              have hnb93 := N12.out
              have hnc93 := N21.out
              have hnb94 := N13.out
              have hnc94 := N31.out
              obtain ⟨z95_0, z95_1, z95_2, z95_3, z95_4, z95_5, z95_6, z95_7, f95_0, f95_1, f95_2, f95_3, f95_4, f95_5, f95_6, f95_7⟩ := cells8 K1.out
              go_wp2
              go_meet
              case rel => exact ⟨_, (decide (x8_5 < 3)), (by first | rfl | (simp; done) | (simp [*]; done)), H', ⟨by have := HJ7.out; have := HJ36.out; have := HK3.out; have := HJ50.out; have := HK5.out; first | omega | exact Nat.le_refl _⟩, ⟨by (with_reducible repeat (first | apply rA_ | apply rN_ | apply rD_)); exact O1.out⟩, ⟨by (with_reducible repeat (first | apply rA_ | apply rN_ | apply rD_)); exact O4.out⟩, ⟨by (with_reducible repeat (first | apply tA_ | apply tN_ | apply tD_)); exact O5.out⟩, ⟨by (with_reducible repeat (first | refine bN_ ?_ _ | refine bD_ ?_ | refine bA_ ?_ _)); exact K1.out⟩, ⟨by (with_reducible repeat (first | refine bN_ ?_ _ | refine bD_ ?_ | refine bA_ ?_ _)); exact K2.out⟩, ⟨by (with_reducible repeat (first | refine bN_ ?_ _ | refine bD_ ?_ | refine bA_ ?_ _)); exact K3.out⟩, ⟨by repeat (first | (with_reducible first | exact HB.out | apply wA_ | apply wN_ | apply wD_ | refine wS_ ?_ GE212.out | refine wS_ ?_ GE213.out | refine wS_ ?_ GE226.out) | exact HB.out)⟩⟩
             ·rw [if_neg c92] at H
              have c92b0 : decide (x8_5 < (l0_5.length : Int)) = false := decide_eq_false c92
              clear c92
              (first | rw [c92b0] | (simp only [i64_w, i32_w]; rw [c92b0]) | skip)
              have H' := Aside0.mk H
              clear H
              have hnb96 := N12.out
              have hnc96 := N21.out
              have hnb97 := N13.out
              have hnc97 := N31.out
              obtain ⟨z98_0, z98_1, z98_2, z98_3, z98_4, z98_5, z98_6, z98_7, f98_0, f98_1, f98_2, f98_3, f98_4, f98_5, f98_6, f98_7⟩ := cells8 K1.out
              go_wp2
              go_meet
              case rel => exact ⟨_, (false), (by first | rfl | (simp; done) | (simp [*]; done)), H', ⟨by have := HJ7.out; have := HJ36.out; have := HK3.out; have := HJ50.out; have := HK5.out; first | omega | exact Nat.le_refl _⟩, ⟨by (with_reducible repeat (first | apply rA_ | apply rN_ | apply rD_)); exact O1.out⟩, ⟨by (with_reducible repeat (first | apply rA_ | apply rN_ | apply rD_)); exact O4.out⟩, ⟨by (with_reducible repeat (first | apply tA_ | apply tN_ | apply tD_)); exact O5.out⟩, ⟨by (with_reducible repeat (first | refine bN_ ?_ _ | refine bD_ ?_ | refine bA_ ?_ _)); exact K1.out⟩, ⟨by (with_reducible repeat (first | refine bN_ ?_ _ | refine bD_ ?_ | refine bA_ ?_ _)); exact K2.out⟩, ⟨by (with_reducible repeat (first | refine bN_ ?_ _ | refine bD_ ?_ | refine bA_ ?_ _)); exact K3.out⟩, ⟨by repeat (first | (with_reducible first | exact HB.out | apply wA_ | apply wN_ | apply wD_ | refine wS_ ?_ GE212.out | refine wS_ ?_ GE213.out | refine wS_ ?_ GE226.out) | exact HB.out)⟩⟩
            case rest =>
             clear HC91
             try clear c2; try clear p2; try clear q2; try clear hx2; try clear c3; try clear c4; try clear c5; try clear c6; try clear p6; try clear c7; try clear c8; try clear c9; try clear p21; try clear q21; try clear hx21; try clear c28; try clear c28b0; try clear c28b1; try clear c29; try clear c30; try clear c32; try clear c34; try clear c35; try clear c36; try clear c38; try clear c42; try clear c43; try clear c49; try clear c52; try clear c52b0; try clear c53; try clear c54; try clear c56; try clear c57; try clear c59; try clear c61; try clear c61b0; try clear c62; try clear c62b0; try clear p64; try clear c67; try clear c67b0; try clear c68; try clear c69; try clear c70; try clear c73; try clear c73b0; try clear c74; try clear c75; try clear c78; try clear c79; try clear c80; try clear c83; try clear c84; try clear c85; try clear c92; try clear c92b0; try clear c93; try clear c94; try clear c96; try clear c97
             try clear z31_0 z31_1 z31_2 z31_3 z31_4 z31_5 z31_6 z31_7 f31_0 f31_1 f31_2 f31_3 f31_4 f31_5 f31_6 f31_7; try clear z33_0 z33_1 z33_2 z33_3 z33_4 z33_5 z33_6 z33_7 f33_0 f33_1 f33_2 f33_3 f33_4 f33_5 f33_6 f33_7; try clear z36_0 z36_1 z36_2 z36_3 z36_4 z36_5 z36_6 z36_7 f36_0 f36_1 f36_2 f36_3 f36_4 f36_5 f36_6 f36_7; try clear z44_0 z44_1 z44_2 z44_3 z44_4 z44_5 z44_6 z44_7 f44_0 f44_1 f44_2 f44_3 f44_4 f44_5 f44_6 f44_7; try clear z50_0 z50_1 z50_2 z50_3 z50_4 z50_5 z50_6 z50_7 f50_0 f50_1 f50_2 f50_3 f50_4 f50_5 f50_6 f50_7; try clear z55_0 z55_1 z55_2 z55_3 z55_4 z55_5 z55_6 z55_7 f55_0 f55_1 f55_2 f55_3 f55_4 f55_5 f55_6 f55_7; try clear z58_0 z58_1 z58_2 z58_3 z58_4 z58_5 z58_6 z58_7 f58_0 f58_1 f58_2 f58_3 f58_4 f58_5 f58_6 f58_7; try clear z71_0 z71_1 z71_2 z71_3 z71_4 z71_5 z71_6 z71_7 f71_0 f71_1 f71_2 f71_3 f71_4 f71_5 f71_6 f71_7; try clear z76_0 z76_1 z76_2 z76_3 z76_4 z76_5 z76_6 z76_7 f76_0 f76_1 f76_2 f76_3 f76_4 f76_5 f76_6 f76_7; try clear z81_0 z81_1 z81_2 z81_3 z81_4 z81_5 z81_6 z81_7 f81_0 f81_1 f81_2 f81_3 f81_4 f81_5 f81_6 f81_7; try clear z86_0 z86_1 z86_2 z86_3 z86_4 z86_5 z86_6 z86_7 f86_0 f86_1 f86_2 f86_3 f86_4 f86_5 f86_6 f86_7; try clear z90_0 z90_1 z90_2 z90_3 z90_4 z90_5 z90_6 z90_7 f90_0 f90_1 f90_2 f90_3 f90_4 f90_5 f90_6 f90_7; try clear z95_0 z95_1 z95_2 z95_3 z95_4 z95_5 z95_6 z95_7 f95_0 f95_1 f95_2 f95_3 f95_4 f95_5 f95_6 f95_7; try clear z98_0 z98_1 z98_2 z98_3 z98_4 z98_5 z98_6 z98_7 f98_0 f98_1 f98_2 f98_3 f98_4 f98_5 f98_6 f98_7
             try clear hx237_0; try clear hx239_0; try clear p2; try clear p21; try clear p237; try clear p239; try clear p6; try clear p64; try clear q2; try clear q21; try clear q237; try clear q239
             obtain ⟨kq, x94_90, rfl, HA, HJ90, O1, O4, O5, K1, K2, K3, HB⟩ := hcut
             cases kq with
             | zero => exact absurd HA.out (by simp [mD.j6])
             | succ kj90 =>
              have H := HA.out
              clear HA
              simp only [mD.j6] at H
              by_cases c99 : x94_90 = true
              ·subst c99
               have H1 : ((some (([(⟨#[117]⟩ : ByteArray), (⟨#[116]⟩ : ByteArray), (⟨#[97]⟩ : ByteArray), (⟨#[57]⟩ : ByteArray)] : List ByteArray) : List ByteArray)).bind fun y243 => (if 0 ≤ x8_5 then (if x8_5 < (y243.length : Int) then (if x8_5 < (l0_5.length : Int) then (mD.l3 kj90 x8_5 (Int.tmod (wrap64 ((Int.tmod (rd l0_5 x8_5) 1000) + 1000)) 1000) 0 a0_0 a0_1 a0_2 a0_3 l0_4 l0_5 l0_6 a0_7 t217 x1_ t221 t225 x4_ x5_ (⟨#[]⟩ : ByteArray) (rdOf ByteArray.empty y243 x8_5) ([] : List ByteArray)) else (none)) else (none)) else (none))) = some (r1, r2, r3, r4, r5, r6, r7, r8) := by rw [if_pos rfl] at H; exact H
               clear H
               have H := H1
               clear H1
               obtain ⟨y243, hy243⟩ : ∃ y_ : List ByteArray, y_ = (([(⟨#[117]⟩ : ByteArray), (⟨#[116]⟩ : ByteArray), (⟨#[97]⟩ : ByteArray), (⟨#[57]⟩ : ByteArray)] : List ByteArray)) := ⟨_, rfl⟩
               replace H : (if 0 ≤ x8_5 then (if x8_5 < (y243.length : Int) then (if x8_5 < (l0_5.length : Int) then (mD.l3 kj90 x8_5 (Int.tmod (wrap64 ((Int.tmod (rd l0_5 x8_5) 1000) + 1000)) 1000) 0 a0_0 a0_1 a0_2 a0_3 l0_4 l0_5 l0_6 a0_7 t217 x1_ t221 t225 x4_ x5_ (⟨#[]⟩ : ByteArray) (rdOf ByteArray.empty y243 x8_5) ([] : List ByteArray)) else (none)) else (none)) else (none)) = some (r1, r2, r3, r4, r5, r6, r7, r8) := by first | (rw [hy243]; with_reducible exact H) | (have H2_ := (Option.bind_some _ _).symm.trans H; rw [hy243]; with_reducible exact H2_) | (have H2_ := (Option.bind_some _ _).symm.trans H; with_reducible exact H2_) | with_reducible exact H | (rw [hy243]; exact H) | exact H
               have Ny243 := Aside0.mk hy243
               clear hy243
               by_cases c100 : 0 ≤ x8_5
               ·rw [if_pos c100] at H
                have c100b0 : decide (0 ≤ x8_5) = true := decide_eq_true c100
                clear c100
                by_cases c101 : x8_5 < (y243.length : Int)
                ·rw [if_pos c101] at H
                 have c101b0 : decide (x8_5 < (y243.length : Int)) = true := decide_eq_true c101
                 clear c101
                 by_cases c102 : x8_5 < (l0_5.length : Int)
                 ·rw [if_pos c102] at H
                  have c102b0 : decide (x8_5 < (l0_5.length : Int)) = true := decide_eq_true c102
                  clear c102
                  have H' := Aside0.mk H
                  clear H
                  go_wp2_with (first | ((with_reducible refine gate_dst (N := 97) rfl ?_); refine Kd.R_lit Kd.string _ 9 ?hg (N := 97) ?hd (xs := ([(⟨#[117]⟩ : ByteArray), (⟨#[116]⟩ : ByteArray), (⟨#[97]⟩ : ByteArray), (⟨#[57]⟩ : ByteArray)] : List ByteArray)) (inner := [.string (⟨#[117]⟩ : ByteArray), .string (⟨#[116]⟩ : ByteArray), .string (⟨#[97]⟩ : ByteArray), .string (⟨#[57]⟩ : ByteArray)]) (ok := fun _ => True) (okp := fun _ => True) ?hr ?hp (fun _ hk => hk) trivial (Below.refl _ _) (Nat.le_refl _) (by simp) ?_; (case hd => rfl); (case hg => rfl); (case hr => first | (go_simp; done) | (go_simp; rfl)); (case hp => exact (Reps.one (show Kd.M Kd.string _ _ _ (⟨#[117]⟩ : ByteArray) [.string (⟨#[117]⟩ : ByteArray)] from rfl) (Reps.one (show Kd.M Kd.string _ _ _ (⟨#[116]⟩ : ByteArray) [.string (⟨#[116]⟩ : ByteArray)] from rfl) (Reps.one (show Kd.M Kd.string _ _ _ (⟨#[97]⟩ : ByteArray) [.string (⟨#[97]⟩ : ByteArray)] from rfl) (Reps.one (show Kd.M Kd.string _ _ _ (⟨#[57]⟩ : ByteArray) [.string (⟨#[57]⟩ : ByteArray)] from rfl) (Reps.none _ _)))))); intro v244 w103 ho104 hb hg_ hnew_; clear hg_ hnew_; (first | rw [← Ny243.out] at ho104 | (simp only [Int.reduceToNat] at ho104; rw [← Ny243.out] at ho104)); have n0_ := Aside0.mk (Kd.R_elder' (by (with_reducible repeat (first | apply rA_ | apply rN_ | apply rD_)); exact O1.out) (Kd.R_base ho104) hb); have n1_ := Aside0.mk (Kd.R_elder' (by (with_reducible repeat (first | apply rA_ | apply rN_ | apply rD_)); exact O4.out) (Kd.R_base ho104) hb); have n2_ := Aside0.mk (Kd.S_elder' (by (with_reducible repeat (first | apply tA_ | apply tN_ | apply tD_)); exact O5.out) (Kd.R_base ho104) hb); have n3_ := Aside0.mk (Kd.R_lower (Kd.R_new' (Kd.R_new' ho104 (Kd.R_lt (by (with_reducible repeat (first | apply rA_ | apply rN_ | apply rD_)); exact O1.out))) (Kd.R_lt (by (with_reducible repeat (first | apply rA_ | apply rN_ | apply rD_)); exact O4.out))) (below_size (by repeat (first | (with_reducible first | exact HB.out | apply wA_ | apply wN_ | apply wD_ | refine wS_ ?_ GE212.out | refine wS_ ?_ GE213.out | refine wS_ ?_ GE226.out) | exact HB.out)))); have n4_ := Aside0.mk (blk_below (g := gb212) (o := .cells #[.int .i64 a0_0, .int .i64 a0_1, .int .i64 a0_2, .int .i64 a0_3, .slice A0_4 l0_4.length c0_4, .slice A0_5 l0_5.length c0_5, .slice A0_6 l0_6.length c0_6, .int .i64 a0_7] 24 (0, 0)) (by (with_reducible repeat (first | refine bN_ ?_ _ | refine bD_ ?_ | refine bA_ ?_ _)); exact K1.out) hb); have n5_ := Aside0.mk (blk_below (g := gb213) (o := .cells zT_ 29 (0, 0)) (by (with_reducible repeat (first | refine bN_ ?_ _ | refine bD_ ?_ | refine bA_ ?_ _)); exact K2.out) hb); have n6_ := Aside0.mk (blk_below (g := gb226) (o := .cells #[.string t217, u227001, .string t221, .string t225, u227004, u227005, .slice none 0 0, .string (⟨#[]⟩ : ByteArray)] 29 (0, 0)) (by (with_reducible repeat (first | refine bN_ ?_ _ | refine bD_ ?_ | refine bA_ ?_ _)); exact K3.out) hb); have n7_ := Aside0.mk (below_step (by repeat (first | (with_reducible first | exact HB.out | apply wA_ | apply wN_ | apply wD_ | refine wS_ ?_ GE212.out | refine wS_ ?_ GE213.out | refine wS_ ?_ GE226.out) | exact HB.out)) hb); clear O1; clear O4; clear O5; clear K1; clear K2; clear K3; clear HB; have O1 := n0_; have O4 := n1_; have O5 := n2_; have HO245 := n3_; have K1 := n4_; have K2 := n5_; have K3 := n6_; have HB := n7_; clear n0_ n1_ n2_ n3_ n4_ n5_ n6_ n7_; clear hb ho104; obtain ⟨Ao105, co105, eo105⟩ := Kd.R_slice HO245.out; subst eo105; have p246 : 0 ≤ (x8_5 : Int) := of_decide_eq_true (by first | (with_reducible assumption) | assumption); have q246 : x8_5 < (y243.length : Int) := of_decide_eq_true (by first | (with_reducible assumption) | assumption); obtain ⟨ad246, e246, hx246_0⟩ := Kd.at_string (Kd.R_reads' HO245.out).2.2 x8_5 p246 q246; cases e246; replace p246 := eq_true p246; replace q246 := eq_true q246) | ((with_reducible refine gate_dst (N := 9) rfl ?_); refine box_event ?hg (N := 9) ?hd (cs := #[.string (⟨#[]⟩ : ByteArray), .slice none 0 0]) (t := 47) ?hr ?_; (case hd => rfl); (case hg => rfl); (case hr => first | (go_simp; done) | (go_simp; rfl)); intro gb247 hg w106 hbox hb; have n0_ := Aside0.mk (Kd.R_below (by (with_reducible repeat (first | apply rA_ | apply rN_ | apply rD_)); exact O1.out) hb); have n1_ := Aside0.mk (Kd.R_below (by (with_reducible repeat (first | apply rA_ | apply rN_ | apply rD_)); exact O4.out) hb); have n2_ := Aside0.mk (Kd.S_below (Kd.S_elderB (by (with_reducible repeat (first | apply tA_ | apply tN_ | apply tD_)); exact O5.out) gb247 (Nat.le_of_eq hg.symm)) hb); have n3_ := Aside0.mk (Kd.R_below (by (with_reducible repeat (first | apply rA_ | apply rN_ | apply rD_)); exact HO245.out) hb); have n4_ := Aside0.mk (blk_below (g := gb212) (o := .cells #[.int .i64 a0_0, .int .i64 a0_1, .int .i64 a0_2, .int .i64 a0_3, .slice A0_4 l0_4.length c0_4, .slice A0_5 l0_5.length c0_5, .slice A0_6 l0_6.length c0_6, .int .i64 a0_7] 24 (0, 0)) (by (with_reducible repeat (first | refine bN_ ?_ _ | refine bD_ ?_ | refine bA_ ?_ _)); exact K1.out) hb); have n5_ := Aside0.mk (blk_below (g := gb213) (o := .cells zT_ 29 (0, 0)) (by (with_reducible repeat (first | refine bN_ ?_ _ | refine bD_ ?_ | refine bA_ ?_ _)); exact K2.out) hb); have n6_ := Aside0.mk (blk_below (g := gb226) (o := .cells #[.string t217, u227001, .string t221, .string t225, u227004, u227005, .slice none 0 0, .string (⟨#[]⟩ : ByteArray)] 29 (0, 0)) (by (with_reducible repeat (first | refine bN_ ?_ _ | refine bD_ ?_ | refine bA_ ?_ _)); exact K3.out) hb); have n7_ := Aside0.mk (below_step (by repeat (first | (with_reducible first | exact HB.out | apply wA_ | apply wN_ | apply wD_ | refine wS_ ?_ GE212.out | refine wS_ ?_ GE213.out | refine wS_ ?_ GE226.out) | exact HB.out)) hb); have n8_ := Aside0.mk (hbox); have n9_ := Aside0.mk ((by rw [hg]; exact (below_size (by repeat (first | (with_reducible first | exact HB.out | apply wA_ | apply wN_ | apply wD_ | refine wS_ ?_ GE212.out | refine wS_ ?_ GE213.out | refine wS_ ?_ GE226.out) | exact HB.out))) : w.heap.size ≤ gb247)); have n10_ := Aside0.mk ((by rw [hg]; exact (below_size (by repeat (first | (with_reducible first | exact HB.out | apply wA_ | apply wN_ | apply wD_ | refine wS_ ?_ GE212.out | refine wS_ ?_ GE213.out | refine wS_ ?_ GE226.out) | exact HB.out))) : w.heap.size ≤ gb247)); have n11_ := Aside0.mk ((by rw [hg]; exact Nat.ne_of_lt (blk_lt (g := gb212) (o := .cells #[.int .i64 a0_0, .int .i64 a0_1, .int .i64 a0_2, .int .i64 a0_3, .slice A0_4 l0_4.length c0_4, .slice A0_5 l0_5.length c0_5, .slice A0_6 l0_6.length c0_6, .int .i64 a0_7] 24 (0, 0)) (by (with_reducible repeat (first | refine bN_ ?_ _ | refine bD_ ?_ | refine bA_ ?_ _)); exact K1.out)) : gb212 ≠ gb247)); have n12_ := Aside0.mk ((by rw [hg]; exact Nat.ne_of_gt (blk_lt (g := gb212) (o := .cells #[.int .i64 a0_0, .int .i64 a0_1, .int .i64 a0_2, .int .i64 a0_3, .slice A0_4 l0_4.length c0_4, .slice A0_5 l0_5.length c0_5, .slice A0_6 l0_6.length c0_6, .int .i64 a0_7] 24 (0, 0)) (by (with_reducible repeat (first | refine bN_ ?_ _ | refine bD_ ?_ | refine bA_ ?_ _)); exact K1.out)) : gb247 ≠ gb212)); have n13_ := Aside0.mk ((by rw [hg]; exact Nat.ne_of_lt (blk_lt (g := gb213) (o := .cells zT_ 29 (0, 0)) (by (with_reducible repeat (first | refine bN_ ?_ _ | refine bD_ ?_ | refine bA_ ?_ _)); exact K2.out)) : gb213 ≠ gb247)); have n14_ := Aside0.mk ((by rw [hg]; exact Nat.ne_of_gt (blk_lt (g := gb213) (o := .cells zT_ 29 (0, 0)) (by (with_reducible repeat (first | refine bN_ ?_ _ | refine bD_ ?_ | refine bA_ ?_ _)); exact K2.out)) : gb247 ≠ gb213)); have n15_ := Aside0.mk ((by rw [hg]; exact Nat.ne_of_lt (blk_lt (g := gb226) (o := .cells #[.string t217, u227001, .string t221, .string t225, u227004, u227005, .slice none 0 0, .string (⟨#[]⟩ : ByteArray)] 29 (0, 0)) (by (with_reducible repeat (first | refine bN_ ?_ _ | refine bD_ ?_ | refine bA_ ?_ _)); exact K3.out)) : gb226 ≠ gb247)); have n16_ := Aside0.mk ((by rw [hg]; exact Nat.ne_of_gt (blk_lt (g := gb226) (o := .cells #[.string t217, u227001, .string t221, .string t225, u227004, u227005, .slice none 0 0, .string (⟨#[]⟩ : ByteArray)] 29 (0, 0)) (by (with_reducible repeat (first | refine bN_ ?_ _ | refine bD_ ?_ | refine bA_ ?_ _)); exact K3.out)) : gb247 ≠ gb226)); clear O1; clear O4; clear O5; clear HO245; clear K1; clear K2; clear K3; clear HB; have O1 := n0_; have O4 := n1_; have O5 := n2_; have HO245 := n3_; have K1 := n4_; have K2 := n5_; have K3 := n6_; have HB := n7_; have K4 := n8_; have GW247 := n9_; have GE247 := n10_; have NB212_247 := n11_; have NB247_212 := n12_; have NB213_247 := n13_; have NB247_213 := n14_; have NB226_247 := n15_; have NB247_226 := n16_; clear n0_ n1_ n2_ n3_ n4_ n5_ n6_ n7_ n8_ n9_ n10_ n11_ n12_ n13_ n14_ n15_ n16_; clear hb hbox hg; have hnb107 := NB247_212.out; have hnc107 := NB212_247.out; have hnb108 := NB247_213.out; have hnc108 := NB213_247.out; have hnb109 := NB247_226.out; have hnc109 := NB226_247.out; obtain ⟨z110_0, z110_1, f110_0, f110_1⟩ := cells2 K4.out; have hnb111 := N12.out; have hnc111 := N21.out; have hnb112 := N13.out; have hnc112 := N31.out; obtain ⟨z113_0, z113_1, z113_2, z113_3, z113_4, z113_5, z113_6, z113_7, f113_0, f113_1, f113_2, f113_3, f113_4, f113_5, f113_6, f113_7⟩ := cells8 K1.out; have p248 : 0 ≤ (x8_5 : Int) := of_decide_eq_true (by first | (with_reducible assumption) | assumption); have q248 : x8_5 < (l0_5.length : Int) := of_decide_eq_true (by first | (with_reducible assumption) | assumption); obtain ⟨ad248, e248, hx248_0⟩ := Kd.at_int HR0_5.out x8_5 p248 q248; cases e248; have hn248_0 : ad248.block ≠ gb247 := Nat.ne_of_lt (Nat.lt_of_lt_of_le (by have := World.block_lt_of_cell? _ _ hx248_0; first | rwa [add_block] at this | exact this) GW247.out); have hn248_1 : ad248.block ≠ gb247 := Nat.ne_of_lt (Nat.lt_of_lt_of_le (by have := World.block_lt_of_cell? _ _ hx248_0; first | rwa [add_block] at this | exact this) GW247.out); replace hx248_0 := (HB.out.cell (World.block_lt_of_cell? w _ hx248_0)).trans hx248_0; replace hx248_0 := (cell_far (p := ⟨gb247, 0, none⟩) (by first | (rw [add_block]; exact hn248_0) | (show (Addr.add _ _).block ≠ _; rw [add_block]; exact hn248_0) | exact hn248_0) (.string (rdOf ByteArray.empty y243 x8_5))).trans hx248_0; replace hx248_0 := (cell_far (p := ⟨gb247, 1, none⟩) (by first | (rw [add_block]; exact hn248_1) | (show (Addr.add _ _).block ≠ _; rw [add_block]; exact hn248_1) | exact hn248_1) (.slice none 0 0)).trans hx248_0; clear hn248_0; clear hn248_1; replace p248 := eq_true p248; replace q248 := eq_true q248))
                  generalize Int.tmod (wrap64 ((Int.tmod (rd l0_5 x8_5) 1000) + 1000)) 1000 = n10 at *
                  go_loopg [11] kj90 (fun kq v11 w' => ∃ (x11_7 : Int) (x248001_7 : List ByteArray) (u248001 : Value), v11 = .int .i64 x11_7 ∧ Aside0 (mD.l3 kq x8_5 n10 x11_7 a0_0 a0_1 a0_2 a0_3 l0_4 l0_5 l0_6 a0_7 t217 x1_ t221 t225 x4_ x5_ (⟨#[]⟩ : ByteArray) (rdOf ByteArray.empty y243 x8_5) x248001_7 = some (r1, r2, r3, r4, r5, r6, r7, r8)) ∧ Aside0 (kq ≤ kj90) ∧ Aside0 (Kd.R Kd.string 9 w' w.heap.size (fun k_ => some k_ ≠ (u227004 : Value).ownBlock ∧ some k_ ≠ (u248001 : Value).ownBlock) u227001 x1_) ∧ Aside0 (Kd.R Kd.string 9 w' w.heap.size (fun k_ => some k_ ≠ (u227001 : Value).ownBlock ∧ some k_ ≠ (u248001 : Value).ownBlock) u227004 x4_) ∧ Aside0 (Kd.S k47 47 w' w.heap.size (fun k_ => some k_ ≠ (u227001 : Value).ownBlock ∧ some k_ ≠ (u227004 : Value).ownBlock ∧ some k_ ≠ (u248001 : Value).ownBlock ∧ k_ ≠ gb247) u227005 x5_) ∧ Aside0 (Kd.R Kd.string 9 w' w.heap.size (fun k_ => some k_ ≠ (u227001 : Value).ownBlock ∧ some k_ ≠ (u227004 : Value).ownBlock) u248001 x248001_7) ∧ Aside0 (w'.heap[gb212]? = some (.cells #[.int .i64 a0_0, .int .i64 a0_1, .int .i64 a0_2, .int .i64 a0_3, (.slice A0_4 l0_4.length c0_4), (.slice (some ad248) l0_5.length c0_5), (.slice A0_6 l0_6.length c0_6), .int .i64 a0_7] 24 (0, 0))) ∧ Aside0 (w'.heap[gb213]? = some (.cells zT_ 29 (0, 0))) ∧ Aside0 (w'.heap[gb226]? = some (.cells #[.string t217, u227001, .string t221, .string t225, u227004, u227005, (.slice none 0 0), .string (⟨#[]⟩ : ByteArray)] 29 (0, 0))) ∧ Aside0 (w'.heap[gb247]? = some (.cells #[.string (rdOf ByteArray.empty y243 x8_5), u248001] 47 (0, 0))) ∧ Aside0 (Below w.heap.size w w'))
                  case atStart => exact ⟨(0), (([] : List ByteArray)), (.slice none 0 0), (by first | rfl | (simp; done) | (simp [*]; done)), H', ⟨Nat.le_refl _⟩, ⟨by (with_reducible repeat (first | apply rA_ | apply rN_ | apply rD_)); exact Kd.R_mono (Kd.R_far (p := ⟨gb247, 1, none⟩) (Kd.R_far (p := ⟨gb247, 0, none⟩) (Kd.R_types O1.out K4.out (by decide)) (fun _ hk => hk.2) (.string (rdOf ByteArray.empty y243 x8_5))) (fun _ hk => hk.2) (.slice none 0 0)) (fun _ hk => ⟨hk.1.1, (by simp [Value.ownBlock])⟩)⟩, ⟨by (with_reducible repeat (first | apply rA_ | apply rN_ | apply rD_)); exact Kd.R_mono (Kd.R_far (p := ⟨gb247, 1, none⟩) (Kd.R_far (p := ⟨gb247, 0, none⟩) (Kd.R_types O4.out K4.out (by decide)) (fun _ hk => hk.2) (.string (rdOf ByteArray.empty y243 x8_5))) (fun _ hk => hk.2) (.slice none 0 0)) (fun _ hk => ⟨hk.1.1, (by simp [Value.ownBlock])⟩)⟩, ⟨by (with_reducible repeat (first | apply tA_ | apply tN_ | apply tD_)); exact Kd.S_mono (Kd.S_far (p := ⟨gb247, 1, none⟩) (Kd.S_far (p := ⟨gb247, 0, none⟩) (Kd.S_mono O5.out (fun k_ hk => (⟨hk, hk.2⟩ : _ ∧ k_ ≠ gb247))) (fun _ hk => hk.2) (.string (rdOf ByteArray.empty y243 x8_5))) (fun _ hk => hk.2) (.slice none 0 0)) (fun _ hk => ⟨hk.1.1.1.1, ⟨hk.1.1.1.2, ⟨(by simp [Value.ownBlock]), hk.1.2⟩⟩⟩)⟩, ⟨by first | exact Kd.R_nil _ _ _ _ _ | exact Kd.N_nil _ _ _ _ _ | exact Kd.V_nil _ _ _ _ _ | exact Kd.Q_nil _ _ _ _ _ | exact Kd.S_nil _ _ _ _ _⟩, ⟨by (with_reducible repeat (first | refine bN_ ?_ _ | refine bD_ ?_ | refine bA_ ?_ _)); refine blk_far ?_ NB212_247.out _; (with_reducible repeat (first | refine bN_ ?_ _ | refine bD_ ?_ | refine bA_ ?_ _)); refine blk_far ?_ NB212_247.out _; (with_reducible repeat (first | refine bN_ ?_ _ | refine bD_ ?_ | refine bA_ ?_ _)); exact K1.out⟩, ⟨by (with_reducible repeat (first | refine bN_ ?_ _ | refine bD_ ?_ | refine bA_ ?_ _)); refine blk_far ?_ NB213_247.out _; (with_reducible repeat (first | refine bN_ ?_ _ | refine bD_ ?_ | refine bA_ ?_ _)); refine blk_far ?_ NB213_247.out _; (with_reducible repeat (first | refine bN_ ?_ _ | refine bD_ ?_ | refine bA_ ?_ _)); exact K2.out⟩, ⟨by (with_reducible repeat (first | refine bN_ ?_ _ | refine bD_ ?_ | refine bA_ ?_ _)); refine blk_far ?_ NB226_247.out _; (with_reducible repeat (first | refine bN_ ?_ _ | refine bD_ ?_ | refine bA_ ?_ _)); refine blk_far ?_ NB226_247.out _; (with_reducible repeat (first | refine bN_ ?_ _ | refine bD_ ?_ | refine bA_ ?_ _)); exact K3.out⟩, ⟨by (with_reducible repeat (first | refine bN_ ?_ _ | refine bD_ ?_ | refine bA_ ?_ _)); refine blk_put (cs := #[.string (rdOf ByteArray.empty y243 x8_5), .slice none 0 0]) ?_ 1 _ rfl; (with_reducible repeat (first | refine bN_ ?_ _ | refine bD_ ?_ | refine bA_ ?_ _)); refine blk_put (cs := #[.string (⟨#[]⟩ : ByteArray), .slice none 0 0]) ?_ 0 _ rfl; (with_reducible repeat (first | refine bN_ ?_ _ | refine bD_ ?_ | refine bA_ ?_ _)); exact K4.out⟩, ⟨by repeat (first | (with_reducible first | exact HB.out | apply wA_ | apply wN_ | apply wD_ | refine wS_ ?_ GE212.out | refine wS_ ?_ GE213.out | refine wS_ ?_ GE226.out | refine wS_ ?_ GE247.out) | exact HB.out)⟩⟩
                  case round =>
                   clear H'
                   try clear c1; try clear c2; try clear p2; try clear q2; try clear hx2; try clear c3; try clear c4; try clear c5; try clear c6; try clear p6; try clear c7; try clear c8; try clear c9; try clear c10; try clear c11; try clear p21; try clear q21; try clear hx21; try clear p22; try clear q22; try clear hx22; try clear c28; try clear c28b0; try clear c28b1; try clear c29; try clear c30; try clear c32; try clear c34; try clear c35; try clear c36; try clear c38; try clear c42; try clear c43; try clear c49; try clear c52; try clear c52b0; try clear c53; try clear c54; try clear c56; try clear c57; try clear c59; try clear c61; try clear c61b0; try clear c62; try clear c62b0; try clear p64; try clear c67; try clear c67b0; try clear c68; try clear c69; try clear c70; try clear c73; try clear c73b0; try clear c74; try clear c75; try clear c78; try clear c79; try clear c80; try clear c83; try clear c84; try clear c85; try clear c92; try clear c92b0; try clear c93; try clear c94; try clear c96; try clear c97; try clear c99; try clear c100; try clear c100b0; try clear c101; try clear c101b0; try clear c102; try clear c102b0; try clear c107; try clear c108; try clear c109; try clear c111; try clear c112
                   try clear z110_0 z110_1 f110_0 f110_1; try clear z113_0 z113_1 z113_2 z113_3 z113_4 z113_5 z113_6 z113_7 f113_0 f113_1 f113_2 f113_3 f113_4 f113_5 f113_6 f113_7; try clear z31_0 z31_1 z31_2 z31_3 z31_4 z31_5 z31_6 z31_7 f31_0 f31_1 f31_2 f31_3 f31_4 f31_5 f31_6 f31_7; try clear z33_0 z33_1 z33_2 z33_3 z33_4 z33_5 z33_6 z33_7 f33_0 f33_1 f33_2 f33_3 f33_4 f33_5 f33_6 f33_7; try clear z36_0 z36_1 z36_2 z36_3 z36_4 z36_5 z36_6 z36_7 f36_0 f36_1 f36_2 f36_3 f36_4 f36_5 f36_6 f36_7; try clear z44_0 z44_1 z44_2 z44_3 z44_4 z44_5 z44_6 z44_7 f44_0 f44_1 f44_2 f44_3 f44_4 f44_5 f44_6 f44_7; try clear z50_0 z50_1 z50_2 z50_3 z50_4 z50_5 z50_6 z50_7 f50_0 f50_1 f50_2 f50_3 f50_4 f50_5 f50_6 f50_7; try clear z55_0 z55_1 z55_2 z55_3 z55_4 z55_5 z55_6 z55_7 f55_0 f55_1 f55_2 f55_3 f55_4 f55_5 f55_6 f55_7; try clear z58_0 z58_1 z58_2 z58_3 z58_4 z58_5 z58_6 z58_7 f58_0 f58_1 f58_2 f58_3 f58_4 f58_5 f58_6 f58_7; try clear z71_0 z71_1 z71_2 z71_3 z71_4 z71_5 z71_6 z71_7 f71_0 f71_1 f71_2 f71_3 f71_4 f71_5 f71_6 f71_7; try clear z76_0 z76_1 z76_2 z76_3 z76_4 z76_5 z76_6 z76_7 f76_0 f76_1 f76_2 f76_3 f76_4 f76_5 f76_6 f76_7; try clear z81_0 z81_1 z81_2 z81_3 z81_4 z81_5 z81_6 z81_7 f81_0 f81_1 f81_2 f81_3 f81_4 f81_5 f81_6 f81_7; try clear z86_0 z86_1 z86_2 z86_3 z86_4 z86_5 z86_6 z86_7 f86_0 f86_1 f86_2 f86_3 f86_4 f86_5 f86_6 f86_7; try clear z90_0 z90_1 z90_2 z90_3 z90_4 z90_5 z90_6 z90_7 f90_0 f90_1 f90_2 f90_3 f90_4 f90_5 f90_6 f90_7; try clear z95_0 z95_1 z95_2 z95_3 z95_4 z95_5 z95_6 z95_7 f95_0 f95_1 f95_2 f95_3 f95_4 f95_5 f95_6 f95_7; try clear z98_0 z98_1 z98_2 z98_3 z98_4 z98_5 z98_6 z98_7 f98_0 f98_1 f98_2 f98_3 f98_4 f98_5 f98_6 f98_7
                   try clear hx237_0; try clear hx239_0; try clear hx246_0; try clear hx248_0; try clear p2; try clear p21; try clear p237; try clear p239; try clear p246; try clear p248; try clear p6; try clear p64; try clear q2; try clear q21; try clear q237; try clear q239; try clear q246; try clear q248
                   obtain ⟨x11_7, x248001_7, u248001, rfl, HA, HK7, O1, O4, O5, HO_248001, K1, K2, K3, K4, HB⟩ := hrel
                   cases gk with
                   | zero => exact absurd HA.out (by simp [mD.l3])
                   | succ k7 =>
                    have H := HA.out
                    clear HA
                    simp only [mD.l3] at H
                    by_cases c114 : x11_7 ≤ (Int.tmod n10 4)
                    ·rw [if_pos c114] at H
                     have c114b0 : decide (x11_7 ≤ (Int.tmod n10 4)) = true := decide_eq_true c114
                     clear c114
                     replace H := Option.bind_eq_some_iff.mp H
                     obtain ⟨t249, A1172, H⟩ := H
                     replace H : ((isoglossref06_Pick.f t249 (wrap64 ((wrap64 (Int.tdiv n10 4)) + (wrap64 ((wrap64 (x11_7 * x11_7)) * 3))))).bind fun t252 => (if x248001_7.length < 8796093022208 then (mD.l3 k7 x8_5 n10 (wrap64 (x11_7 + 1)) a0_0 a0_1 a0_2 a0_3 l0_4 l0_5 l0_6 a0_7 t217 x1_ t221 t225 x4_ x5_ (⟨#[]⟩ : ByteArray) (rdOf ByteArray.empty y243 x8_5) (x248001_7 ++ [t252])) else (none))) = some (r1, r2, r3, r4, r5, r6, r7, r8) := H
                     have A115 := Aside0.mk A1172
                     clear A1172
                     replace H := Option.bind_eq_some_iff.mp H
                     obtain ⟨t252, A1182, H⟩ := H
                     replace H : (if x248001_7.length < 8796093022208 then (mD.l3 k7 x8_5 n10 (wrap64 (x11_7 + 1)) a0_0 a0_1 a0_2 a0_3 l0_4 l0_5 l0_6 a0_7 t217 x1_ t221 t225 x4_ x5_ (⟨#[]⟩ : ByteArray) (rdOf ByteArray.empty y243 x8_5) (x248001_7 ++ [t252])) else (none)) = some (r1, r2, r3, r4, r5, r6, r7, r8) := H
                     have A116 := Aside0.mk A1182
                     clear A1182
                     by_cases c117 : x248001_7.length < 8796093022208
                     ·rw [if_pos c117] at H
                      have LMc117 := Aside0.mk c117
                      clear c117
                      obtain ⟨y253, hy253⟩ : ∃ y_ : List ByteArray, y_ = (x248001_7 ++ [t252]) := ⟨_, rfl⟩
                      replace H : (mD.l3 k7 x8_5 n10 (wrap64 (x11_7 + 1)) a0_0 a0_1 a0_2 a0_3 l0_4 l0_5 l0_6 a0_7 t217 x1_ t221 t225 x4_ x5_ (⟨#[]⟩ : ByteArray) (rdOf ByteArray.empty y243 x8_5) y253) = some (r1, r2, r3, r4, r5, r6, r7, r8) := by first | (rw [hy253]; with_reducible exact H) | (have H2_ := (Option.bind_some _ _).symm.trans H; rw [hy253]; with_reducible exact H2_) | (have H2_ := (Option.bind_some _ _).symm.trans H; with_reducible exact H2_) | with_reducible exact H | (rw [hy253]; exact H) | exact H
                      have Ny253 := Aside0.mk hy253
                      clear hy253
                      have H' := Aside0.mk H
                      clear H
                      try go_wp2
                      have n0_ := Aside0.mk (rD_ O1.out)
                      have n1_ := Aside0.mk (rD_ O4.out)
                      have n2_ := Aside0.mk (tD_ O5.out)
                      have n3_ := Aside0.mk (rD_ HO_248001.out)
                      have n4_ := Aside0.mk (bD_ K1.out)
                      have n5_ := Aside0.mk (bD_ K2.out)
                      have n6_ := Aside0.mk (bD_ K3.out)
                      have n7_ := Aside0.mk (bD_ K4.out)
                      have n8_ := Aside0.mk (wD_ HB.out)
                      clear O1 O4 O5 HO_248001 K1 K2 K3 K4 HB
                      have O1 := n0_; have O4 := n1_; have O5 := n2_; have HO_248001 := n3_; have K1 := n4_; have K2 := n5_; have K3 := n6_; have K4 := n7_; have HB := n8_
                      clear n0_ n1_ n2_ n3_ n4_ n5_ n6_ n7_ n8_
                      refine start_ (n := 15) (S := fun w' => w'.cell? ⟨gb247, 0, none⟩ = some (.string (rdOf ByteArray.empty y243 x8_5)) ∧ w'.cell? ⟨gb247, 1, none⟩ = some (u248001)) (ds := [14]) #[false, false, false, false, false, false, false, false, false, false, false, false, false, false, false] (by kernel_rfl) rfl rfl ⟨(bC_ K4.out 0).trans rfl, (bC_ K4.out 1).trans rfl⟩ (fun hHeld => ?_); refine with_tabW mD.tab23 mD.bits23 (fun HT_ HW_ => ?_)
                      generalize wr.drew = w118 at O1 O4 O5 HO_248001 K1 K2 K3 K4 HB hHeld ⊢
                      refine pure_ (i := 0) (N := some 116) (v := ?_) (a' := ?_) #[true, false, false, false, false, false, false, false, false, false, false, false, false, false, false] rfl rfl (any_of HT_.out (by kernel_rfl)) (fun _ _ _ h => h) (Or.inl ⟨by rfl, ?_⟩) ?_ ?_
                      rotate_left
                      ·intro w'
                       go_simp
                       with_reducible rfl
                      rotate_left
                      ·simp only [Act.put, sA_, sB_, sC_, i64_w, i32_w]
                       rfl
                      refine pure_ (i := 3) (N := some 119) (v := ?_) (a' := ?_) #[true, false, false, true, false, false, false, false, false, false, false, false, false, false, false] rfl rfl (any_of HT_.out (by kernel_rfl)) (fun _ _ _ h => h) (Or.inl ⟨by rfl, ?_⟩) ?_ ?_
                      rotate_left
                      ·intro w'
                       go_simp
                       with_reducible rfl
                      rotate_left
                      ·simp only [Act.put, sA_, sB_, sC_, i64_w, i32_w]
                       rfl
                      refine pure_ (i := 4) (N := some 120) (v := ?_) (a' := ?_) #[true, false, false, true, true, false, false, false, false, false, false, false, false, false, false] rfl rfl (any_of HT_.out (by kernel_rfl)) (fun _ _ _ h => h) (Or.inl ⟨by rfl, ?_⟩) ?_ ?_
                      rotate_left
                      ·intro w'
                       go_simp
                       with_reducible rfl
                      rotate_left
                      ·simp only [Act.put, sA_, sB_, sC_, i64_w, i32_w]
                       rfl
                      refine pure_ (i := 5) (N := some 121) (v := ?_) (a' := ?_) #[true, false, false, true, true, true, false, false, false, false, false, false, false, false, false] rfl rfl (any_of HT_.out (by kernel_rfl)) (fun _ _ _ h => h) (Or.inl ⟨by rfl, ?_⟩) ?_ ?_
                      rotate_left
                      ·intro w'
                       go_simp
                       with_reducible rfl
                      rotate_left
                      ·simp only [Act.put, sA_, sB_, sC_, i64_w, i32_w]
                       rfl
                      refine pure_ (i := 6) (N := some 122) (v := ?_) (a' := ?_) #[true, false, false, true, true, true, true, false, false, false, false, false, false, false, false] rfl rfl (any_of HT_.out (by kernel_rfl)) (fun _ _ _ h => h) (Or.inl ⟨by rfl, ?_⟩) ?_ ?_
                      rotate_left
                      ·intro w'
                       go_simp
                       with_reducible rfl
                      rotate_left
                      ·simp only [Act.put, sA_, sB_, sC_, i64_w, i32_w]
                       rfl
                      refine pure_ (i := 7) (N := some 123) (v := ?_) (a' := ?_) #[true, false, false, true, true, true, true, true, false, false, false, false, false, false, false] rfl rfl (any_of HT_.out (by kernel_rfl)) (fun _ _ _ h => h) (Or.inl ⟨by rfl, ?_⟩) ?_ ?_
                      rotate_left
                      ·intro w'
                       go_simp
                       with_reducible rfl
                      rotate_left
                      ·simp only [Act.put, sA_, sB_, sC_, i64_w, i32_w]
                       rfl
                      refine pure_ (i := 8) (N := some 124) (v := ?_) (a' := ?_) #[true, false, false, true, true, true, true, true, true, false, false, false, false, false, false] rfl rfl (any_of HT_.out (by kernel_rfl)) (fun _ _ _ h => h) (Or.inl ⟨by rfl, ?_⟩) ?_ ?_
                      rotate_left
                      ·intro w'
                       go_simp
                       with_reducible rfl
                      rotate_left
                      ·simp only [Act.put, sA_, sB_, sC_, i64_w, i32_w]
                       rfl
                      refine pure_ (i := 9) (N := some 125) (v := ?_) (a' := ?_) #[true, false, false, true, true, true, true, true, true, true, false, false, false, false, false] rfl rfl (any_of HT_.out (by kernel_rfl)) (fun _ _ _ h => h) (Or.inl ⟨by rfl, ?_⟩) ?_ ?_
                      rotate_left
                      ·intro w'
                       go_simp
                       with_reducible rfl
                      rotate_left
                      ·simp only [Act.put, sA_, sB_, sC_, i64_w, i32_w]
                       rfl
                      refine take_ (i := 1) (N := some 117) (v := ?_) (a' := ?_) #[true, true, false, true, true, true, true, true, true, true, false, false, false, false, false] rfl rfl (take_ofW HT_.out HW_.out (by kernel_rfl)) (fun _ _ _ h => h) (Or.inl ⟨by rfl, ?_⟩) hHeld ?_ ?_
                      rotate_left
                      ·rintro w' ⟨s0, s1⟩
                       go_simp
                       with_reducible rfl
                      rotate_left
                      ·simp only [Act.put, sA_, sB_, sC_, i64_w, i32_w]
                       rfl
                      refine one_ (i := 2) (N := some 118) #[true, true, true, true, true, true, true, true, true, true, false, false, false, false, false] rfl rfl (one_of HT_.out (by kernel_rfl)) (by decide) (fun K hK => ?_)
                      refine goes_ Tryz.func37 (by kernel_rfl) rfl #[] (by rfl) rfl rfl (by (try simp only [List.map_toArray, List.map_cons, List.map_nil]); first | done | rfl | (simp only [List.length_drop, List.length_take]; rfl)) ?_
                      with_reducible refine (isoglossref06_words.calls  t249 _ A115.out).mono ?_
                      rintro e w119 ⟨v250, rfl, ho0, hb⟩
                      refine ⟨_, rfl, ?_⟩
                      have n0_ := Aside0.mk (Kd.R_elder' (by (with_reducible repeat (first | apply rA_ | apply rN_ | apply rD_)); exact O1.out) (Kd.R_base ho0) hb)
                      have n1_ := Aside0.mk (Kd.R_elder' (by (with_reducible repeat (first | apply rA_ | apply rN_ | apply rD_)); exact O4.out) (Kd.R_base ho0) hb)
                      have n2_ := Aside0.mk (Kd.S_elder' (by (with_reducible repeat (first | apply tA_ | apply tN_ | apply tD_)); exact O5.out) (Kd.R_base ho0) hb)
                      have n3_ := Aside0.mk (Kd.R_elder' (by (with_reducible repeat (first | apply rA_ | apply rN_ | apply rD_)); exact HO_248001.out) (Kd.R_base ho0) hb)
                      have n4_ := Aside0.mk (Kd.R_lower (Kd.R_new' (Kd.R_new' (Kd.R_new' ho0 (Kd.R_lt (by (with_reducible repeat (first | apply rA_ | apply rN_ | apply rD_)); exact O1.out))) (Kd.R_lt (by (with_reducible repeat (first | apply rA_ | apply rN_ | apply rD_)); exact O4.out))) (Kd.R_lt (by (with_reducible repeat (first | apply rA_ | apply rN_ | apply rD_)); exact HO_248001.out))) (below_size (by repeat (first | (with_reducible first | exact HB.out | apply wA_ | apply wN_ | apply wD_ | refine wS_ ?_ GE212.out | refine wS_ ?_ GE213.out | refine wS_ ?_ GE226.out | refine wS_ ?_ GE247.out) | exact HB.out))))
                      have n5_ := Aside0.mk (blk_below (g := gb212) (o := .cells #[.int .i64 a0_0, .int .i64 a0_1, .int .i64 a0_2, .int .i64 a0_3, .slice A0_4 l0_4.length c0_4, .slice (some ad248) l0_5.length c0_5, .slice A0_6 l0_6.length c0_6, .int .i64 a0_7] 24 (0, 0)) (by (with_reducible repeat (first | refine bN_ ?_ _ | refine bD_ ?_ | refine bA_ ?_ _)); exact K1.out) hb)
                      have n6_ := Aside0.mk (blk_below (g := gb213) (o := .cells zT_ 29 (0, 0)) (by (with_reducible repeat (first | refine bN_ ?_ _ | refine bD_ ?_ | refine bA_ ?_ _)); exact K2.out) hb)
                      have n7_ := Aside0.mk (blk_below (g := gb226) (o := .cells #[.string t217, u227001, .string t221, .string t225, u227004, u227005, .slice none 0 0, .string (⟨#[]⟩ : ByteArray)] 29 (0, 0)) (by (with_reducible repeat (first | refine bN_ ?_ _ | refine bD_ ?_ | refine bA_ ?_ _)); exact K3.out) hb)
                      have n8_ := Aside0.mk (blk_below (g := gb247) (o := .cells #[.string (rdOf ByteArray.empty y243 x8_5), u248001] 47 (0, 0)) (by (with_reducible repeat (first | refine bN_ ?_ _ | refine bD_ ?_ | refine bA_ ?_ _)); exact K4.out) hb)
                      have n9_ := Aside0.mk (below_step (by repeat (first | (with_reducible first | exact HB.out | apply wA_ | apply wN_ | apply wD_ | refine wS_ ?_ GE212.out | refine wS_ ?_ GE213.out | refine wS_ ?_ GE226.out | refine wS_ ?_ GE247.out) | exact HB.out)) hb)
                      clear O1 O4 O5 HO_248001 K1 K2 K3 K4 HB
                      have O1 := n0_; have O4 := n1_; have O5 := n2_; have HO_248001 := n3_; have HO251 := n4_; have K1 := n5_; have K2 := n6_; have K3 := n7_; have K4 := n8_; have HB := n9_
                      clear n0_ n1_ n2_ n3_ n4_ n5_ n6_ n7_ n8_ n9_
                      (try clear hb); (try clear hb2); (try clear hk); (try clear hi); (try clear ho0)
                      obtain ⟨Ao120, co120, eo120⟩ := Kd.R_slice HO251.out
                      (first | subst eo120 | (injection eo120 with f1_ f2_ f3_; have f4_ := f1_.symm; have f5_ := f3_.symm; clear f1_ f2_ f3_; subst f4_; subst f5_))
                      refine hK.out _ _ ⟨(bC_ K4.out 0).trans rfl, (bC_ K4.out 1).trans rfl⟩ (fun hHeld => ?_)
                      clear hK K
                      refine norm_ (a' := ?_) ?_ ?_
                      rotate_left
                      ·show Act.put _ (some 118) _ = _
                       simp only [Act.put, sA_, sB_, sC_, i64_w, i32_w]
                       rfl
                      refine one_ (i := 10) (N := some 126) #[true, true, true, true, true, true, true, true, true, true, true, false, false, false, false] rfl rfl (one_of HT_.out (by kernel_rfl)) (by decide) (fun K hK => ?_)
                      refine goes_ Tryz.func32 (by kernel_rfl) rfl #[.slice Ao120 t249.length co120, .int .i64 (wrap64 ((wrap64 (Int.tdiv n10 4)) + (wrap64 ((wrap64 (x11_7 * x11_7)) * 3))))] (by rfl) rfl rfl (by (try simp only [List.map_toArray, List.map_cons, List.map_nil]); first | done | rfl | (simp only [List.length_drop, List.length_take]; rfl)) ?_
                      with_reducible refine (isoglossref06_Pick.calls _ _ t249 (wrap64 ((wrap64 (Int.tdiv n10 4)) + (wrap64 ((wrap64 (x11_7 * x11_7)) * 3)))) t252 _ ?side1 ?side2 A116.out).mono ?_
                      (case side1 => repeat (first | exact (Kd.R_reads' HO251.out).2.2 | (with_reducible refine Kd.C_alloc ?_ _) | (with_reducible refine Kd.C_drewN ?_ _) | (with_reducible refine Kd.C_drew ?_)))
                      (case side2 => exact (Kd.R_reads' HO251.out).2.1)
                      rintro e w' ⟨rfl, ⟨nd, rfl⟩⟩
                      refine ⟨_, rfl, ?_⟩
                      refine hK.out _ _ ⟨(bC_ K4.out 0).trans rfl, (bC_ K4.out 1).trans rfl⟩ (fun hHeld => ?_)
                      clear hK K
                      refine norm_ (a' := ?_) ?_ ?_
                      rotate_left
                      ·show Act.put _ (some 126) _ = _
                       simp only [Act.put, sA_, sB_, sC_, i64_w, i32_w]
                       rfl
                      refine one_ (i := 11) (N := some 127) #[true, true, true, true, true, true, true, true, true, true, true, true, false, false, false] rfl rfl (one_of HT_.out (by kernel_rfl)) (by decide) (fun K hK => ?_)
                      refine value_ (w1 := ?_) (v := ?_) (by rfl) rfl ?_ ?_
                      rotate_left 2
                      ·go_simp
                       constructor
                       ·rfl
                       ·rfl
                      refine hK.out _ _ ⟨(bC_ (bA_ K4.out _) 0).trans rfl, (bC_ (bA_ K4.out _) 1).trans rfl⟩ (fun hHeld => ?_)
                      clear hK K
                      refine norm_ (a' := ?_) ?_ ?_
                      rotate_left
                      ·show Act.put _ (some 127) _ = _
                       simp only [Act.put, sA_, sB_, sC_, i64_w, i32_w]
                       rfl
                      refine one_ (i := 12) (N := some 128) #[true, true, true, true, true, true, true, true, true, true, true, true, true, false, false] rfl rfl (one_of HT_.out (by kernel_rfl)) (by decide) (fun K hK => ?_)
                      refine Kd.R_append_step Kd.string (w0 := w) w.heap.size (by rfl) (.tmp 117) (.tmp 127) 26 9 (.string ⟨#[]⟩) 16 rfl Tryz.underlying26 info9 rfl (by decide) (by omega) u248001 x248001_7 t252 [.string t252] (fun k_ => some k_ ≠ (u227001 : Value).ownBlock ∧ some k_ ≠ (u227004 : Value).ownBlock ∧ some k_ ≠ (.slice Ao120 t249.length co120 : Value).ownBlock) (fun _ => False) rfl rfl ?aP (fun _ hk => hk.elim) ?aF ?aO ?aB ?aS ?aL ?_
                      (case aP => exact rfl)
                      (case aB => exact (by repeat (first | (with_reducible first | exact HB.out | apply wA_ | apply wN_ | apply wD_ | refine wS_ ?_ GE212.out | refine wS_ ?_ GE213.out | refine wS_ ?_ GE226.out | refine wS_ ?_ GE247.out) | exact HB.out)))
                      (case aF => exact (fun k_ hk => ⟨Kd.fresh' (Kd.R_lt (by (with_reducible repeat (first | apply rA_ | apply rN_ | apply rD_)); exact O1.out)) k_ hk, Kd.fresh' (Kd.R_lt (by (with_reducible repeat (first | apply rA_ | apply rN_ | apply rD_)); exact O4.out)) k_ hk, Kd.fresh' (Kd.R_lt (by (with_reducible repeat (first | apply rA_ | apply rN_ | apply rD_)); exact HO251.out)) k_ hk⟩))
                      (case aO => exact (by (with_reducible repeat (first | apply rA_ | apply rN_ | apply rD_)); exact Kd.R_mono HO_248001.out (fun _ hk => ⟨hk.1.1, ⟨hk.1.2, hk.2⟩⟩)))
                      (case aS => exact (below_size (by repeat (first | (with_reducible first | exact HB.out | apply wA_ | apply wN_ | apply wD_ | refine wS_ ?_ GE212.out | refine wS_ ?_ GE213.out | refine wS_ ?_ GE226.out | refine wS_ ?_ GE247.out) | exact HB.out))))
                      (case aL => have := LMc117.out; omega)
                      intro v254 w121 ho hb hg hat
                      rw [← Ny253.out] at ho
                      have n0_ := Aside0.mk (Kd.R_after (ok := (fun k_ => some k_ ≠ (u227004 : Value).ownBlock ∧ some k_ ≠ (.slice Ao120 t249.length co120 : Value).ownBlock)) (by (with_reducible repeat (first | apply rA_ | apply rN_ | apply rD_)); exact Kd.R_mono O1.out (fun _ hk => ⟨⟨hk.1.1, hk.2⟩, hk.1.2⟩)) hg hat)
                      have n1_ := Aside0.mk (Kd.R_after (ok := (fun k_ => some k_ ≠ (u227001 : Value).ownBlock ∧ some k_ ≠ (.slice Ao120 t249.length co120 : Value).ownBlock)) (by (with_reducible repeat (first | apply rA_ | apply rN_ | apply rD_)); exact Kd.R_mono O4.out (fun _ hk => ⟨⟨hk.1.1, hk.2⟩, hk.1.2⟩)) hg hat)
                      have n2_ := Aside0.mk (Kd.S_after (ok := (fun k_ => some k_ ≠ (u227001 : Value).ownBlock ∧ some k_ ≠ (u227004 : Value).ownBlock ∧ some k_ ≠ (.slice Ao120 t249.length co120 : Value).ownBlock ∧ k_ ≠ gb247)) (by (with_reducible repeat (first | apply tA_ | apply tN_ | apply tD_)); exact Kd.S_mono O5.out (fun _ hk => ⟨⟨hk.1.1, ⟨hk.1.2.1, ⟨hk.2, hk.1.2.2.2⟩⟩⟩, hk.1.2.2.1⟩)) hg hat)
                      have n3_ := Aside0.mk (blk_grown (g := gb212) (o := .cells #[.int .i64 a0_0, .int .i64 a0_1, .int .i64 a0_2, .int .i64 a0_3, .slice A0_4 l0_4.length c0_4, .slice (some ad248) l0_5.length c0_5, .slice A0_6 l0_6.length c0_6, .int .i64 a0_7] 24 (0, 0)) (by (with_reducible repeat (first | refine bN_ ?_ _ | refine bD_ ?_ | refine bA_ ?_ _)); exact K1.out) hg (Kd.R_ne HO_248001.out K1.out (by decide)))
                      have n4_ := Aside0.mk (blk_grown (g := gb213) (o := .cells zT_ 29 (0, 0)) (by (with_reducible repeat (first | refine bN_ ?_ _ | refine bD_ ?_ | refine bA_ ?_ _)); exact K2.out) hg (Kd.R_ne HO_248001.out K2.out (by decide)))
                      have n5_ := Aside0.mk (blk_grown (g := gb226) (o := .cells #[.string t217, u227001, .string t221, .string t225, u227004, u227005, .slice none 0 0, .string (⟨#[]⟩ : ByteArray)] 29 (0, 0)) (by (with_reducible repeat (first | refine bN_ ?_ _ | refine bD_ ?_ | refine bA_ ?_ _)); exact K3.out) hg (Kd.R_ne HO_248001.out K3.out (by decide)))
                      have n6_ := Aside0.mk (blk_grown (g := gb247) (o := .cells #[.string (rdOf ByteArray.empty y243 x8_5), u248001] 47 (0, 0)) (by (with_reducible repeat (first | refine bN_ ?_ _ | refine bD_ ?_ | refine bA_ ?_ _)); exact K4.out) hg (Kd.R_ne HO_248001.out K4.out (by decide)))
                      have n7_ := Aside0.mk (Kd.R_after (ok := (fun k_ => some k_ ≠ (u227001 : Value).ownBlock ∧ some k_ ≠ (u227004 : Value).ownBlock)) (by (with_reducible repeat (first | apply rA_ | apply rN_ | apply rD_)); exact Kd.R_mono HO251.out (fun _ hk => ⟨⟨hk.1.1.2, hk.1.2⟩, hk.2⟩)) hg hat)
                      have n8_ := Aside0.mk (hb)
                      have n9_ := Aside0.mk (ho)
                      clear O1 O4 O5 K1 K2 K3 K4 HO251 HB HO_248001
                      have O1 := n0_; have O4 := n1_; have O5 := n2_; have K1 := n3_; have K2 := n4_; have K3 := n5_; have K4 := n6_; have HO251 := n7_; have HB := n8_; have HO255 := n9_
                      clear n0_ n1_ n2_ n3_ n4_ n5_ n6_ n7_ n8_ n9_ ho hb hg hat
                      obtain ⟨Ao122, co122, eo122⟩ := Kd.R_slice HO255.out
                      (first | subst eo122 | (injection eo122 with f1_ f2_ f3_; have f4_ := f1_.symm; have f5_ := f3_.symm; clear f1_ f2_ f3_; subst f4_; subst f5_))
                      refine hK.out _ _ ⟨(bC_ K4.out 0).trans rfl, (bC_ K4.out 1).trans rfl⟩ (fun hHeld => ?_)
                      clear hK K
                      refine norm_ (a' := ?_) ?_ ?_
                      rotate_left
                      ·show Act.put _ (some 128) _ = _
                       simp only [Act.put, sA_, sB_, sC_, i64_w, i32_w]
                       rfl
                      refine pure_ (i := 13) (N := some 129) (v := ?_) (a' := ?_) #[true, true, true, true, true, true, true, true, true, true, true, true, true, true, false] rfl rfl (any_of HT_.out (by kernel_rfl)) (fun _ _ _ h => h) (Or.inl ⟨by rfl, ?_⟩) ?_ ?_
                      rotate_left
                      ·intro w'
                       go_simp
                       with_reducible rfl
                      rotate_left
                      ·simp only [Act.put, sA_, sB_, sC_, i64_w, i32_w]
                       rfl
                      refine last_ (i := 14) (N := none) #[true, true, true, true, true, true, true, true, true, true, true, true, true, true, true] rfl rfl (one_of HT_.out (by kernel_rfl)) (by decide) (fun K hK => ?_)
                      have hs123 : w121.cell? ⟨gb247, 1, none⟩ = some (u248001) := (bC_ K4.out 1).trans rfl
                      have hfs123 := bF_ K4.out 1
                      have hns123_0 := NB212_247.out
                      have hns123_1 := NB213_247.out
                      have hns123_2 := NB226_247.out
                      have hms123_0 := NB247_212.out
                      have hms123_1 := NB247_213.out
                      have hms123_2 := NB247_226.out
                      refine skip_ (w1 := ?_) (by rfl) rfl ?_ ?_
                      rotate_left
                      ·go_simp
                       rfl
                      refine hK.out _ _ ?_
                      clear hK K
                      refine done_ (done_of HT_.out (by kernel_rfl)) ?_
                      try go_wp2
                      go_roundg k7
                      case measure => have := HJ7.out; have := HJ36.out; have := HK3.out; have := HJ50.out; have := HK5.out; have := HJ90.out; have := HK7.out; omega
                      case rel => exact ⟨(wrap64 (x11_7 + 1)), (y253), (.slice Ao122 y253.length co122), (by first | rfl | (simp; done) | (simp [*]; done)), H', ⟨by have := HJ7.out; have := HJ36.out; have := HK3.out; have := HJ50.out; have := HK5.out; have := HJ90.out; have := HK7.out; omega⟩, ⟨by (with_reducible repeat (first | apply rA_ | apply rN_ | apply rD_)); exact Kd.R_mono (Kd.R_far (p := ⟨gb247, 1, none⟩) (Kd.R_types O1.out K4.out (by decide)) (fun _ hk => hk.2) (.slice Ao122 y253.length co122)) (fun _ hk => ⟨hk.1.1.1, hk.1.2⟩)⟩, ⟨by (with_reducible repeat (first | apply rA_ | apply rN_ | apply rD_)); exact Kd.R_mono (Kd.R_far (p := ⟨gb247, 1, none⟩) (Kd.R_types O4.out K4.out (by decide)) (fun _ hk => hk.2) (.slice Ao122 y253.length co122)) (fun _ hk => ⟨hk.1.1.1, hk.1.2⟩)⟩, ⟨by (with_reducible repeat (first | apply tA_ | apply tN_ | apply tD_)); exact Kd.S_mono (Kd.S_far (p := ⟨gb247, 1, none⟩) (Kd.S_mono O5.out (fun k_ hk => (⟨hk, hk.1.2.2.2⟩ : _ ∧ k_ ≠ gb247))) (fun _ hk => hk.2) (.slice Ao122 y253.length co122)) (fun _ hk => ⟨hk.1.1.1, ⟨hk.1.1.2.1, ⟨hk.1.2, hk.1.1.2.2.2⟩⟩⟩)⟩, ⟨by (with_reducible repeat (first | apply rA_ | apply rN_ | apply rD_)); exact Kd.R_mono (Kd.R_far (p := ⟨gb247, 1, none⟩) (Kd.R_types HO255.out K4.out (by decide)) (fun _ hk => hk.2) (.slice Ao122 y253.length co122)) (fun _ hk => ⟨hk.1.1, hk.1.2.1⟩)⟩, ⟨by (with_reducible repeat (first | refine bN_ ?_ _ | refine bD_ ?_ | refine bA_ ?_ _)); refine blk_far ?_ NB212_247.out _; (with_reducible repeat (first | refine bN_ ?_ _ | refine bD_ ?_ | refine bA_ ?_ _)); exact K1.out⟩, ⟨by (with_reducible repeat (first | refine bN_ ?_ _ | refine bD_ ?_ | refine bA_ ?_ _)); refine blk_far ?_ NB213_247.out _; (with_reducible repeat (first | refine bN_ ?_ _ | refine bD_ ?_ | refine bA_ ?_ _)); exact K2.out⟩, ⟨by (with_reducible repeat (first | refine bN_ ?_ _ | refine bD_ ?_ | refine bA_ ?_ _)); refine blk_far ?_ NB226_247.out _; (with_reducible repeat (first | refine bN_ ?_ _ | refine bD_ ?_ | refine bA_ ?_ _)); exact K3.out⟩, ⟨by (with_reducible repeat (first | refine bN_ ?_ _ | refine bD_ ?_ | refine bA_ ?_ _)); refine blk_put (cs := #[.string (rdOf ByteArray.empty y243 x8_5), u248001]) ?_ 1 _ rfl; (with_reducible repeat (first | refine bN_ ?_ _ | refine bD_ ?_ | refine bA_ ?_ _)); exact K4.out⟩, ⟨by repeat (first | (with_reducible first | exact HB.out | apply wA_ | apply wN_ | apply wD_ | refine wS_ ?_ GE212.out | refine wS_ ?_ GE213.out | refine wS_ ?_ GE226.out | refine wS_ ?_ GE247.out) | exact HB.out)⟩⟩
                     ·rw [if_neg c117] at H
                      exact absurd H (by simp)
                    ·rw [if_neg c114] at H
                     have c114b0 : decide (x11_7 ≤ (Int.tmod n10 4)) = false := decide_eq_false c114
                     clear c114
                     by_cases c124 : x5_.length < 3518437208883
                     ·rw [if_pos c124] at H
                      have LMc124 := Aside0.mk c124
                      clear c124
                      obtain ⟨y256, hy256⟩ : ∃ y_ : List (S47), y_ = (x5_ ++ [(⟨(rdOf ByteArray.empty y243 x8_5), x248001_7⟩ : S47)]) := ⟨_, rfl⟩
                      replace H : (mD.l2 k7 (wrap64 (x8_5 + 1)) a0_0 a0_1 a0_2 a0_3 l0_4 l0_5 l0_6 a0_7 t217 x1_ t221 t225 x4_ y256 (⟨#[]⟩ : ByteArray)) = some (r1, r2, r3, r4, r5, r6, r7, r8) := by first | (rw [hy256]; with_reducible exact H) | (have H2_ := (Option.bind_some _ _).symm.trans H; rw [hy256]; with_reducible exact H2_) | (have H2_ := (Option.bind_some _ _).symm.trans H; with_reducible exact H2_) | with_reducible exact H | (rw [hy256]; exact H) | exact H
                      have Ny256 := Aside0.mk hy256
                      clear hy256
                      have H' := Aside0.mk H
                      clear H
                      have hnb125 := N31.out
                      have hnc125 := N13.out
                      have hnb126 := N32.out
                      have hnc126 := N23.out
                      have hnb127 := NB226_247.out
                      have hnc127 := NB247_226.out
                      obtain ⟨z128_0, z128_1, z128_2, z128_3, z128_4, z128_5, z128_6, z128_7, f128_0, f128_1, f128_2, f128_3, f128_4, f128_5, f128_6, f128_7⟩ := cells8 K3.out
                      have hnb129 := NB247_212.out
                      have hnc129 := NB212_247.out
                      have hnb130 := NB247_213.out
                      have hnc130 := NB213_247.out
                      obtain ⟨z131_0, z131_1, f131_0, f131_1⟩ := cells2 K4.out
                      obtain ⟨Ao133, co133, eo133⟩ := Kd.R_slice HO_248001.out
                      subst eo133
                      go_wp2_with (first | ((with_reducible refine gate_builtin (b := .append) (xs := #[.tmp 131, .tmp 133]) rfl ?_); at_builtin; refine Kd.S_append k47 (w0 := w) w.heap.size rfl (.tmp 131) (.tmp 133) 27 47 (.agg #[(.string ⟨#[]⟩), (.slice none 0 0)]) 40 rfl Tryz.underlying27 info47 rfl (by decide) (by omega) u227005 x5_ (⟨(rdOf ByteArray.empty y243 x8_5), x248001_7⟩ : S47) [.string (rdOf ByteArray.empty y243 x8_5), .slice Ao133 x248001_7.length co133] (fun k_ => some k_ ≠ (u227001 : Value).ownBlock ∧ some k_ ≠ (u227004 : Value).ownBlock ∧ k_ ≠ gb247) (fun k_ => some k_ = (.slice Ao133 x248001_7.length co133 : Value).ownBlock) rfl rfl ?aP (fun k_ hk_ => ((Kd.R_mono (ok' := fun k_ => ((fun k_ => some k_ ≠ (u227001 : Value).ownBlock ∧ some k_ ≠ (u227004 : Value).ownBlock ∧ k_ ≠ gb247)) k_ ∧ some k_ ≠ (u227005 : Value).ownBlock) (Kd.R_types (Kd.R_apart' (HO_248001.out) (Kd.S_typed O5.out) (by decide)) K4.out (by decide)) (fun k_ hk => ⟨⟨hk.1.1.1, ⟨hk.1.1.2, hk.2⟩⟩, hk.1.2⟩))).1 k_ hk_.symm) ?aF ?aO ?aB ?aS ?aL ?_; (case aP => exact k47_mkM _ _ _ (⟨(rdOf ByteArray.empty y243 x8_5), x248001_7⟩ : S47) (Kd.R_mono (Kd.R_tight rfl (Kd.R_mono (ok' := fun k_ => ((fun k_ => some k_ ≠ (u227001 : Value).ownBlock ∧ some k_ ≠ (u227004 : Value).ownBlock ∧ k_ ≠ gb247)) k_ ∧ some k_ ≠ (u227005 : Value).ownBlock) (Kd.R_types (Kd.R_apart' (HO_248001.out) (Kd.S_typed O5.out) (by decide)) K4.out (by decide)) (fun k_ hk => ⟨⟨hk.1.1.1, ⟨hk.1.1.2, hk.2⟩⟩, hk.1.2⟩))) (fun _ h_ => h_))); (case aB => exact (by repeat (first | (with_reducible first | exact HB.out | apply wA_ | apply wN_ | apply wD_ | refine wS_ ?_ GE212.out | refine wS_ ?_ GE213.out | refine wS_ ?_ GE226.out | refine wS_ ?_ GE247.out) | exact HB.out))); (case aF => exact (fun k_ hk => ⟨Kd.fresh' (Kd.R_lt (by (with_reducible repeat (first | apply rA_ | apply rN_ | apply rD_)); exact O1.out)) k_ hk, Kd.fresh' (Kd.R_lt (by (with_reducible repeat (first | apply rA_ | apply rN_ | apply rD_)); exact O4.out)) k_ hk, Kd.freshB (g := gb247) (o := .cells #[.string (rdOf ByteArray.empty y243 x8_5), .slice Ao133 x248001_7.length co133] 47 (0, 0)) (by (with_reducible repeat (first | refine bN_ ?_ _ | refine bD_ ?_ | refine bA_ ?_ _)); exact K4.out) k_ hk⟩)); (case aO => exact (by (with_reducible repeat (first | apply tA_ | apply tN_ | apply tD_)); exact Kd.S_mono O5.out (fun k_ hk => ⟨⟨hk.1, ⟨hk.2.1, hk.2.2.2⟩⟩, fun e_ => hk.2.2.1 e_⟩))); (case aS => exact (below_size (by repeat (first | (with_reducible first | exact HB.out | apply wA_ | apply wN_ | apply wD_ | refine wS_ ?_ GE212.out | refine wS_ ?_ GE213.out | refine wS_ ?_ GE226.out | refine wS_ ?_ GE247.out) | exact HB.out)))); (case aL => have := LMc124.out; omega); intro v257 w132 ho hb hg hat; rw [← Ny256.out] at ho; have n0_ := Aside0.mk (Kd.R_over' (by (with_reducible repeat (first | apply rA_ | apply rN_ | apply rD_)); exact O1.out) (Kd.S_typed (by (with_reducible repeat (first | apply tA_ | apply tN_ | apply tD_)); exact O5.out)) (by decide) hg); have n1_ := Aside0.mk (Kd.R_over' (by (with_reducible repeat (first | apply rA_ | apply rN_ | apply rD_)); exact O4.out) (Kd.S_typed (by (with_reducible repeat (first | apply tA_ | apply tN_ | apply tD_)); exact O5.out)) (by decide) hg); have n2_ := Aside0.mk (blk_grown (g := gb212) (o := .cells #[.int .i64 a0_0, .int .i64 a0_1, .int .i64 a0_2, .int .i64 a0_3, .slice A0_4 l0_4.length c0_4, .slice (some ad248) l0_5.length c0_5, .slice A0_6 l0_6.length c0_6, .int .i64 a0_7] 24 (0, 0)) (by (with_reducible repeat (first | refine bN_ ?_ _ | refine bD_ ?_ | refine bA_ ?_ _)); exact K1.out) hg (Kd.S_ne O5.out K1.out (by decide))); have n3_ := Aside0.mk (blk_grown (g := gb213) (o := .cells zT_ 29 (0, 0)) (by (with_reducible repeat (first | refine bN_ ?_ _ | refine bD_ ?_ | refine bA_ ?_ _)); exact K2.out) hg (Kd.S_ne O5.out K2.out (by decide))); have n4_ := Aside0.mk (blk_grown (g := gb226) (o := .cells #[.string t217, u227001, .string t221, .string t225, u227004, u227005, .slice none 0 0, .string (⟨#[]⟩ : ByteArray)] 29 (0, 0)) (by (with_reducible repeat (first | refine bN_ ?_ _ | refine bD_ ?_ | refine bA_ ?_ _)); exact K3.out) hg (Kd.S_ne O5.out K3.out (by decide))); have n5_ := Aside0.mk (blk_grown (g := gb247) (o := .cells #[.string (rdOf ByteArray.empty y243 x8_5), .slice Ao133 x248001_7.length co133] 47 (0, 0)) (by (with_reducible repeat (first | refine bN_ ?_ _ | refine bD_ ?_ | refine bA_ ?_ _)); exact K4.out) hg (Kd.S_away O5.out (fun _ hk => hk.2.2.2))); have n6_ := Aside0.mk (hb); have n7_ := Aside0.mk (ho); clear O1; clear O4; clear K1; clear K2; clear K3; clear K4; clear HB; clear O5; clear HO_248001; have O1 := n0_; have O4 := n1_; have K1 := n2_; have K2 := n3_; have K3 := n4_; have K4 := n5_; have HB := n6_; have HO258 := n7_; clear n0_ n1_ n2_ n3_ n4_ n5_ n6_ n7_; clear ho hb hg hat; obtain ⟨Ao134, co134, eo134⟩ := Kd.S_slice HO258.out; subst eo134; obtain ⟨z135_0, z135_1, z135_2, z135_3, z135_4, z135_5, z135_6, z135_7, f135_0, f135_1, f135_2, f135_3, f135_4, f135_5, f135_6, f135_7⟩ := cells8 K3.out))
                      go_roundg k7
                      case measure => have := HJ7.out; have := HJ36.out; have := HK3.out; have := HJ50.out; have := HK5.out; have := HJ90.out; have := HK7.out; omega
                      case rel => exact ⟨(wrap64 (x8_5 + 1)), (y256), (.slice Ao134 y256.length co134), (by first | rfl | (simp; done) | (simp [*]; done)), H', ⟨by have := HJ7.out; have := HJ36.out; have := HK3.out; have := HJ50.out; have := HK5.out; have := HJ90.out; have := HK7.out; omega⟩, ⟨by (with_reducible repeat (first | apply rA_ | apply rN_ | apply rD_)); exact Kd.R_mono (Kd.R_far (p := ⟨gb226, 5, none⟩) (Kd.R_types O1.out K3.out (by decide)) (fun _ hk => hk.2) (.slice Ao134 y256.length co134)) (fun _ hk => hk.1.1)⟩, ⟨by (with_reducible repeat (first | apply rA_ | apply rN_ | apply rD_)); exact Kd.R_mono (Kd.R_far (p := ⟨gb226, 5, none⟩) (Kd.R_types O4.out K3.out (by decide)) (fun _ hk => hk.2) (.slice Ao134 y256.length co134)) (fun _ hk => hk.1.1)⟩, ⟨by (with_reducible repeat (first | apply tA_ | apply tN_ | apply tD_)); exact Kd.S_mono (Kd.S_far (p := ⟨gb226, 5, none⟩) (Kd.S_types HO258.out K3.out (by decide)) (fun _ hk => hk.2) (.slice Ao134 y256.length co134)) (fun _ hk => ⟨hk.1.1, hk.1.2.1⟩)⟩, ⟨by (with_reducible repeat (first | refine bN_ ?_ _ | refine bD_ ?_ | refine bA_ ?_ _)); refine blk_far ?_ N13.out _; (with_reducible repeat (first | refine bN_ ?_ _ | refine bD_ ?_ | refine bA_ ?_ _)); exact K1.out⟩, ⟨by (with_reducible repeat (first | refine bN_ ?_ _ | refine bD_ ?_ | refine bA_ ?_ _)); refine blk_far ?_ N23.out _; (with_reducible repeat (first | refine bN_ ?_ _ | refine bD_ ?_ | refine bA_ ?_ _)); exact K2.out⟩, ⟨by (with_reducible repeat (first | refine bN_ ?_ _ | refine bD_ ?_ | refine bA_ ?_ _)); refine blk_put (cs := #[.string t217, u227001, .string t221, .string t225, u227004, u227005, .slice none 0 0, .string (⟨#[]⟩ : ByteArray)]) ?_ 5 _ rfl; (with_reducible repeat (first | refine bN_ ?_ _ | refine bD_ ?_ | refine bA_ ?_ _)); exact K3.out⟩, ⟨by repeat (first | (with_reducible first | exact HB.out | apply wA_ | apply wN_ | apply wD_ | refine wS_ ?_ GE212.out | refine wS_ ?_ GE213.out | refine wS_ ?_ GE226.out | refine wS_ ?_ GE247.out) | exact HB.out)⟩⟩
                     ·rw [if_neg c124] at H
                      exact absurd H (by simp)
                 ·rw [if_neg c102] at H
                  exact absurd H (by simp)
                ·rw [if_neg c101] at H
                 exact absurd H (by simp)
               ·rw [if_neg c100] at H
                exact absurd H (by simp)
              ·replace c99 := Bool.eq_false_iff.mpr c99
               subst c99
               have H1 : (mD.l4 kj90 0 a0_0 a0_1 a0_2 a0_3 l0_4 l0_5 l0_6 a0_7 t217 x1_ t221 t225 x4_ x5_ ([] : List ByteArray) (⟨#[]⟩ : ByteArray)) = some (r1, r2, r3, r4, r5, r6, r7, r8) := by rw [if_neg (show ¬ (false = true) by decide)] at H; exact H
               clear H
               have H := H1
               clear H1
               have H' := Aside0.mk H
               clear H
               go_wp2
               go_loopg [12] kj90 (fun kq v12 w' => ∃ (x12_7 : Int) (x227006_7 : List ByteArray) (u227006 : Value), v12 = .int .i64 x12_7 ∧ Aside0 (mD.l4 kq x12_7 a0_0 a0_1 a0_2 a0_3 l0_4 l0_5 l0_6 a0_7 t217 x1_ t221 t225 x4_ x5_ x227006_7 (⟨#[]⟩ : ByteArray) = some (r1, r2, r3, r4, r5, r6, r7, r8)) ∧ Aside0 (kq ≤ kj90) ∧ Aside0 (Kd.R Kd.string 9 w' w.heap.size (fun k_ => some k_ ≠ (u227004 : Value).ownBlock ∧ some k_ ≠ (u227006 : Value).ownBlock) u227001 x1_) ∧ Aside0 (Kd.R Kd.string 9 w' w.heap.size (fun k_ => some k_ ≠ (u227001 : Value).ownBlock ∧ some k_ ≠ (u227006 : Value).ownBlock) u227004 x4_) ∧ Aside0 (Kd.S k47 47 w' w.heap.size (fun k_ => some k_ ≠ (u227001 : Value).ownBlock ∧ some k_ ≠ (u227004 : Value).ownBlock ∧ some k_ ≠ (u227006 : Value).ownBlock) u227005 x5_) ∧ Aside0 (Kd.R Kd.string 9 w' w.heap.size (fun k_ => some k_ ≠ (u227001 : Value).ownBlock ∧ some k_ ≠ (u227004 : Value).ownBlock) u227006 x227006_7) ∧ Aside0 (w'.heap[gb212]? = some (.cells #[.int .i64 a0_0, .int .i64 a0_1, .int .i64 a0_2, .int .i64 a0_3, (.slice A0_4 l0_4.length c0_4), (.slice A0_5 l0_5.length c0_5), (.slice A0_6 l0_6.length c0_6), .int .i64 a0_7] 24 (0, 0))) ∧ Aside0 (w'.heap[gb213]? = some (.cells zT_ 29 (0, 0))) ∧ Aside0 (w'.heap[gb226]? = some (.cells #[.string t217, u227001, .string t221, .string t225, u227004, u227005, u227006, .string (⟨#[]⟩ : ByteArray)] 29 (0, 0))) ∧ Aside0 (Below w.heap.size w w'))
               case atStart => exact ⟨(0), (([] : List ByteArray)), (.slice none 0 0), (by first | rfl | (simp; done) | (simp [*]; done)), H', ⟨Nat.le_refl _⟩, ⟨by (with_reducible repeat (first | apply rA_ | apply rN_ | apply rD_)); exact Kd.R_mono O1.out (fun _ hk => ⟨hk, (by simp [Value.ownBlock])⟩)⟩, ⟨by (with_reducible repeat (first | apply rA_ | apply rN_ | apply rD_)); exact Kd.R_mono O4.out (fun _ hk => ⟨hk, (by simp [Value.ownBlock])⟩)⟩, ⟨by (with_reducible repeat (first | apply tA_ | apply tN_ | apply tD_)); exact Kd.S_mono O5.out (fun _ hk => ⟨hk.1, ⟨hk.2, (by simp [Value.ownBlock])⟩⟩)⟩, ⟨by first | exact Kd.R_nil _ _ _ _ _ | exact Kd.N_nil _ _ _ _ _ | exact Kd.V_nil _ _ _ _ _ | exact Kd.Q_nil _ _ _ _ _ | exact Kd.S_nil _ _ _ _ _⟩, ⟨by (with_reducible repeat (first | refine bN_ ?_ _ | refine bD_ ?_ | refine bA_ ?_ _)); exact K1.out⟩, ⟨by (with_reducible repeat (first | refine bN_ ?_ _ | refine bD_ ?_ | refine bA_ ?_ _)); exact K2.out⟩, ⟨by (with_reducible repeat (first | refine bN_ ?_ _ | refine bD_ ?_ | refine bA_ ?_ _)); exact K3.out⟩, ⟨by repeat (first | (with_reducible first | exact HB.out | apply wA_ | apply wN_ | apply wD_ | refine wS_ ?_ GE212.out | refine wS_ ?_ GE213.out | refine wS_ ?_ GE226.out) | exact HB.out)⟩⟩
               case round =>
                clear H'
                try clear c1; try clear p2; try clear q2; try clear hx2; try clear c3; try clear p6; try clear c9; try clear c10; try clear c11; try clear c12; try clear c13; try clear p21; try clear q21; try clear hx21; try clear p22; try clear q22; try clear hx22; try clear c32; try clear c37; try clear p64; try clear c99; try clear c100; try clear c101; try clear c102; try clear c114; try clear c114b0; try clear c117; try clear c124; try clear c125; try clear c126; try clear c127; try clear c129; try clear c130
                try clear z128_0 z128_1 z128_2 z128_3 z128_4 z128_5 z128_6 z128_7 f128_0 f128_1 f128_2 f128_3 f128_4 f128_5 f128_6 f128_7; try clear z131_0 z131_1 f131_0 f131_1; try clear z135_0 z135_1 z135_2 z135_3 z135_4 z135_5 z135_6 z135_7 f135_0 f135_1 f135_2 f135_3 f135_4 f135_5 f135_6 f135_7; try clear z33_6 z33_7 f33_0 f33_1 f33_2 f33_3 f33_4 f33_5 f33_6 f33_7; try clear z36_0 z36_1 z36_2 z36_3 z36_4 z36_5 z36_6 z36_7 f36_0 f36_1 f36_2 f36_3 f36_4 f36_5 f36_6 f36_7; try clear z44_0 z44_1 z44_2 z44_3 z44_4 z44_5 z44_6 z44_7 f44_0 f44_1 f44_2 f44_3 f44_4 f44_5 f44_6 f44_7; try clear z50_0 z50_1 z50_2 z50_3 z50_4 z50_5 z50_6 z50_7 f50_0 f50_1 f50_2 f50_3 f50_4 f50_5 f50_6 f50_7; try clear z55_0 z55_1 z55_2 z55_3 z55_4 z55_5 z55_6 z55_7 f55_0 f55_1 f55_2 f55_3 f55_4 f55_5 f55_6 f55_7; try clear z58_0 z58_1 z58_2 z58_3 z58_4 z58_5 z58_6 z58_7 f58_0 f58_1 f58_2 f58_3 f58_4 f58_5 f58_6 f58_7; try clear z71_0 z71_1 z71_2 z71_3 z71_4 z71_5 z71_6 z71_7 f71_0 f71_1 f71_2 f71_3 f71_4 f71_5 f71_6 f71_7; try clear z76_0 z76_1 z76_2 z76_3 z76_4 z76_5 z76_6 z76_7 f76_0 f76_1 f76_2 f76_3 f76_4 f76_5 f76_6 f76_7; try clear z81_0 z81_1 z81_2 z81_3 z81_4 z81_5 z81_6 z81_7 f81_0 f81_1 f81_2 f81_3 f81_4 f81_5 f81_6 f81_7; try clear z86_0 z86_1 z86_2 z86_3 z86_4 z86_5 z86_6 z86_7 f86_0 f86_1 f86_2 f86_3 f86_4 f86_5 f86_6 f86_7; try clear z90_0 z90_1 z90_2 z90_3 z90_4 z90_5 z90_6 z90_7 f90_0 f90_1 f90_2 f90_3 f90_4 f90_5 f90_6 f90_7; try clear z95_0 z95_1 z95_2 z95_3 z95_4 z95_5 z95_6 z95_7 f95_0 f95_1 f95_2 f95_3 f95_4 f95_5 f95_6 f95_7; try clear z98_0 z98_1 z98_2 z98_3 z98_4 z98_5 z98_6 z98_7 f98_0 f98_1 f98_2 f98_3 f98_4 f98_5 f98_6 f98_7; try clear f110_0 f110_1; try clear f113_0 f113_1 f113_2 f113_3 f113_4 f113_5 f113_6 f113_7; try clear f31_0 f31_1 f31_2 f31_3 f31_4 f31_5 f31_6 f31_7
                try clear hx237_0; try clear hx239_0; try clear hx246_0; try clear hx248_0; try clear p2; try clear p21; try clear p237; try clear p239; try clear p246; try clear p248; try clear p6; try clear p64; try clear q2; try clear q21; try clear q237; try clear q239; try clear q246; try clear q248
                obtain ⟨x12_7, x227006_7, u227006, rfl, HA, HK7, O1, O4, O5, O6, K1, K2, K3, HB⟩ := hrel
                cases gk with
                | zero => exact absurd HA.out (by simp [mD.l4])
                | succ k7 =>
                 have H := HA.out
                 clear HA
                 simp only [mD.l4] at H
                 by_cases c136 : x12_7 < (l0_6.length : Int)
                 ·rw [if_pos c136] at H
                  have c136b0 : decide (x12_7 < (l0_6.length : Int)) = true := decide_eq_true c136
                  clear c136
                  by_cases c137 : x12_7 < 3
                  ·rw [if_pos c137] at H
                   have c137b0 : decide (x12_7 < 3) = true := decide_eq_true c137
                   clear c137
                   obtain ⟨y259, hy259⟩ : ∃ y_ : List ByteArray, y_ = (([(⟨#[97]⟩ : ByteArray), (⟨#[117, 115]⟩ : ByteArray), (⟨#[112, 114, 105, 118, 97, 116, 101, 49]⟩ : ByteArray), (⟨#[120]⟩ : ByteArray)] : List ByteArray)) := ⟨_, rfl⟩
                   replace H : (if 0 ≤ x12_7 then ((isoglossref06_Pick.f y259 (rd l0_6 x12_7)).bind fun t263 => (if x227006_7.length < 8796093022208 then (mD.l4 k7 (wrap64 (x12_7 + 1)) a0_0 a0_1 a0_2 a0_3 l0_4 l0_5 l0_6 a0_7 t217 x1_ t221 t225 x4_ x5_ (x227006_7 ++ [t263]) (⟨#[]⟩ : ByteArray)) else (none))) else (none)) = some (r1, r2, r3, r4, r5, r6, r7, r8) := by first | (rw [hy259]; with_reducible exact H) | (have H2_ := (Option.bind_some _ _).symm.trans H; rw [hy259]; with_reducible exact H2_) | (have H2_ := (Option.bind_some _ _).symm.trans H; with_reducible exact H2_) | with_reducible exact H | (rw [hy259]; exact H) | exact H
                   have Ny259 := Aside0.mk hy259
                   clear hy259
                   by_cases c138 : 0 ≤ x12_7
                   ·rw [if_pos c138] at H
                    have c138b0 : decide (0 ≤ x12_7) = true := decide_eq_true c138
                    clear c138
                    replace H := Option.bind_eq_some_iff.mp H
                    obtain ⟨t263, A1412, H⟩ := H
                    replace H : (if x227006_7.length < 8796093022208 then (mD.l4 k7 (wrap64 (x12_7 + 1)) a0_0 a0_1 a0_2 a0_3 l0_4 l0_5 l0_6 a0_7 t217 x1_ t221 t225 x4_ x5_ (x227006_7 ++ [t263]) (⟨#[]⟩ : ByteArray)) else (none)) = some (r1, r2, r3, r4, r5, r6, r7, r8) := H
                    have A139 := Aside0.mk A1412
                    clear A1412
                    by_cases c140 : x227006_7.length < 8796093022208
                    ·rw [if_pos c140] at H
                     have LMc140 := Aside0.mk c140
                     clear c140
                     obtain ⟨y264, hy264⟩ : ∃ y_ : List ByteArray, y_ = (x227006_7 ++ [t263]) := ⟨_, rfl⟩
                     replace H : (mD.l4 k7 (wrap64 (x12_7 + 1)) a0_0 a0_1 a0_2 a0_3 l0_4 l0_5 l0_6 a0_7 t217 x1_ t221 t225 x4_ x5_ y264 (⟨#[]⟩ : ByteArray)) = some (r1, r2, r3, r4, r5, r6, r7, r8) := by first | (rw [hy264]; with_reducible exact H) | (have H2_ := (Option.bind_some _ _).symm.trans H; rw [hy264]; with_reducible exact H2_) | (have H2_ := (Option.bind_some _ _).symm.trans H; with_reducible exact H2_) | with_reducible exact H | (rw [hy264]; exact H) | exact H
                     have Ny264 := Aside0.mk hy264
                     clear hy264
                     have H' := Aside0.mk H
                     clear H
                     have hnb141 := N12.out
                     have hnc141 := N21.out
                     have hnb142 := N13.out
                     have hnc142 := N31.out
                     obtain ⟨z143_0, z143_1, z143_2, z143_3, z143_4, z143_5, z143_6, z143_7, f143_0, f143_1, f143_2, f143_3, f143_4, f143_5, f143_6, f143_7⟩ := cells8 K1.out
                     try go_wp2
                     have n0_ := Aside0.mk (rD_ O1.out)
                     have n1_ := Aside0.mk (rD_ O4.out)
                     have n2_ := Aside0.mk (tD_ O5.out)
                     have n3_ := Aside0.mk (rD_ O6.out)
                     have n4_ := Aside0.mk (bD_ K1.out)
                     have n5_ := Aside0.mk (bD_ K2.out)
                     have n6_ := Aside0.mk (bD_ K3.out)
                     have n7_ := Aside0.mk (wD_ HB.out)
                     clear O1 O4 O5 O6 K1 K2 K3 HB
                     have O1 := n0_; have O4 := n1_; have O5 := n2_; have O6 := n3_; have K1 := n4_; have K2 := n5_; have K3 := n6_; have HB := n7_
                     clear n0_ n1_ n2_ n3_ n4_ n5_ n6_ n7_
                     have p262 : 0 ≤ (x12_7 : Int) := of_decide_eq_true (by first | (with_reducible assumption) | assumption)
                     have q262 : x12_7 < (l0_6.length : Int) := of_decide_eq_true (by first | (with_reducible assumption) | assumption)
                     obtain ⟨ad262, e262, hx262_0⟩ := Kd.at_int HR0_6.out x12_7 p262 q262
                     have hw262_0 := hx262_0
                     cases e262
                     replace hx262_0 := (HB.out.cell (World.block_lt_of_cell? w _ hx262_0)).trans hx262_0
                     replace p262 := eq_true p262
                     replace q262 := eq_true q262
                     refine start_ (n := 13) (S := fun w' => w'.cell? ⟨gb226, 0, none⟩ = some (.string t217) ∧ w'.cell? ⟨gb226, 1, none⟩ = some (u227001) ∧ w'.cell? ⟨gb226, 2, none⟩ = some (.string t221) ∧ w'.cell? ⟨gb226, 3, none⟩ = some (.string t225) ∧ w'.cell? ⟨gb226, 4, none⟩ = some (u227004) ∧ w'.cell? ⟨gb226, 5, none⟩ = some (u227005) ∧ w'.cell? ⟨gb226, 6, none⟩ = some (u227006) ∧ w'.cell? ⟨gb226, 7, none⟩ = some (.string (⟨#[]⟩ : ByteArray)) ∧ w'.cell? ⟨gb212, 0, none⟩ = some (.int .i64 a0_0) ∧ w'.cell? ⟨gb212, 1, none⟩ = some (.int .i64 a0_1) ∧ w'.cell? ⟨gb212, 2, none⟩ = some (.int .i64 a0_2) ∧ w'.cell? ⟨gb212, 3, none⟩ = some (.int .i64 a0_3) ∧ w'.cell? ⟨gb212, 4, none⟩ = some (.slice A0_4 l0_4.length c0_4) ∧ w'.cell? ⟨gb212, 5, none⟩ = some (.slice A0_5 l0_5.length c0_5) ∧ w'.cell? ⟨gb212, 6, none⟩ = some (.slice (some ad262) l0_6.length c0_6) ∧ w'.cell? ⟨gb212, 7, none⟩ = some (.int .i64 a0_7) ∧ w'.cell? (ad262.add (x12_7).toNat) = some (.int .i64 (rd l0_6 x12_7))) (ds := [12]) #[false, false, false, false, false, false, false, false, false, false, false, false, false] (by kernel_rfl) rfl rfl ⟨(bC_ K3.out 0).trans rfl, (bC_ K3.out 1).trans rfl, (bC_ K3.out 2).trans rfl, (bC_ K3.out 3).trans rfl, (bC_ K3.out 4).trans rfl, (bC_ K3.out 5).trans rfl, (bC_ K3.out 6).trans rfl, (bC_ K3.out 7).trans rfl, (bC_ K1.out 0).trans rfl, (bC_ K1.out 1).trans rfl, (bC_ K1.out 2).trans rfl, (bC_ K1.out 3).trans rfl, (bC_ K1.out 4).trans rfl, (bC_ K1.out 5).trans rfl, (bC_ K1.out 6).trans rfl, (bC_ K1.out 7).trans rfl, ((HB.out.cell (World.block_lt_of_cell? w _ hw262_0)).trans hw262_0)⟩ (fun hHeld => ?_); refine with_tabW mD.tab28 mD.bits28 (fun HT_ HW_ => ?_)
                     generalize wr.drew = w144 at O1 O4 O5 O6 K1 K2 K3 HB hx262_0 hHeld ⊢
                     refine pure_ (i := 0) (N := some 147) (v := ?_) (a' := ?_) #[true, false, false, false, false, false, false, false, false, false, false, false, false] rfl rfl (any_of HT_.out (by kernel_rfl)) (fun _ _ _ h => h) (Or.inl ⟨by rfl, ?_⟩) ?_ ?_
                     rotate_left
                     ·intro w'
                      go_simp
                      with_reducible rfl
                     rotate_left
                     ·simp only [Act.put, sA_, sB_, sC_, i64_w, i32_w]
                      rfl
                     refine pure_ (i := 3) (N := some 150) (v := ?_) (a' := ?_) #[true, false, false, true, false, false, false, false, false, false, false, false, false] rfl rfl (any_of HT_.out (by kernel_rfl)) (fun _ _ _ h => h) (Or.inl ⟨by rfl, ?_⟩) ?_ ?_
                     rotate_left
                     ·intro w'
                      go_simp
                      with_reducible rfl
                     rotate_left
                     ·simp only [Act.put, sA_, sB_, sC_, i64_w, i32_w]
                      rfl
                     refine pure_ (i := 5) (N := some 152) (v := ?_) (a' := ?_) #[true, false, false, true, false, true, false, false, false, false, false, false, false] rfl rfl (any_of HT_.out (by kernel_rfl)) (fun _ _ _ h => h) (Or.inl ⟨by rfl, ?_⟩) ?_ ?_
                     rotate_left
                     ·intro w'
                      go_simp
                      with_reducible rfl
                     rotate_left
                     ·simp only [Act.put, sA_, sB_, sC_, i64_w, i32_w]
                      rfl
                     refine take_ (i := 1) (N := some 148) (v := ?_) (a' := ?_) #[true, true, false, true, false, true, false, false, false, false, false, false, false] rfl rfl (take_ofW HT_.out HW_.out (by kernel_rfl)) (fun _ _ _ h => h) (Or.inl ⟨by rfl, ?_⟩) hHeld ?_ ?_
                     rotate_left
                     ·rintro w' ⟨s0, s1, s2, s3, s4, s5, s6, s7, s8, s9, s10, s11, s12, s13, s14, s15, s16⟩
                      go_simp
                      with_reducible rfl
                     rotate_left
                     ·simp only [Act.put, sA_, sB_, sC_, i64_w, i32_w]
                      rfl
                     refine take_ (i := 4) (N := some 151) (v := ?_) (a' := ?_) #[true, true, false, true, true, true, false, false, false, false, false, false, false] rfl rfl (take_ofW HT_.out HW_.out (by kernel_rfl)) (fun _ _ _ h => h) (Or.inl ⟨by rfl, ?_⟩) hHeld ?_ ?_
                     rotate_left
                     ·rintro w' ⟨s0, s1, s2, s3, s4, s5, s6, s7, s8, s9, s10, s11, s12, s13, s14, s15, s16⟩
                      go_simp
                      with_reducible rfl
                     rotate_left
                     ·simp only [Act.put, sA_, sB_, sC_, i64_w, i32_w]
                      rfl
                     refine pure_ (i := 6) (N := some 153) (v := ?_) (a' := ?_) #[true, true, false, true, true, true, true, false, false, false, false, false, false] rfl rfl (any_of HT_.out (by kernel_rfl)) (fun _ _ _ h => h) (Or.inl ⟨by rfl, ?_⟩) ?_ ?_
                     rotate_left
                     ·intro w'
                      go_simp
                      with_reducible rfl
                     rotate_left
                     ·simp only [Act.put, sA_, sB_, sC_, i64_w, i32_w]
                      rfl
                     refine take_ (i := 7) (N := some 154) (v := ?_) (a' := ?_) #[true, true, false, true, true, true, true, true, false, false, false, false, false] rfl rfl (take_ofW HT_.out HW_.out (by kernel_rfl)) (fun _ _ _ h => h) (Or.inl ⟨by rfl, ?_⟩) hHeld ?_ ?_
                     rotate_left
                     ·rintro w' ⟨s0, s1, s2, s3, s4, s5, s6, s7, s8, s9, s10, s11, s12, s13, s14, s15, s16⟩
                      go_simp
                      with_reducible rfl
                     rotate_left
                     ·simp only [Act.put, sA_, sB_, sC_, i64_w, i32_w]
                      rfl
                     refine one_ (i := 2) (N := some 149) #[true, true, true, true, true, true, true, true, false, false, false, false, false] rfl rfl (one_of HT_.out (by kernel_rfl)) (by decide) (fun K hK => ?_)
                     refine Kd.R_lit_step Kd.string _ 9 ?hg (N := 149) ?hd (xs := ([(⟨#[97]⟩ : ByteArray), (⟨#[117, 115]⟩ : ByteArray), (⟨#[112, 114, 105, 118, 97, 116, 101, 49]⟩ : ByteArray), (⟨#[120]⟩ : ByteArray)] : List ByteArray)) (inner := [.string (⟨#[97]⟩ : ByteArray), .string (⟨#[117, 115]⟩ : ByteArray), .string (⟨#[112, 114, 105, 118, 97, 116, 101, 49]⟩ : ByteArray), .string (⟨#[120]⟩ : ByteArray)]) (ok := fun _ => True) (okp := fun _ => True) ?hr ?hp (fun _ hk => hk) trivial (Below.refl _ _) (Nat.le_refl _) (by simp) ?_; (case hd => rfl); (case hg => rfl); (case hr => first | (go_simp; done) | (go_simp; rfl)); (case hp => exact (Reps.one (show Kd.M Kd.string _ _ _ (⟨#[97]⟩ : ByteArray) [.string (⟨#[97]⟩ : ByteArray)] from rfl) (Reps.one (show Kd.M Kd.string _ _ _ (⟨#[117, 115]⟩ : ByteArray) [.string (⟨#[117, 115]⟩ : ByteArray)] from rfl) (Reps.one (show Kd.M Kd.string _ _ _ (⟨#[112, 114, 105, 118, 97, 116, 101, 49]⟩ : ByteArray) [.string (⟨#[112, 114, 105, 118, 97, 116, 101, 49]⟩ : ByteArray)] from rfl) (Reps.one (show Kd.M Kd.string _ _ _ (⟨#[120]⟩ : ByteArray) [.string (⟨#[120]⟩ : ByteArray)] from rfl) (Reps.none _ _))))))
                     intro v260 w145 ho146 hb hg_ hnew_
                     clear hg_ hnew_
                     (first | rw [← Ny259.out] at ho146 | (simp only [Int.reduceToNat] at ho146; rw [← Ny259.out] at ho146))
                     have n0_ := Aside0.mk (Kd.R_elder' (by (with_reducible repeat (first | apply rA_ | apply rN_ | apply rD_)); exact O1.out) (Kd.R_base ho146) hb)
                     have n1_ := Aside0.mk (Kd.R_elder' (by (with_reducible repeat (first | apply rA_ | apply rN_ | apply rD_)); exact O4.out) (Kd.R_base ho146) hb)
                     have n2_ := Aside0.mk (Kd.S_elder' (by (with_reducible repeat (first | apply tA_ | apply tN_ | apply tD_)); exact O5.out) (Kd.R_base ho146) hb)
                     have n3_ := Aside0.mk (Kd.R_elder' (by (with_reducible repeat (first | apply rA_ | apply rN_ | apply rD_)); exact O6.out) (Kd.R_base ho146) hb)
                     have n4_ := Aside0.mk (Kd.R_lower (Kd.R_new' (Kd.R_new' (Kd.R_new' ho146 (Kd.R_lt (by (with_reducible repeat (first | apply rA_ | apply rN_ | apply rD_)); exact O1.out))) (Kd.R_lt (by (with_reducible repeat (first | apply rA_ | apply rN_ | apply rD_)); exact O4.out))) (Kd.R_lt (by (with_reducible repeat (first | apply rA_ | apply rN_ | apply rD_)); exact O6.out))) (below_size (by repeat (first | (with_reducible first | exact HB.out | apply wA_ | apply wN_ | apply wD_ | refine wS_ ?_ GE212.out | refine wS_ ?_ GE213.out | refine wS_ ?_ GE226.out) | exact HB.out))))
                     have n5_ := Aside0.mk (blk_below (g := gb212) (o := .cells #[.int .i64 a0_0, .int .i64 a0_1, .int .i64 a0_2, .int .i64 a0_3, .slice A0_4 l0_4.length c0_4, .slice A0_5 l0_5.length c0_5, .slice (some ad262) l0_6.length c0_6, .int .i64 a0_7] 24 (0, 0)) (by (with_reducible repeat (first | refine bN_ ?_ _ | refine bD_ ?_ | refine bA_ ?_ _)); exact K1.out) hb)
                     have n6_ := Aside0.mk (blk_below (g := gb213) (o := .cells zT_ 29 (0, 0)) (by (with_reducible repeat (first | refine bN_ ?_ _ | refine bD_ ?_ | refine bA_ ?_ _)); exact K2.out) hb)
                     have n7_ := Aside0.mk (blk_below (g := gb226) (o := .cells #[.string t217, u227001, .string t221, .string t225, u227004, u227005, u227006, .string (⟨#[]⟩ : ByteArray)] 29 (0, 0)) (by (with_reducible repeat (first | refine bN_ ?_ _ | refine bD_ ?_ | refine bA_ ?_ _)); exact K3.out) hb)
                     have n8_ := Aside0.mk (below_step (by repeat (first | (with_reducible first | exact HB.out | apply wA_ | apply wN_ | apply wD_ | refine wS_ ?_ GE212.out | refine wS_ ?_ GE213.out | refine wS_ ?_ GE226.out) | exact HB.out)) hb)
                     clear O1 O4 O5 O6 K1 K2 K3 HB
                     have O1 := n0_; have O4 := n1_; have O5 := n2_; have O6 := n3_; have HO261 := n4_; have K1 := n5_; have K2 := n6_; have K3 := n7_; have HB := n8_
                     clear n0_ n1_ n2_ n3_ n4_ n5_ n6_ n7_ n8_ hb ho146
                     obtain ⟨Ao147, co147, eo147⟩ := Kd.R_slice HO261.out
                     (first | subst eo147 | (injection eo147 with f1_ f2_ f3_; have f4_ := f1_.symm; have f5_ := f3_.symm; clear f1_ f2_ f3_; subst f4_; subst f5_))
                     refine hK.out _ _ ⟨(bC_ K3.out 0).trans rfl, (bC_ K3.out 1).trans rfl, (bC_ K3.out 2).trans rfl, (bC_ K3.out 3).trans rfl, (bC_ K3.out 4).trans rfl, (bC_ K3.out 5).trans rfl, (bC_ K3.out 6).trans rfl, (bC_ K3.out 7).trans rfl, (bC_ K1.out 0).trans rfl, (bC_ K1.out 1).trans rfl, (bC_ K1.out 2).trans rfl, (bC_ K1.out 3).trans rfl, (bC_ K1.out 4).trans rfl, (bC_ K1.out 5).trans rfl, (bC_ K1.out 6).trans rfl, (bC_ K1.out 7).trans rfl, ((HB.out.cell (World.block_lt_of_cell? w _ hw262_0)).trans hw262_0)⟩ (fun hHeld => ?_)
                     clear hK K
                     refine norm_ (a' := ?_) ?_ ?_
                     rotate_left
                     ·show Act.put _ (some 149) _ = _
                      simp only [Act.put, sA_, sB_, sC_, i64_w, i32_w]
                      rfl
                     refine one_ (i := 8) (N := some 155) #[true, true, true, true, true, true, true, true, true, false, false, false, false] rfl rfl (one_of HT_.out (by kernel_rfl)) (by decide) (fun K hK => ?_)
                     refine goes_ Tryz.func32 (by kernel_rfl) rfl #[.slice Ao147 y259.length co147, .int .i64 (rd l0_6 x12_7)] (by rfl) rfl rfl (by (try simp only [List.map_toArray, List.map_cons, List.map_nil]); first | done | rfl | (simp only [List.length_drop, List.length_take]; rfl)) ?_
                     with_reducible refine (isoglossref06_Pick.calls _ _ y259 (rd l0_6 x12_7) t263 _ ?side1 ?side2 A139.out).mono ?_
                     (case side1 => repeat (first | exact (Kd.R_reads' HO261.out).2.2 | (with_reducible refine Kd.C_alloc ?_ _) | (with_reducible refine Kd.C_drewN ?_ _) | (with_reducible refine Kd.C_drew ?_)))
                     (case side2 => exact (Kd.R_reads' HO261.out).2.1)
                     rintro e w' ⟨rfl, ⟨nd, rfl⟩⟩
                     refine ⟨_, rfl, ?_⟩
                     refine hK.out _ _ ⟨(bC_ K3.out 0).trans rfl, (bC_ K3.out 1).trans rfl, (bC_ K3.out 2).trans rfl, (bC_ K3.out 3).trans rfl, (bC_ K3.out 4).trans rfl, (bC_ K3.out 5).trans rfl, (bC_ K3.out 6).trans rfl, (bC_ K3.out 7).trans rfl, (bC_ K1.out 0).trans rfl, (bC_ K1.out 1).trans rfl, (bC_ K1.out 2).trans rfl, (bC_ K1.out 3).trans rfl, (bC_ K1.out 4).trans rfl, (bC_ K1.out 5).trans rfl, (bC_ K1.out 6).trans rfl, (bC_ K1.out 7).trans rfl, ((HB.out.cell (World.block_lt_of_cell? w _ hw262_0)).trans hw262_0)⟩ (fun hHeld => ?_)
                     clear hK K
                     refine norm_ (a' := ?_) ?_ ?_
                     rotate_left
                     ·show Act.put _ (some 155) _ = _
                      simp only [Act.put, sA_, sB_, sC_, i64_w, i32_w]
                      rfl
                     refine one_ (i := 9) (N := some 156) #[true, true, true, true, true, true, true, true, true, true, false, false, false] rfl rfl (one_of HT_.out (by kernel_rfl)) (by decide) (fun K hK => ?_)
                     refine value_ (w1 := ?_) (v := ?_) (by rfl) rfl ?_ ?_
                     rotate_left 2
                     ·go_simp
                      constructor
                      ·rfl
                      ·rfl
                     refine hK.out _ _ ⟨(bC_ (bA_ K3.out _) 0).trans rfl, (bC_ (bA_ K3.out _) 1).trans rfl, (bC_ (bA_ K3.out _) 2).trans rfl, (bC_ (bA_ K3.out _) 3).trans rfl, (bC_ (bA_ K3.out _) 4).trans rfl, (bC_ (bA_ K3.out _) 5).trans rfl, (bC_ (bA_ K3.out _) 6).trans rfl, (bC_ (bA_ K3.out _) 7).trans rfl, (bC_ (bA_ K1.out _) 0).trans rfl, (bC_ (bA_ K1.out _) 1).trans rfl, (bC_ (bA_ K1.out _) 2).trans rfl, (bC_ (bA_ K1.out _) 3).trans rfl, (bC_ (bA_ K1.out _) 4).trans rfl, (bC_ (bA_ K1.out _) 5).trans rfl, (bC_ (bA_ K1.out _) 6).trans rfl, (bC_ (bA_ K1.out _) 7).trans rfl, (World.cell?_alloc_lt _ _ _ (World.block_lt_of_cell? _ _ (((HB.out.cell (World.block_lt_of_cell? w _ hw262_0)).trans hw262_0)))).trans (((HB.out.cell (World.block_lt_of_cell? w _ hw262_0)).trans hw262_0))⟩ (fun hHeld => ?_)
                     clear hK K
                     refine norm_ (a' := ?_) ?_ ?_
                     rotate_left
                     ·show Act.put _ (some 156) _ = _
                      simp only [Act.put, sA_, sB_, sC_, i64_w, i32_w]
                      rfl
                     refine one_ (i := 10) (N := some 157) #[true, true, true, true, true, true, true, true, true, true, true, false, false] rfl rfl (one_of HT_.out (by kernel_rfl)) (by decide) (fun K hK => ?_)
                     refine Kd.R_append_step Kd.string (w0 := w) w.heap.size (by rfl) (.tmp 148) (.tmp 156) 26 9 (.string ⟨#[]⟩) 16 rfl Tryz.underlying26 info9 rfl (by decide) (by omega) u227006 x227006_7 t263 [.string t263] (fun k_ => some k_ ≠ (u227001 : Value).ownBlock ∧ some k_ ≠ (u227004 : Value).ownBlock ∧ some k_ ≠ (.slice Ao147 y259.length co147 : Value).ownBlock) (fun _ => False) rfl rfl ?aP (fun _ hk => hk.elim) ?aF ?aO ?aB ?aS ?aL ?_
                     (case aP => exact rfl)
                     (case aB => exact (by repeat (first | (with_reducible first | exact HB.out | apply wA_ | apply wN_ | apply wD_ | refine wS_ ?_ GE212.out | refine wS_ ?_ GE213.out | refine wS_ ?_ GE226.out) | exact HB.out)))
                     (case aF => exact (fun k_ hk => ⟨Kd.fresh' (Kd.R_lt (by (with_reducible repeat (first | apply rA_ | apply rN_ | apply rD_)); exact O1.out)) k_ hk, Kd.fresh' (Kd.R_lt (by (with_reducible repeat (first | apply rA_ | apply rN_ | apply rD_)); exact O4.out)) k_ hk, Kd.fresh' (Kd.R_lt (by (with_reducible repeat (first | apply rA_ | apply rN_ | apply rD_)); exact HO261.out)) k_ hk⟩))
                     (case aO => exact (by (with_reducible repeat (first | apply rA_ | apply rN_ | apply rD_)); exact Kd.R_mono O6.out (fun _ hk => ⟨hk.1.1, ⟨hk.1.2, hk.2⟩⟩)))
                     (case aS => exact (below_size (by repeat (first | (with_reducible first | exact HB.out | apply wA_ | apply wN_ | apply wD_ | refine wS_ ?_ GE212.out | refine wS_ ?_ GE213.out | refine wS_ ?_ GE226.out) | exact HB.out))))
                     (case aL => have := LMc140.out; omega)
                     intro v265 w170 ho hb hg hat
                     rw [← Ny264.out] at ho
                     have n0_ := Aside0.mk (Kd.R_after (ok := (fun k_ => some k_ ≠ (u227004 : Value).ownBlock ∧ some k_ ≠ (.slice Ao147 y259.length co147 : Value).ownBlock)) (by (with_reducible repeat (first | apply rA_ | apply rN_ | apply rD_)); exact Kd.R_mono O1.out (fun _ hk => ⟨⟨hk.1.1, hk.2⟩, hk.1.2⟩)) hg hat)
                     have n1_ := Aside0.mk (Kd.R_after (ok := (fun k_ => some k_ ≠ (u227001 : Value).ownBlock ∧ some k_ ≠ (.slice Ao147 y259.length co147 : Value).ownBlock)) (by (with_reducible repeat (first | apply rA_ | apply rN_ | apply rD_)); exact Kd.R_mono O4.out (fun _ hk => ⟨⟨hk.1.1, hk.2⟩, hk.1.2⟩)) hg hat)
                     have n2_ := Aside0.mk (Kd.S_after (ok := (fun k_ => some k_ ≠ (u227001 : Value).ownBlock ∧ some k_ ≠ (u227004 : Value).ownBlock ∧ some k_ ≠ (.slice Ao147 y259.length co147 : Value).ownBlock)) (by (with_reducible repeat (first | apply tA_ | apply tN_ | apply tD_)); exact Kd.S_mono O5.out (fun _ hk => ⟨⟨hk.1.1, ⟨hk.1.2.1, hk.2⟩⟩, hk.1.2.2⟩)) hg hat)
                     have n3_ := Aside0.mk (blk_grown (g := gb212) (o := .cells #[.int .i64 a0_0, .int .i64 a0_1, .int .i64 a0_2, .int .i64 a0_3, .slice A0_4 l0_4.length c0_4, .slice A0_5 l0_5.length c0_5, .slice (some ad262) l0_6.length c0_6, .int .i64 a0_7] 24 (0, 0)) (by (with_reducible repeat (first | refine bN_ ?_ _ | refine bD_ ?_ | refine bA_ ?_ _)); exact K1.out) hg (Kd.R_ne O6.out K1.out (by decide)))
                     have n4_ := Aside0.mk (blk_grown (g := gb213) (o := .cells zT_ 29 (0, 0)) (by (with_reducible repeat (first | refine bN_ ?_ _ | refine bD_ ?_ | refine bA_ ?_ _)); exact K2.out) hg (Kd.R_ne O6.out K2.out (by decide)))
                     have n5_ := Aside0.mk (blk_grown (g := gb226) (o := .cells #[.string t217, u227001, .string t221, .string t225, u227004, u227005, u227006, .string (⟨#[]⟩ : ByteArray)] 29 (0, 0)) (by (with_reducible repeat (first | refine bN_ ?_ _ | refine bD_ ?_ | refine bA_ ?_ _)); exact K3.out) hg (Kd.R_ne O6.out K3.out (by decide)))
                     have n6_ := Aside0.mk (Kd.R_after (ok := (fun k_ => some k_ ≠ (u227001 : Value).ownBlock ∧ some k_ ≠ (u227004 : Value).ownBlock)) (by (with_reducible repeat (first | apply rA_ | apply rN_ | apply rD_)); exact Kd.R_mono HO261.out (fun _ hk => ⟨⟨hk.1.1.2, hk.1.2⟩, hk.2⟩)) hg hat)
                     have n7_ := Aside0.mk (hb)
                     have n8_ := Aside0.mk (ho)
                     clear O1 O4 O5 K1 K2 K3 HO261 HB O6
                     have O1 := n0_; have O4 := n1_; have O5 := n2_; have K1 := n3_; have K2 := n4_; have K3 := n5_; have HO261 := n6_; have HB := n7_; have HO266 := n8_
                     clear n0_ n1_ n2_ n3_ n4_ n5_ n6_ n7_ n8_ ho hb hg hat
                     obtain ⟨Ao171, co171, eo171⟩ := Kd.R_slice HO266.out
                     (first | subst eo171 | (injection eo171 with f1_ f2_ f3_; have f4_ := f1_.symm; have f5_ := f3_.symm; clear f1_ f2_ f3_; subst f4_; subst f5_))
                     refine hK.out _ _ ⟨(bC_ K3.out 0).trans rfl, (bC_ K3.out 1).trans rfl, (bC_ K3.out 2).trans rfl, (bC_ K3.out 3).trans rfl, (bC_ K3.out 4).trans rfl, (bC_ K3.out 5).trans rfl, (bC_ K3.out 6).trans rfl, (bC_ K3.out 7).trans rfl, (bC_ K1.out 0).trans rfl, (bC_ K1.out 1).trans rfl, (bC_ K1.out 2).trans rfl, (bC_ K1.out 3).trans rfl, (bC_ K1.out 4).trans rfl, (bC_ K1.out 5).trans rfl, (bC_ K1.out 6).trans rfl, (bC_ K1.out 7).trans rfl, ((HB.out.cell (World.block_lt_of_cell? w _ hw262_0)).trans hw262_0)⟩ (fun hHeld => ?_)
                     clear hK K
                     refine norm_ (a' := ?_) ?_ ?_
                     rotate_left
                     ·show Act.put _ (some 157) _ = _
                      simp only [Act.put, sA_, sB_, sC_, i64_w, i32_w]
                      rfl
                     refine pure_ (i := 11) (N := some 158) (v := ?_) (a' := ?_) #[true, true, true, true, true, true, true, true, true, true, true, true, false] rfl rfl (any_of HT_.out (by kernel_rfl)) (fun _ _ _ h => h) (Or.inl ⟨by rfl, ?_⟩) ?_ ?_
                     rotate_left
                     ·intro w'
                      go_simp
                      with_reducible rfl
                     rotate_left
                     ·simp only [Act.put, sA_, sB_, sC_, i64_w, i32_w]
                      rfl
                     refine last_ (i := 12) (N := none) #[true, true, true, true, true, true, true, true, true, true, true, true, true] rfl rfl (one_of HT_.out (by kernel_rfl)) (by decide) (fun K hK => ?_)
                     have hs172 : w170.cell? ⟨gb226, 6, none⟩ = some (u227006) := (bC_ K3.out 6).trans rfl
                     have hfs172 := bF_ K3.out 6
                     have hns172_0 := N13.out
                     have hns172_1 := N23.out
                     have hms172_0 := N31.out
                     have hms172_1 := N32.out
                     refine skip_ (w1 := ?_) (by rfl) rfl ?_ ?_
                     rotate_left
                     ·go_simp
                      rfl
                     refine hK.out _ _ ?_
                     clear hK K
                     refine done_ (done_of HT_.out (by kernel_rfl)) ?_
                     try go_wp2
                     go_roundg k7
                     case measure => have := HJ7.out; have := HJ36.out; have := HK3.out; have := HJ50.out; have := HK5.out; have := HJ90.out; have := HK7.out; omega
                     case rel => exact ⟨(wrap64 (x12_7 + 1)), (y264), (.slice Ao171 y264.length co171), (by first | rfl | (simp; done) | (simp [*]; done)), H', ⟨by have := HJ7.out; have := HJ36.out; have := HK3.out; have := HJ50.out; have := HK5.out; have := HJ90.out; have := HK7.out; omega⟩, ⟨by (with_reducible repeat (first | apply rA_ | apply rN_ | apply rD_)); exact Kd.R_mono (Kd.R_far (p := ⟨gb226, 6, none⟩) (Kd.R_types O1.out K3.out (by decide)) (fun _ hk => hk.2) (.slice Ao171 y264.length co171)) (fun _ hk => ⟨hk.1.1.1, hk.1.2⟩)⟩, ⟨by (with_reducible repeat (first | apply rA_ | apply rN_ | apply rD_)); exact Kd.R_mono (Kd.R_far (p := ⟨gb226, 6, none⟩) (Kd.R_types O4.out K3.out (by decide)) (fun _ hk => hk.2) (.slice Ao171 y264.length co171)) (fun _ hk => ⟨hk.1.1.1, hk.1.2⟩)⟩, ⟨by (with_reducible repeat (first | apply tA_ | apply tN_ | apply tD_)); exact Kd.S_mono (Kd.S_far (p := ⟨gb226, 6, none⟩) (Kd.S_types O5.out K3.out (by decide)) (fun _ hk => hk.2) (.slice Ao171 y264.length co171)) (fun _ hk => ⟨hk.1.1.1, ⟨hk.1.1.2.1, hk.1.2⟩⟩)⟩, ⟨by (with_reducible repeat (first | apply rA_ | apply rN_ | apply rD_)); exact Kd.R_mono (Kd.R_far (p := ⟨gb226, 6, none⟩) (Kd.R_types HO266.out K3.out (by decide)) (fun _ hk => hk.2) (.slice Ao171 y264.length co171)) (fun _ hk => ⟨hk.1.1, hk.1.2.1⟩)⟩, ⟨by (with_reducible repeat (first | refine bN_ ?_ _ | refine bD_ ?_ | refine bA_ ?_ _)); refine blk_far ?_ N13.out _; (with_reducible repeat (first | refine bN_ ?_ _ | refine bD_ ?_ | refine bA_ ?_ _)); exact K1.out⟩, ⟨by (with_reducible repeat (first | refine bN_ ?_ _ | refine bD_ ?_ | refine bA_ ?_ _)); refine blk_far ?_ N23.out _; (with_reducible repeat (first | refine bN_ ?_ _ | refine bD_ ?_ | refine bA_ ?_ _)); exact K2.out⟩, ⟨by (with_reducible repeat (first | refine bN_ ?_ _ | refine bD_ ?_ | refine bA_ ?_ _)); refine blk_put (cs := #[.string t217, u227001, .string t221, .string t225, u227004, u227005, u227006, .string (⟨#[]⟩ : ByteArray)]) ?_ 6 _ rfl; (with_reducible repeat (first | refine bN_ ?_ _ | refine bD_ ?_ | refine bA_ ?_ _)); exact K3.out⟩, ⟨by repeat (first | (with_reducible first | exact HB.out | apply wA_ | apply wN_ | apply wD_ | refine wS_ ?_ GE212.out | refine wS_ ?_ GE213.out | refine wS_ ?_ GE226.out) | exact HB.out)⟩⟩
                    ·rw [if_neg c140] at H
                     exact absurd H (by simp)
                   ·rw [if_neg c138] at H
                    exact absurd H (by simp)
                  ·rw [if_neg c137] at H
                   have c137b0 : decide (x12_7 < 3) = false := decide_eq_false c137
                   clear c137
                   replace H := Option.bind_eq_some_iff.mp H
                   obtain ⟨⟨t267, t268, t271, t272, t273, t276, t279, t282⟩, A1532, H⟩ := H
                   replace H : (some (t267, t268, t271, t272, t273, t276, t279, t282)) = some (r1, r2, r3, r4, r5, r6, r7, r8) := H
                   have A173 := Aside0.mk A1532
                   clear A1532
                   simp only [Option.some.injEq, Prod.mk.injEq] at H
                   obtain ⟨rfl, rfl, rfl, rfl, rfl, rfl, rfl, rfl⟩ := H
                   have hnb174 := N12.out
                   have hnc174 := N21.out
                   have hnb175 := N13.out
                   have hnc175 := N31.out
                   obtain ⟨z176_0, z176_1, z176_2, z176_3, z176_4, z176_5, z176_6, z176_7, f176_0, f176_1, f176_2, f176_3, f176_4, f176_5, f176_6, f176_7⟩ := cells8 K1.out
                   have hnb177 := N32.out
                   have hnc177 := N23.out
                   obtain ⟨z178_0, z178_1, z178_2, z178_3, z178_4, z178_5, z178_6, z178_7, f178_0, f178_1, f178_2, f178_3, f178_4, f178_5, f178_6, f178_7⟩ := cells8 K3.out
                   obtain ⟨Ao179, co179, eo179⟩ := Kd.R_slice O1.out
                   subst eo179
                   obtain ⟨Ao180, co180, eo180⟩ := Kd.R_slice O4.out
                   subst eo180
                   obtain ⟨Ao181, co181, eo181⟩ := Kd.S_slice O5.out
                   subst eo181
                   obtain ⟨Ao182, co182, eo182⟩ := Kd.R_slice O6.out
                   subst eo182
                   have hO : OwnT wr w.heap.size (.slice Ao179 x1_.length co179) (.slice Ao180 x4_.length co180) (.slice Ao181 x5_.length co181) (.slice Ao182 x227006_7.length co182) x1_ x4_ x5_ x227006_7 := ⟨O1.out, O4.out, O5.out, O6.out⟩
                   have n4_ := Kd.R_ne O4.out K2.out (by decide)
                   have n5_ := Kd.S_ne O5.out K2.out (by decide)
                   have n6_ := Kd.R_ne O6.out K2.out (by decide)
                   have HO1 := Aside0.mk hO
                   have HN1 := Aside0.mk (And.intro n4_ (And.intro n5_ n6_))
                   clear hO n4_ n5_ n6_
                   go_wp2_with (go_at_call 38; refine (spoilt_calls k7 t217 t221 t225 (⟨#[]⟩ : ByteArray) Ao179 co179 x1_ Ao180 co180 x4_ Ao181 co181 x5_ Ao182 co182 x227006_7 (Int.tmod (wrap64 ((Int.tmod a0_7 12) + 12)) 12) t267 t268 t271 t272 t273 t276 t279 t282 _ w.heap.size (below_size HB.out) HO1.out A173.out).mono ?_; rintro e w9 ⟨v1_, v4_, v5_, v6_, rfl, ho, hb, hk⟩; have BZ := (hk gb213 (blk_lt K2.out) HN1.out.1 HN1.out.2.1 HN1.out.2.2).trans K2.out; have z0 := (bC_ BZ 0).trans rfl; have zf0 := bF_ BZ 0; have z1 := (bC_ BZ 1).trans rfl; have zf1 := bF_ BZ 1; have z2 := (bC_ BZ 2).trans rfl; have zf2 := bF_ BZ 2; have z3 := (bC_ BZ 3).trans rfl; have zf3 := bF_ BZ 3; have z4 := (bC_ BZ 4).trans rfl; have zf4 := bF_ BZ 4; have z5 := (bC_ BZ 5).trans rfl; have zf5 := bF_ BZ 5; have z6 := (bC_ BZ 6).trans rfl; have zf6 := bF_ BZ 6; have z7 := (bC_ BZ 7).trans rfl; have zf7 := bF_ BZ 7; have HZ := Aside0.mk BZ; obtain ⟨B1_, d1_, e1_⟩ := Kd.R_slice ho.1; subst e1_; obtain ⟨B4_, d4_, e4_⟩ := Kd.R_slice ho.2.1; subst e4_; obtain ⟨B5_, d5_, e5_⟩ := Kd.S_slice ho.2.2.1; subst e5_; obtain ⟨B6_, d6_, e6_⟩ := Kd.R_slice ho.2.2.2; subst e6_; have HP := Aside0.mk ho; have HQ := Aside0.mk hb; clear BZ ho hb hk)
                   refine bodyPost_ret (results_cell_row rfl _ _ gb213 29 #[.string t267, .slice B1_ t268.length d1_, .string t271, .string t272, .slice B4_ t273.length d4_, .slice B5_ t276.length d5_, .slice B6_ t279.length d6_, .string t282] (0, 0) _ rfl (put8 HZ.out _ _ _ _ _ _ _ _) Tryz.underlying29 rfl (by kernel_rfl)) rfl ?_
                   have hs := HP.out.set8 HZ.out (.string t267) (.slice B1_ t268.length d1_) (.string t271) (.string t272) (.slice B4_ t273.length d4_) (.slice B5_ t276.length d5_) (.slice B6_ t279.length d6_) (.string t282)
                   exact ⟨_, _, _, _, rfl, hs.1, hs.2.1, hs.2.2.1, hs.2.2.2, below8 (HB.out.trans HQ.out) GE213.out _ _ _ _ _ _ _ _⟩
                 ·rw [if_neg c136] at H
                  have c136b0 : decide (x12_7 < (l0_6.length : Int)) = false := decide_eq_false c136
                  clear c136
                  replace H := Option.bind_eq_some_iff.mp H
                  obtain ⟨⟨t283, t284, t287, t288, t289, t292, t295, t298⟩, A1692, H⟩ := H
                  replace H : (some (t283, t284, t287, t288, t289, t292, t295, t298)) = some (r1, r2, r3, r4, r5, r6, r7, r8) := H
                  have A189 := Aside0.mk A1692
                  clear A1692
                  simp only [Option.some.injEq, Prod.mk.injEq] at H
                  obtain ⟨rfl, rfl, rfl, rfl, rfl, rfl, rfl, rfl⟩ := H
                  have hnb190 := N12.out
                  have hnc190 := N21.out
                  have hnb191 := N13.out
                  have hnc191 := N31.out
                  obtain ⟨z192_0, z192_1, z192_2, z192_3, z192_4, z192_5, z192_6, z192_7, f192_0, f192_1, f192_2, f192_3, f192_4, f192_5, f192_6, f192_7⟩ := cells8 K1.out
                  have hnb193 := N32.out
                  have hnc193 := N23.out
                  obtain ⟨z194_0, z194_1, z194_2, z194_3, z194_4, z194_5, z194_6, z194_7, f194_0, f194_1, f194_2, f194_3, f194_4, f194_5, f194_6, f194_7⟩ := cells8 K3.out
                  obtain ⟨Ao195, co195, eo195⟩ := Kd.R_slice O1.out
                  subst eo195
                  obtain ⟨Ao196, co196, eo196⟩ := Kd.R_slice O4.out
                  subst eo196
                  obtain ⟨Ao197, co197, eo197⟩ := Kd.S_slice O5.out
                  subst eo197
                  obtain ⟨Ao198, co198, eo198⟩ := Kd.R_slice O6.out
                  subst eo198
                  have hO : OwnT wr w.heap.size (.slice Ao195 x1_.length co195) (.slice Ao196 x4_.length co196) (.slice Ao197 x5_.length co197) (.slice Ao198 x227006_7.length co198) x1_ x4_ x5_ x227006_7 := ⟨O1.out, O4.out, O5.out, O6.out⟩
                  have n4_ := Kd.R_ne O4.out K2.out (by decide)
                  have n5_ := Kd.S_ne O5.out K2.out (by decide)
                  have n6_ := Kd.R_ne O6.out K2.out (by decide)
                  have HO1 := Aside0.mk hO
                  have HN1 := Aside0.mk (And.intro n4_ (And.intro n5_ n6_))
                  clear hO n4_ n5_ n6_
                  go_wp2_with (go_at_call 38; refine (spoilt_calls k7 t217 t221 t225 (⟨#[]⟩ : ByteArray) Ao195 co195 x1_ Ao196 co196 x4_ Ao197 co197 x5_ Ao198 co198 x227006_7 (Int.tmod (wrap64 ((Int.tmod a0_7 12) + 12)) 12) t283 t284 t287 t288 t289 t292 t295 t298 _ w.heap.size (below_size HB.out) HO1.out A189.out).mono ?_; rintro e w9 ⟨v1_, v4_, v5_, v6_, rfl, ho, hb, hk⟩; have BZ := (hk gb213 (blk_lt K2.out) HN1.out.1 HN1.out.2.1 HN1.out.2.2).trans K2.out; have z0 := (bC_ BZ 0).trans rfl; have zf0 := bF_ BZ 0; have z1 := (bC_ BZ 1).trans rfl; have zf1 := bF_ BZ 1; have z2 := (bC_ BZ 2).trans rfl; have zf2 := bF_ BZ 2; have z3 := (bC_ BZ 3).trans rfl; have zf3 := bF_ BZ 3; have z4 := (bC_ BZ 4).trans rfl; have zf4 := bF_ BZ 4; have z5 := (bC_ BZ 5).trans rfl; have zf5 := bF_ BZ 5; have z6 := (bC_ BZ 6).trans rfl; have zf6 := bF_ BZ 6; have z7 := (bC_ BZ 7).trans rfl; have zf7 := bF_ BZ 7; have HZ := Aside0.mk BZ; obtain ⟨B1_, d1_, e1_⟩ := Kd.R_slice ho.1; subst e1_; obtain ⟨B4_, d4_, e4_⟩ := Kd.R_slice ho.2.1; subst e4_; obtain ⟨B5_, d5_, e5_⟩ := Kd.S_slice ho.2.2.1; subst e5_; obtain ⟨B6_, d6_, e6_⟩ := Kd.R_slice ho.2.2.2; subst e6_; have HP := Aside0.mk ho; have HQ := Aside0.mk hb; clear BZ ho hb hk)
                  refine bodyPost_ret (results_cell_row rfl _ _ gb213 29 #[.string t283, .slice B1_ t284.length d1_, .string t287, .string t288, .slice B4_ t289.length d4_, .slice B5_ t292.length d5_, .slice B6_ t295.length d6_, .string t298] (0, 0) _ rfl (put8 HZ.out _ _ _ _ _ _ _ _) Tryz.underlying29 rfl (by kernel_rfl)) rfl ?_
                  have hs := HP.out.set8 HZ.out (.string t283) (.slice B1_ t284.length d1_) (.string t287) (.string t288) (.slice B4_ t289.length d4_) (.slice B5_ t292.length d5_) (.slice B6_ t295.length d6_) (.string t298)
                  exact ⟨_, _, _, _, rfl, hs.1, hs.2.1, hs.2.2.1, hs.2.2.2, below8 (HB.out.trans HQ.out) GE213.out _ _ _ _ _ _ _ _⟩
end Go.Proofs.YtejnfbfikadpdaaGreatDoor.P
