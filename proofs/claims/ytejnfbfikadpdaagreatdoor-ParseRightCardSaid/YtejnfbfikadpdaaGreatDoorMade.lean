/- isoglossref06.Made, walked: a tag of plain numbers; its rows are the call's own. As the print writes it, mended and made shorter. -/
import Derived.Test.YtejnfbfikadpdaaGreatDoorSq
import Derived.Test.YtejnfbfikadpdaaGreatDoorMadeF
namespace Go.Proofs.YtejnfbfikadpdaaGreatDoor.P
open Go.RowKit Go.Proofs.YtejnfbfikadpdaaGreatDoorW.PrintWords Go.Proofs.YtejnfbfikadpdaaGreatDoorW.PrintLast Go.Proofs.YtejnfbfikadpdaaGreatDoorW.PrintMore
attribute [local go_sem] max2_int min2_int max_two min_two max_three min_three max_four min_four   -- for this text's walks alone
set_option linter.unusedVariables false
set_option linter.unusedSimpArgs false
open List renaming setIfInBounds_toArray → sA_, set_cons_zero → sB_, set_cons_succ → sC_
open Go.Proofs.YtejnfbfikadpdaaGreatDoorW.PrintWords renaming blk_alloc → bA_, blk_drewN → bN_, blk_drew → bD_, blk_frozen → bF_, blk_cell → bC_, pw_below_drewN → wN_, below_alloc → wA_, below_drew1 → wD_, below_set → wS_
open Go.Proofs.YtejnfbfikadpdaaGreatDoorW.PrintWords.Kd renaming R_alloc → rA_, R_drewN → rN_, R_drew → rD_, S_alloc → tA_, S_drewN → tN_, S_drew → tD_
def mD.T1 : Bool × List (List Nat × List Nat) := (true, [([], []), ([], []), ([1], [1]), ([0, 2, 0], [0, 2]), ([3], []), ([], []), ([5], [5]), ([4, 6, 4], [4, 6]), ([7], []), ([], []), ([9], [9]), ([8, 10, 8], [8, 10]), ([3, 7, 11], [3, 7, 11]), ([], []), ([13, 12, 11, 0, 1, 2, 3, 4, 5, 6, 7, 8, 9, 10, 11, 12, 13], [12, 13])])
def mD.B1 : List Nat := [0, 0, 2, 7, 15, 0, 32, 127, 255, 0, 512, 2047, 4095, 0, 16383]
theorem mD.tab1 : rtab .any (opsOf Tryz.f11 1) = mD.T1 := by kernel_rfl
theorem mD.bits1 : waitsOk mD.T1.2 mD.B1 = true := by kernel_rfl
def mD.T7 : Bool × List (List Nat × List Nat) := (true, [([], []), ([], []), ([1], [1]), ([], []), ([2, 3], [2, 3]), ([4], [4]), ([0, 5, 0], [0, 5]), ([6, 6, 0, 1, 2, 3, 4, 5, 6], [6])])
def mD.B7 : List Nat := [0, 0, 2, 0, 14, 30, 63, 127]
theorem mD.tab7 : rtab .any (opsOf Tryz.f11 7) = mD.T7 := by kernel_rfl
theorem mD.bits7 : waitsOk mD.T7.2 mD.B7 = true := by kernel_rfl
def mD.T23 : Bool × List (List Nat × List Nat) := (true, [([], []), ([0], [0]), ([], []), ([], []), ([3], [3]), ([], []), ([], []), ([5, 6], [5, 6]), ([7], [7]), ([4, 8], [4, 8]), ([2, 9, 2], [2, 9]), ([10], [10]), ([1, 11, 10], [1, 11]), ([0, 1, 2, 3, 4, 5, 6, 7, 8, 9, 10, 11, 12], []), ([13, 12, 12, 0, 1, 2, 3, 4, 5, 6, 7, 8, 9, 10, 11, 12], [12, 13])])
def mD.B23 : List Nat := [0, 1, 0, 0, 8, 0, 0, 96, 224, 504, 1020, 2044, 4095, 8191, 16383]
theorem mD.tab23 : rtab .any (opsOf Tryz.f11 23) = mD.T23 := by kernel_rfl
theorem mD.bits23 : waitsOk mD.T23.2 mD.B23 = true := by kernel_rfl
def mD.T28 : Bool × List (List Nat × List Nat) := (true, [([], []), ([0], [0]), ([], []), ([], []), ([3], [3]), ([], []), ([4, 5], [4, 5]), ([6], [6]), ([2, 7], [2, 7]), ([8], [8]), ([1, 9, 8], [1, 9]), ([0, 1, 2, 3, 4, 5, 6, 7, 8, 9, 10], []), ([11, 10, 10, 0, 1, 2, 3, 4, 5, 6, 7, 8, 9, 10], [10, 11])])
def mD.B28 : List Nat := [0, 1, 0, 0, 8, 0, 56, 120, 252, 508, 1023, 2047, 4095]
theorem mD.tab28 : rtab .any (opsOf Tryz.f11 28) = mD.T28 := by kernel_rfl
theorem mD.bits28 : waitsOk mD.T28.2 mD.B28 = true := by kernel_rfl
set_option maxHeartbeats 8000000 in
set_option maxRecDepth 100000 in
theorem r6_Made.calls (k : Nat) (ah : Int) (ag : Int) (ai : Int) (aj : Int) (av : Option Addr) (ap : Nat) (ad : List Int) (aw : Option Addr) (aq : Nat) (ae : List Int) (au : Option Addr) (ar : Nat) (af : List Int) (ak : Int) (r1 : ByteArray) (r2 : List ByteArray) (r3 : ByteArray) (r4 : ByteArray) (r5 : List ByteArray) (r6 : List (S47)) (r7 : List ByteArray) (r8 : ByteArray) (w : World) (hr0_4 : Kd.C (Kd.int .i64) w av ad.length ad) (hc0_4 : ad.length ≤ ap) (hr0_5 : Kd.C (Kd.int .i64) w aw ae.length ae) (hc0_5 : ae.length ≤ aq) (hr0_6 : Kd.C (Kd.int .i64) w au af.length af) (hc0_6 : af.length ≤ ar) (h : r6_Made.f k ah ag ai aj ad ae af ak = some (r1, r2, r3, r4, r5, r6, r7, r8)) :
  Calls Tryz.prog 11 #[.agg #[.int .i64 ah, .int .i64 ag, .int .i64 ai, .int .i64 aj, .slice av ad.length ap, .slice aw ae.length aq, .slice au af.length ar, .int .i64 ak]] w fun e w' => ∃ v1_ v4_ v5_ v6_ : Value, e = .returned (.agg #[.string r1, v1_, .string r3, .string r4, v4_, v5_, v6_, .string r8]) ∧ Kd.R Kd.string 9 w' w.heap.size (fun k_ => some k_ ≠ (v4_ : Value).ownBlock ∧ some k_ ≠ (v6_ : Value).ownBlock) v1_ r2 ∧ Kd.R Kd.string 9 w' w.heap.size (fun k_ => some k_ ≠ (v1_ : Value).ownBlock ∧ some k_ ≠ (v6_ : Value).ownBlock) v4_ r5 ∧ Kd.S k47 47 w' w.heap.size (fun k_ => some k_ ≠ (v1_ : Value).ownBlock ∧ some k_ ≠ (v4_ : Value).ownBlock ∧ some k_ ≠ (v6_ : Value).ownBlock) v5_ r6 ∧ Kd.R Kd.string 9 w' w.heap.size (fun k_ => some k_ ≠ (v1_ : Value).ownBlock ∧ some k_ ≠ (v4_ : Value).ownBlock) v6_ r7 ∧ Below w.heap.size w w' := by
 have hu24 := Tryz.underlying24
 have hu29 := Tryz.underlying29
 have hu47 := Tryz.underlying47
 have cK := Aside0.mk hr0_4
 have eH := Aside0.mk hc0_4
 clear hr0_4 hc0_4
 have cL := Aside0.mk hr0_5
 have eI := Aside0.mk hc0_5
 clear hr0_5 hc0_5
 have cM := Aside0.mk hr0_6
 have eJ := Aside0.mk hc0_6
 clear hr0_6 hc0_6
 have HB := Aside0.mk (Below.refl w.heap.size w)
 have H : ((r6_langs.f).bind fun aW => ((r6_Pick.f aW ah).bind fun ao => ((r6_scripts.f).bind fun a0 => ((r6_Pick.f a0 ai).bind fun ax => ((r6_regions.f).bind fun a5 => ((r6_Pick.f a5 aj).bind fun ay => (if (ao.size : Int) ≤ 3 then (mD.j0 k ((Int.tmod ag 4) == 1) ah ag ai aj ad ae af ak ao ax ay (⟨#[]⟩ : ByteArray)) else (mD.j0 k false ah ag ai aj ad ae af ak ao ax ay (⟨#[]⟩ : ByteArray))))))))) = some (r1, r2, r3, r4, r5, r6, r7, r8) := h
 clear h
 replace H := Option.bind_eq_some_iff.mp H
 obtain ⟨aW, eK, H⟩ := H
 try dsimp only at H
 have A2 := Aside0.mk eK
 clear eK
 replace H := Option.bind_eq_some_iff.mp H
 obtain ⟨ao, eL, H⟩ := H
 try dsimp only at H
 have A3 := Aside0.mk eL
 clear eL
 replace H := Option.bind_eq_some_iff.mp H
 obtain ⟨a0, eM, H⟩ := H
 try dsimp only at H
 have A4 := Aside0.mk eM
 clear eM
 replace H := Option.bind_eq_some_iff.mp H
 obtain ⟨ax, eN, H⟩ := H
 try dsimp only at H
 have A5 := Aside0.mk eN
 clear eN
 replace H := Option.bind_eq_some_iff.mp H
 obtain ⟨a5, dq, H⟩ := H
 try dsimp only at H
 have A6 := Aside0.mk dq
 clear dq
 replace H := Option.bind_eq_some_iff.mp H
 obtain ⟨ay, eO, H⟩ := H
 try dsimp only at H
 have A7 := Aside0.mk eO
 clear eO
 have dr := Aside0.mk H
 clear H
 go_enter Tryz.func11, Tryz.ntmps11
 try go_wp2_with (first | ((with_reducible refine gate_dst (N := 1) rfl ?_); refine box_event ?hg (N := 1) ?hd (cs := #[.int .i64 ah, .int .i64 ag, .int .i64 ai, .int .i64 aj, .slice av ad.length ap, .slice aw ae.length aq, .slice au af.length ar, .int .i64 ak]) (t := 24) ?hr ?_; (case hd => rfl); (case hg => rfl); (case hr => first | (go_simp; done) | (go_simp; rfl)); intro ab hg w9 hbox hb; have aD := Aside0.mk (below_step (Qw HB.out) hb); have aE := Aside0.mk (hbox); have aG := Aside0.mk ((by rw [hg]; exact (below_size (Qw HB.out)) : w.heap.size ≤ ab)); have aH := Aside0.mk ((by rw [hg]; exact (below_size (Qw HB.out)) : w.heap.size ≤ ab)); clear HB; have HB := aD; have K1 := aE; have GW212 := aG; have az := aH; clear aD aE aG aH; clear hb hbox hg) | ((with_reducible refine gate_dst (N := 2) rfl ?_); refine box_event ?hg (N := 2) ?hd (cs := #[.string (⟨#[]⟩ : ByteArray), .slice none 0 0, .string (⟨#[]⟩ : ByteArray), .string (⟨#[]⟩ : ByteArray), .slice none 0 0, .slice none 0 0, .slice none 0 0, .string (⟨#[]⟩ : ByteArray)]) (t := 29) ?hr ?_; (case hd => rfl); (case hg => rfl); (case hr => first | (go_simp; done) | (go_simp; rfl)); intro ac hg w10 hbox hb; have aD := Aside0.mk (blk_below (g := ab) (o := .cells #[.int .i64 ah, .int .i64 ag, .int .i64 ai, .int .i64 aj, .slice av ad.length ap, .slice aw ae.length aq, .slice au af.length ar, .int .i64 ak] 24 (0, 0)) (Qb K1.out) hb); have aE := Aside0.mk (below_step (Qv HB.out az.out) hb); have aG := Aside0.mk (hbox); have aH := Aside0.mk ((by rw [hg]; exact (below_size (Qv HB.out az.out)) : w.heap.size ≤ ac)); have aI := Aside0.mk ((by rw [hg]; exact (below_size (Qv HB.out az.out)) : w.heap.size ≤ ac)); have aM := Aside0.mk ((by rw [hg]; exact Nat.ne_of_lt (blk_lt (g := ab) (o := .cells #[.int .i64 ah, .int .i64 ag, .int .i64 ai, .int .i64 aj, .slice av ad.length ap, .slice aw ae.length aq, .slice au af.length ar, .int .i64 ak] 24 (0, 0)) (Qb K1.out)) : ab ≠ ac)); have aR := Aside0.mk ((by rw [hg]; exact Nat.ne_of_gt (blk_lt (g := ab) (o := .cells #[.int .i64 ah, .int .i64 ag, .int .i64 ai, .int .i64 aj, .slice av ad.length ap, .slice aw ae.length aq, .slice au af.length ar, .int .i64 ak] 24 (0, 0)) (Qb K1.out)) : ac ≠ ab)); clear K1; clear HB; have K1 := aD; have HB := aE; have K2 := aG; have GW213 := aH; have aC := aI; have N12 := aM; have N21 := aR; clear aD aE aG aH aI aM aR; clear hb hbox hg))
 have aD := Aside0.mk (bD_ K1.out)
 have aE := Aside0.mk (bD_ K2.out)
 have aG := Aside0.mk (wD_ HB.out)
 clear K1 K2 HB
 have K1 := aD; have K2 := aE; have HB := aG
 clear aD aE aG
 refine start_ (n := 15) (S := fun w' => SS_ ab ah ag ai aj av ad ap aw ae aq au af ar ak w') (ds := []) #[false, false, false, false, false, false, false, false, false, false, false, false, false, false, false] (by kernel_rfl) rfl rfl (C8_ K1.out) (fun hHeld => ?_); refine with_tabW mD.tab1 mD.bits1 (fun HT_ HW_ => ?_)
 generalize w10.drew = w11 at K1 K2 HB hHeld ⊢
 refine pu_ (i := 1) (N := some 14) HT_ (bl_ 15 2) ?_
 refine pu_ (i := 5) (N := some 18) HT_ (bl_ 15 34) ?_
 refine pu_ (i := 9) (N := some 22) HT_ (bl_ 15 546) ?_
 refine tk_ (i := 2) (N := some 15) HT_ HW_ (bl_ 15 550) hHeld ?_ (hy := by rintro w' ⟨s0, s1, s2, s3, s4, s5, s6, s7⟩; go_simp; with_reducible rfl)
 refine tk_ (i := 6) (N := some 19) HT_ HW_ (bl_ 15 614) hHeld ?_ (hy := by rintro w' ⟨s0, s1, s2, s3, s4, s5, s6, s7⟩; go_simp; with_reducible rfl)
 refine tk_ (i := 10) (N := some 23) HT_ HW_ (bl_ 15 1638) hHeld ?_ (hy := by rintro w' ⟨s0, s1, s2, s3, s4, s5, s6, s7⟩; go_simp; with_reducible rfl)
 refine join_ (σ := Value × Value × Value × Nat) 1 #[true, true, true, true, true, true, true, true, true, true, true, true, true, true, false] (fun s_ => [(13, s_.1), (16, .string ao), (17, s_.2.1), (20, .string ax), (21, s_.2.2.1), (24, .string ay), (3, .pointer (some ⟨s_.2.2.2, 0, none⟩)), (25, .agg #[.string ao, .slice none 0 0, .string ax, .string ay, .slice none 0 0, .slice none 0 0, .slice none 0 0, .string (⟨#[]⟩ : ByteArray)])]) (fun s_ w' => (SS_ ab ah ag ai aj av ad ap aw ae aq au af ar ak w') ∧ (Kd.R Kd.string 9 w' w.heap.size (fun k_ => some k_ ≠ (s_.2.1 : Value).ownBlock ∧ some k_ ≠ (s_.2.2.1 : Value).ownBlock) s_.1 aW) ∧ (Kd.R Kd.string 9 w' w.heap.size (fun k_ => some k_ ≠ (s_.1 : Value).ownBlock ∧ some k_ ≠ (s_.2.2.1 : Value).ownBlock) s_.2.1 a0) ∧ (Kd.R Kd.string 9 w' w.heap.size (fun k_ => some k_ ≠ (s_.1 : Value).ownBlock ∧ some k_ ≠ (s_.2.1 : Value).ownBlock) s_.2.2.1 a5) ∧ (w'.heap[ab]? = some (.cells #[.int .i64 ah, .int .i64 ag, .int .i64 ai, .int .i64 aj, .slice av ad.length ap, .slice aw ae.length aq, .slice au af.length ar, .int .i64 ak] 24 (0, 0))) ∧ (w'.heap[ac]? = some (.cells zT_ 29 (0, 0))) ∧ (w'.heap[s_.2.2.2]? = some (.cells zT_ 29 (0, 0))) ∧ (w.heap.size ≤ s_.2.2.2) ∧ (w.heap.size ≤ s_.2.2.2) ∧ (ab ≠ s_.2.2.2) ∧ (s_.2.2.2 ≠ ab) ∧ (ac ≠ s_.2.2.2) ∧ (s_.2.2.2 ≠ ac) ∧ (Below w.heap.size w w')) ?_ ?_
 rotate_left
 ·intro hj0
  refine join_ (σ := Value × Value × Value) 2 #[true, true, true, true, true, true, true, true, true, true, true, true, true, false, false] (fun s_ => [(13, s_.1), (16, .string ao), (17, s_.2.1), (20, .string ax), (21, s_.2.2), (24, .string ay), (25, .agg #[.string ao, .slice none 0 0, .string ax, .string ay, .slice none 0 0, .slice none 0 0, .slice none 0 0, .string (⟨#[]⟩ : ByteArray)])]) (fun s_ w' => (SS_ ab ah ag ai aj av ad ap aw ae aq au af ar ak w') ∧ (Kd.R Kd.string 9 w' w.heap.size (fun k_ => some k_ ≠ (s_.2.1 : Value).ownBlock ∧ some k_ ≠ (s_.2.2 : Value).ownBlock) s_.1 aW) ∧ (Kd.R Kd.string 9 w' w.heap.size (fun k_ => some k_ ≠ (s_.1 : Value).ownBlock ∧ some k_ ≠ (s_.2.2 : Value).ownBlock) s_.2.1 a0) ∧ (Kd.R Kd.string 9 w' w.heap.size (fun k_ => some k_ ≠ (s_.1 : Value).ownBlock ∧ some k_ ≠ (s_.2.1 : Value).ownBlock) s_.2.2 a5) ∧ (w'.heap[ab]? = some (.cells #[.int .i64 ah, .int .i64 ag, .int .i64 ai, .int .i64 aj, .slice av ad.length ap, .slice aw ae.length aq, .slice au af.length ar, .int .i64 ak] 24 (0, 0))) ∧ (w'.heap[ac]? = some (.cells zT_ 29 (0, 0))) ∧ (Below w.heap.size w w')) ?_ ?_
  rotate_left
  ·intro hj2
   refine join_ (σ := Value × Value × Value × Nat) 3 #[true, true, true, true, true, true, true, true, true, true, true, false, false, true, false] (fun s_ => [(13, s_.1), (16, .string ao), (17, s_.2.1), (20, .string ax), (21, s_.2.2.1), (3, .pointer (some ⟨s_.2.2.2, 0, none⟩))]) (fun s_ w' => (SS_ ab ah ag ai aj av ad ap aw ae aq au af ar ak w') ∧ (Kd.R Kd.string 9 w' w.heap.size (fun k_ => some k_ ≠ (s_.2.1 : Value).ownBlock ∧ some k_ ≠ (s_.2.2.1 : Value).ownBlock) s_.1 aW) ∧ (Kd.R Kd.string 9 w' w.heap.size (fun k_ => some k_ ≠ (s_.1 : Value).ownBlock ∧ some k_ ≠ (s_.2.2.1 : Value).ownBlock) s_.2.1 a0) ∧ (Kd.R Kd.string 9 w' w.heap.size (fun k_ => some k_ ≠ (s_.1 : Value).ownBlock ∧ some k_ ≠ (s_.2.1 : Value).ownBlock) s_.2.2.1 a5) ∧ (w'.heap[ab]? = some (.cells #[.int .i64 ah, .int .i64 ag, .int .i64 ai, .int .i64 aj, .slice av ad.length ap, .slice aw ae.length aq, .slice au af.length ar, .int .i64 ak] 24 (0, 0))) ∧ (w'.heap[ac]? = some (.cells zT_ 29 (0, 0))) ∧ (w'.heap[s_.2.2.2]? = some (.cells zT_ 29 (0, 0))) ∧ (w.heap.size ≤ s_.2.2.2) ∧ (w.heap.size ≤ s_.2.2.2) ∧ (ab ≠ s_.2.2.2) ∧ (s_.2.2.2 ≠ ab) ∧ (ac ≠ s_.2.2.2) ∧ (s_.2.2.2 ≠ ac) ∧ (Below w.heap.size w w')) ?_ ?_
   rotate_left
   ·intro hj1
    refine join_ (σ := Value × Value × Value) 4 #[true, true, true, true, true, true, true, true, true, true, true, false, false, false, false] (fun s_ => [(13, s_.1), (16, .string ao), (17, s_.2.1), (20, .string ax), (21, s_.2.2)]) (fun s_ w' => (SS_ ab ah ag ai aj av ad ap aw ae aq au af ar ak w') ∧ (Kd.R Kd.string 9 w' w.heap.size (fun k_ => some k_ ≠ (s_.2.1 : Value).ownBlock ∧ some k_ ≠ (s_.2.2 : Value).ownBlock) s_.1 aW) ∧ (Kd.R Kd.string 9 w' w.heap.size (fun k_ => some k_ ≠ (s_.1 : Value).ownBlock ∧ some k_ ≠ (s_.2.2 : Value).ownBlock) s_.2.1 a0) ∧ (Kd.R Kd.string 9 w' w.heap.size (fun k_ => some k_ ≠ (s_.1 : Value).ownBlock ∧ some k_ ≠ (s_.2.1 : Value).ownBlock) s_.2.2 a5) ∧ (w'.heap[ab]? = some (.cells #[.int .i64 ah, .int .i64 ag, .int .i64 ai, .int .i64 aj, .slice av ad.length ap, .slice aw ae.length aq, .slice au af.length ar, .int .i64 ak] 24 (0, 0))) ∧ (w'.heap[ac]? = some (.cells zT_ 29 (0, 0))) ∧ (Below w.heap.size w w')) ?_ ?_
    rotate_left
    ·intro hj4
     refine join_ (σ := Value × Value × Nat) 4 #[true, true, true, true, true, true, true, true, false, true, true, false, false, true, false] (fun s_ => [(13, s_.1), (16, .string ao), (17, s_.2.1), (20, .string ax), (3, .pointer (some ⟨s_.2.2, 0, none⟩))]) (fun s_ w' => (SS_ ab ah ag ai aj av ad ap aw ae aq au af ar ak w') ∧ (Kd.R Kd.string 9 w' w.heap.size (fun k_ => some k_ ≠ (s_.2.1 : Value).ownBlock) s_.1 aW) ∧ (Kd.R Kd.string 9 w' w.heap.size (fun k_ => some k_ ≠ (s_.1 : Value).ownBlock) s_.2.1 a0) ∧ (w'.heap[ab]? = some (.cells #[.int .i64 ah, .int .i64 ag, .int .i64 ai, .int .i64 aj, .slice av ad.length ap, .slice aw ae.length aq, .slice au af.length ar, .int .i64 ak] 24 (0, 0))) ∧ (w'.heap[ac]? = some (.cells zT_ 29 (0, 0))) ∧ (w'.heap[s_.2.2]? = some (.cells zT_ 29 (0, 0))) ∧ (w.heap.size ≤ s_.2.2) ∧ (w.heap.size ≤ s_.2.2) ∧ (ab ≠ s_.2.2) ∧ (s_.2.2 ≠ ab) ∧ (ac ≠ s_.2.2) ∧ (s_.2.2 ≠ ac) ∧ (Below w.heap.size w w')) ?_ ?_
     rotate_left
     ·intro hj3
      refine join_ (σ := Value × Value) 5 #[true, true, true, true, true, true, true, true, false, true, true, false, false, false, false] (fun s_ => [(13, s_.1), (16, .string ao), (17, s_.2), (20, .string ax)]) (fun s_ w' => (SS_ ab ah ag ai aj av ad ap aw ae aq au af ar ak w') ∧ (Kd.R Kd.string 9 w' w.heap.size (fun k_ => some k_ ≠ (s_.2 : Value).ownBlock) s_.1 aW) ∧ (Kd.R Kd.string 9 w' w.heap.size (fun k_ => some k_ ≠ (s_.1 : Value).ownBlock) s_.2 a0) ∧ (w'.heap[ab]? = some (.cells #[.int .i64 ah, .int .i64 ag, .int .i64 ai, .int .i64 aj, .slice av ad.length ap, .slice aw ae.length aq, .slice au af.length ar, .int .i64 ak] 24 (0, 0))) ∧ (w'.heap[ac]? = some (.cells zT_ 29 (0, 0))) ∧ (Below w.heap.size w w')) ?_ ?_
      rotate_left
      ·intro hj6
       refine join_ (σ := Value × Value × Nat) 5 #[true, true, true, true, true, true, true, false, false, true, true, false, false, true, false] (fun s_ => [(13, s_.1), (16, .string ao), (17, s_.2.1), (3, .pointer (some ⟨s_.2.2, 0, none⟩))]) (fun s_ w' => (SS_ ab ah ag ai aj av ad ap aw ae aq au af ar ak w') ∧ (Kd.R Kd.string 9 w' w.heap.size (fun k_ => some k_ ≠ (s_.2.1 : Value).ownBlock) s_.1 aW) ∧ (Kd.R Kd.string 9 w' w.heap.size (fun k_ => some k_ ≠ (s_.1 : Value).ownBlock) s_.2.1 a0) ∧ (w'.heap[ab]? = some (.cells #[.int .i64 ah, .int .i64 ag, .int .i64 ai, .int .i64 aj, .slice av ad.length ap, .slice aw ae.length aq, .slice au af.length ar, .int .i64 ak] 24 (0, 0))) ∧ (w'.heap[ac]? = some (.cells zT_ 29 (0, 0))) ∧ (w'.heap[s_.2.2]? = some (.cells zT_ 29 (0, 0))) ∧ (w.heap.size ≤ s_.2.2) ∧ (w.heap.size ≤ s_.2.2) ∧ (ab ≠ s_.2.2) ∧ (s_.2.2 ≠ ab) ∧ (ac ≠ s_.2.2) ∧ (s_.2.2 ≠ ac) ∧ (Below w.heap.size w w')) ?_ ?_
       rotate_left
       ·intro hj5
        refine join_ (σ := Value × Value) 6 #[true, true, true, true, true, true, true, false, false, true, true, false, false, false, false] (fun s_ => [(13, s_.1), (16, .string ao), (17, s_.2)]) (fun s_ w' => (SS_ ab ah ag ai aj av ad ap aw ae aq au af ar ak w') ∧ (Kd.R Kd.string 9 w' w.heap.size (fun k_ => some k_ ≠ (s_.2 : Value).ownBlock) s_.1 aW) ∧ (Kd.R Kd.string 9 w' w.heap.size (fun k_ => some k_ ≠ (s_.1 : Value).ownBlock) s_.2 a0) ∧ (w'.heap[ab]? = some (.cells #[.int .i64 ah, .int .i64 ag, .int .i64 ai, .int .i64 aj, .slice av ad.length ap, .slice aw ae.length aq, .slice au af.length ar, .int .i64 ak] 24 (0, 0))) ∧ (w'.heap[ac]? = some (.cells zT_ 29 (0, 0))) ∧ (Below w.heap.size w w')) ?_ ?_
        rotate_left
        ·intro hj8
         refine join_ (σ := Value × Nat) 6 #[true, true, true, true, false, true, true, false, false, true, true, false, false, true, false] (fun s_ => [(13, s_.1), (16, .string ao), (3, .pointer (some ⟨s_.2, 0, none⟩))]) (fun s_ w' => (SS_ ab ah ag ai aj av ad ap aw ae aq au af ar ak w') ∧ (Kd.R Kd.string 9 w' w.heap.size (fun _ => True) s_.1 aW) ∧ (w'.heap[ab]? = some (.cells #[.int .i64 ah, .int .i64 ag, .int .i64 ai, .int .i64 aj, .slice av ad.length ap, .slice aw ae.length aq, .slice au af.length ar, .int .i64 ak] 24 (0, 0))) ∧ (w'.heap[ac]? = some (.cells zT_ 29 (0, 0))) ∧ (w'.heap[s_.2]? = some (.cells zT_ 29 (0, 0))) ∧ (w.heap.size ≤ s_.2) ∧ (w.heap.size ≤ s_.2) ∧ (ab ≠ s_.2) ∧ (s_.2 ≠ ab) ∧ (ac ≠ s_.2) ∧ (s_.2 ≠ ac) ∧ (Below w.heap.size w w')) ?_ ?_
         rotate_left
         ·intro hj7
          refine join_ (σ := Value) 7 #[true, true, true, true, false, true, true, false, false, true, true, false, false, false, false] (fun s_ => [(13, s_), (16, .string ao)]) (fun s_ w' => (SS_ ab ah ag ai aj av ad ap aw ae aq au af ar ak w') ∧ (Kd.R Kd.string 9 w' w.heap.size (fun _ => True) s_ aW) ∧ (w'.heap[ab]? = some (.cells #[.int .i64 ah, .int .i64 ag, .int .i64 ai, .int .i64 aj, .slice av ad.length ap, .slice aw ae.length aq, .slice au af.length ar, .int .i64 ak] 24 (0, 0))) ∧ (w'.heap[ac]? = some (.cells zT_ 29 (0, 0))) ∧ (Below w.heap.size w w')) ?_ ?_
          rotate_left
          ·intro hj10
           refine join_ (σ := Value × Nat) 7 #[true, true, true, false, false, true, true, false, false, true, true, false, false, true, false] (fun s_ => [(13, s_.1), (3, .pointer (some ⟨s_.2, 0, none⟩))]) (fun s_ w' => (SS_ ab ah ag ai aj av ad ap aw ae aq au af ar ak w') ∧ (Kd.R Kd.string 9 w' w.heap.size (fun _ => True) s_.1 aW) ∧ (w'.heap[ab]? = some (.cells #[.int .i64 ah, .int .i64 ag, .int .i64 ai, .int .i64 aj, .slice av ad.length ap, .slice aw ae.length aq, .slice au af.length ar, .int .i64 ak] 24 (0, 0))) ∧ (w'.heap[ac]? = some (.cells zT_ 29 (0, 0))) ∧ (w'.heap[s_.2]? = some (.cells zT_ 29 (0, 0))) ∧ (w.heap.size ≤ s_.2) ∧ (w.heap.size ≤ s_.2) ∧ (ab ≠ s_.2) ∧ (s_.2 ≠ ab) ∧ (ac ≠ s_.2) ∧ (s_.2 ≠ ac) ∧ (Below w.heap.size w w')) ?_ ?_
           rotate_left
           ·intro hj9
            refine join_ (σ := Value) 8 #[true, true, true, false, false, true, true, false, false, true, true, false, false, false, false] (fun s_ => [(13, s_)]) (fun s_ w' => (SS_ ab ah ag ai aj av ad ap aw ae aq au af ar ak w') ∧ (Kd.R Kd.string 9 w' w.heap.size (fun _ => True) s_ aW) ∧ (w'.heap[ab]? = some (.cells #[.int .i64 ah, .int .i64 ag, .int .i64 ai, .int .i64 aj, .slice av ad.length ap, .slice aw ae.length aq, .slice au af.length ar, .int .i64 ak] 24 (0, 0))) ∧ (w'.heap[ac]? = some (.cells zT_ 29 (0, 0))) ∧ (Below w.heap.size w w')) ?_ ?_
            rotate_left
            ·intro hJ0
             refine join_ (σ := Nat) 8 #[false, true, true, false, false, true, true, false, false, true, true, false, false, true, false] (fun s_ => [(3, .pointer (some ⟨s_, 0, none⟩))]) (fun s_ w' => (SS_ ab ah ag ai aj av ad ap aw ae aq au af ar ak w') ∧ (w'.heap[ab]? = some (.cells #[.int .i64 ah, .int .i64 ag, .int .i64 ai, .int .i64 aj, .slice av ad.length ap, .slice aw ae.length aq, .slice au af.length ar, .int .i64 ak] 24 (0, 0))) ∧ (w'.heap[ac]? = some (.cells zT_ 29 (0, 0))) ∧ (w'.heap[s_]? = some (.cells zT_ 29 (0, 0))) ∧ (w.heap.size ≤ s_) ∧ (w.heap.size ≤ s_) ∧ (ab ≠ s_) ∧ (s_ ≠ ab) ∧ (ac ≠ s_) ∧ (s_ ≠ ac) ∧ (Below w.heap.size w w')) ?_ ?_
             rotate_left
             ·intro hJ13
              refine two_ (i := 0) (j := 13) (Ni := some 13) (Nj := some 3) #[true, true, true, false, false, true, true, false, false, true, true, false, false, false, false] #[false, true, true, false, false, true, true, false, false, true, true, false, false, true, false] rfl rfl rfl rfl (two_of HT_.out (by kernel_rfl)) (by decide) (by decide) (fun K hK => ?_) (fun K hK => ?_)
              ·skip
               refine goes_ Tryz.func33 (by kernel_rfl) rfl #[] (by rfl) rfl rfl Qm ?_
               with_reducible refine (r6_langs.calls  aW _ A2.out).mono ?_
               rintro e w12 ⟨v215, rfl, ho0, hb⟩
               refine ⟨_, rfl, ?_⟩
               have aD := Aside0.mk (Kd.R_lower ho0 (below_size HB.out))
               have aE := Aside0.mk (blk_below (g := ab) K1.out hb)
               have aG := Aside0.mk (blk_below (g := ac) K2.out hb)
               have aH := Aside0.mk (below_step HB.out hb)
               clear K1 K2 HB
               have al := aD; have K1 := aE; have K2 := aG; have HB := aH
               clear aD aE aG aH
               (try clear hb); (try clear ho0)
               refine hK.out _ _ (C8_ K1.out) (fun hHeld => ?_)
               clear hK K
               refine nm_ (some 13) ?_
               exact norm_ (by first | (simp only [putAll, Act.put, sA_, sB_, sC_]; done) | (simp only [putAll, Act.put, sA_, sB_, sC_]; rfl)) (hJ0 (v215) _ ⟨hHeld, al.out, K1.out, K2.out, (by first | exact HB.out | exact wN_ HB.out _)⟩)
              ·skip
               refine box_step ?hg (N := 3) ?hd (cs := #[.string (⟨#[]⟩ : ByteArray), .slice none 0 0, .string (⟨#[]⟩ : ByteArray), .string (⟨#[]⟩ : ByteArray), .slice none 0 0, .slice none 0 0, .slice none 0 0, .string (⟨#[]⟩ : ByteArray)]) (t := 29) ?hr ?_; (case hd => rfl); (case hg => rfl); (case hr => first | (go_simp; done) | (go_simp; rfl))
               intro aa hg w12 hbox hb
               have aD := Aside0.mk (blk_below (g := ab) K1.out hb)
               have aE := Aside0.mk (blk_below (g := ac) K2.out hb)
               have aG := Aside0.mk (below_step HB.out hb)
               have aH := Aside0.mk (hbox)
               have aI := Aside0.mk ((by rw [hg]; exact (below_size HB.out) : _ ≤ aa))
               have aM := Aside0.mk ((by rw [hg]; exact (below_size HB.out) : _ ≤ aa))
               have aR := Aside0.mk ((by rw [hg]; exact Nat.ne_of_lt (blk_lt (g := ab) K1.out) : ab ≠ aa))
               have aX := Aside0.mk ((by rw [hg]; exact Nat.ne_of_gt (blk_lt (g := ab) K1.out) : aa ≠ ab))
               have aZ := Aside0.mk ((by rw [hg]; exact Nat.ne_of_lt (blk_lt (g := ac) K2.out) : ac ≠ aa))
               have a3 := Aside0.mk ((by rw [hg]; exact Nat.ne_of_gt (blk_lt (g := ac) K2.out) : aa ≠ ac))
               clear K1 K2 HB
               have K1 := aD; have K2 := aE; have HB := aG; have K3 := aH; have GW226 := aI; have am := aM; have N13 := aR; have N31 := aX; have N23 := aZ; have N32 := a3
               clear aD aE aG aH aI aM aR aX aZ a3 hb hbox hg
               refine hK.out _ _ (C8_ K1.out) (fun hHeld => ?_)
               clear hK K
               refine nm_ (some 3) ?_
               exact norm_ (by first | (simp only [putAll, Act.put, sA_, sB_, sC_]; done) | (simp only [putAll, Act.put, sA_, sB_, sC_]; rfl)) (hJ13 (aa) _ ⟨hHeld, K1.out, K2.out, K3.out, GW226.out, am.out, N13.out, N31.out, N23.out, N32.out, (by first | exact HB.out | exact wN_ HB.out _)⟩)
             ·skip
              rintro aa w13 ⟨hS_, h0_, h1_, h2_, h3_, h4_, h5_, h6_, h7_, h8_, h9_⟩
              have aD : Aside0 (w13.heap[ab]? = some (.cells #[.int .i64 ah, .int .i64 ag, .int .i64 ai, .int .i64 aj, .slice av ad.length ap, .slice aw ae.length aq, .slice au af.length ar, .int .i64 ak] 24 (0, 0))) := ⟨h0_⟩
              have aE : Aside0 (w13.heap[ac]? = some (.cells zT_ 29 (0, 0))) := ⟨h1_⟩
              have aG : Aside0 (w13.heap[aa]? = some (.cells zT_ 29 (0, 0))) := ⟨h2_⟩
              have aH : Aside0 (w.heap.size ≤ aa) := ⟨h3_⟩
              have aI : Aside0 (w.heap.size ≤ aa) := ⟨h4_⟩
              have aM : Aside0 (ab ≠ aa) := ⟨h5_⟩
              have aR : Aside0 (aa ≠ ab) := ⟨h6_⟩
              have aX : Aside0 (ac ≠ aa) := ⟨h7_⟩
              have aZ : Aside0 (aa ≠ ac) := ⟨h8_⟩
              have a3 : Aside0 (Below w.heap.size w w13) := ⟨h9_⟩
              clear K1 K2 HB h0_ h1_ h2_ h3_ h4_ h5_ h6_ h7_ h8_ h9_
              have K1 := aD; have K2 := aE; have K3 := aG; have GW226 := aH; have am := aI; have N13 := aM; have N31 := aR; have N23 := aX; have N32 := aZ; have HB := a3
              clear aD aE aG aH aI aM aR aX aZ a3
              have hHeld : SS_ ab ah ag ai aj av ad ap aw ae aq au af ar ak w13 := hS_
              refine norm_ (a' := ?_) ?_ ?_
              rotate_left
              ·simp only [putAll, Act.put, sA_, sB_, sC_]
               rfl
              refine on_ (i := 0) (N := some 13) HT_ (bl_ 15 9831) rfl rfl (fun K hK => ?_)
              refine goes_ Tryz.func33 (by kernel_rfl) rfl #[] (by rfl) rfl rfl Qm ?_
              with_reducible refine (r6_langs.calls  aW _ A2.out).mono ?_
              rintro e w14 ⟨v215, rfl, ho0, hb⟩
              refine ⟨_, rfl, ?_⟩
              have aD := Aside0.mk (Kd.R_lower ho0 (below_size HB.out))
              have aE := Aside0.mk (blk_below (g := ab) K1.out hb)
              have aG := Aside0.mk (blk_below (g := ac) K2.out hb)
              have aH := Aside0.mk (blk_below (g := aa) K3.out hb)
              have aI := Aside0.mk (below_step HB.out hb)
              clear K1 K2 K3 HB
              have al := aD; have K1 := aE; have K2 := aG; have K3 := aH; have HB := aI
              clear aD aE aG aH aI
              (try clear hb); (try clear ho0)
              refine hK.out _ _ (C8_ K1.out) (fun hHeld => ?_)
              clear hK K
              refine nm_ (some 13) ?_
              exact norm_ (by first | (simp only [putAll, Act.put, sA_, sB_, sC_]; done) | (simp only [putAll, Act.put, sA_, sB_, sC_]; rfl)) (hj9 (_, aa) _ ⟨hHeld, al.out, K1.out, K2.out, K3.out, GW226.out, am.out, N13.out, N31.out, N23.out, N32.out, (by first | exact HB.out | exact wN_ HB.out _)⟩)
            ·skip
             rintro v215 w13 ⟨hS_, h0_, h1_, h2_, h3_⟩
             have aD : Aside0 (Kd.R Kd.string 9 w13 w.heap.size (fun _ => True) v215 aW) := ⟨h0_⟩
             have aE : Aside0 (w13.heap[ab]? = some (.cells #[.int .i64 ah, .int .i64 ag, .int .i64 ai, .int .i64 aj, .slice av ad.length ap, .slice aw ae.length aq, .slice au af.length ar, .int .i64 ak] 24 (0, 0))) := ⟨h1_⟩
             have aG : Aside0 (w13.heap[ac]? = some (.cells zT_ 29 (0, 0))) := ⟨h2_⟩
             have aH : Aside0 (Below w.heap.size w w13) := ⟨h3_⟩
             clear K1 K2 HB h0_ h1_ h2_ h3_
             have al := aD; have K1 := aE; have K2 := aG; have HB := aH
             clear aD aE aG aH
             have hHeld : SS_ ab ah ag ai aj av ad ap aw ae aq au af ar ak w13 := hS_
             obtain ⟨Ao14, co14, eo14⟩ := Kd.R_slice al.out
             (first | subst eo14 | (injection eo14 with f1_ f2_ f3_; have f4_ := f1_.symm; have f5_ := f3_.symm; clear f1_ f2_ f3_; subst f4_; subst f5_))
             refine norm_ (a' := ?_) ?_ ?_
             rotate_left
             ·simp only [putAll, Act.put, sA_, sB_, sC_]
              rfl
             refine two_ (i := 3) (j := 13) (Ni := some 16) (Nj := some 3) #[true, true, true, true, false, true, true, false, false, true, true, false, false, false, false] #[true, true, true, false, false, true, true, false, false, true, true, false, false, true, false] rfl rfl rfl rfl (two_of HT_.out (by kernel_rfl)) (by decide) (by decide) (fun K hK => ?_) (fun K hK => ?_)
             ·skip
              refine goes_ Tryz.func32 (by kernel_rfl) rfl #[.slice Ao14 aW.length co14, .int .i64 ah] (by rfl) rfl rfl Qm ?_
              with_reducible refine (r6_Pick.calls _ _ aW ah ao _ ?side1 ?side2 A3.out).mono ?_
              (case side1 => repeat (first | exact (Kd.R_reads' al.out).2.2 | (with_reducible refine Kd.C_alloc ?_ _) | (with_reducible refine Kd.C_drewN ?_ _) | (with_reducible refine Kd.C_drew ?_)))
              (case side2 => exact (Kd.R_reads' al.out).2.1)
              rintro e w' ⟨rfl, ⟨nd, rfl⟩⟩
              refine ⟨_, rfl, ?_⟩
              refine hK.out _ _ (C8_ K1.out) (fun hHeld => ?_)
              clear hK K
              refine nm_ (some 16) ?_
              exact norm_ (by first | (simp only [putAll, Act.put, sA_, sB_, sC_]; done) | (simp only [putAll, Act.put, sA_, sB_, sC_]; rfl)) (hj10 (.slice Ao14 aW.length co14) _ ⟨hHeld, al.out, K1.out, K2.out, (by first | exact HB.out | exact wN_ HB.out _)⟩)
             ·skip
              refine box_step ?hg (N := 3) ?hd (cs := #[.string (⟨#[]⟩ : ByteArray), .slice none 0 0, .string (⟨#[]⟩ : ByteArray), .string (⟨#[]⟩ : ByteArray), .slice none 0 0, .slice none 0 0, .slice none 0 0, .string (⟨#[]⟩ : ByteArray)]) (t := 29) ?hr ?_; (case hd => rfl); (case hg => rfl); (case hr => first | (go_simp; done) | (go_simp; rfl))
              intro aa hg w14 hbox hb
              have aD := Aside0.mk (Kd.R_below al.out hb)
              have aE := Aside0.mk (blk_below (g := ab) K1.out hb)
              have aG := Aside0.mk (blk_below (g := ac) K2.out hb)
              have aH := Aside0.mk (below_step HB.out hb)
              have aI := Aside0.mk (hbox)
              have aM := Aside0.mk ((by rw [hg]; exact (below_size HB.out) : _ ≤ aa))
              have aR := Aside0.mk ((by rw [hg]; exact (below_size HB.out) : _ ≤ aa))
              have aX := Aside0.mk ((by rw [hg]; exact Nat.ne_of_lt (blk_lt (g := ab) K1.out) : ab ≠ aa))
              have aZ := Aside0.mk ((by rw [hg]; exact Nat.ne_of_gt (blk_lt (g := ab) K1.out) : aa ≠ ab))
              have a3 := Aside0.mk ((by rw [hg]; exact Nat.ne_of_lt (blk_lt (g := ac) K2.out) : ac ≠ aa))
              have aT := Aside0.mk ((by rw [hg]; exact Nat.ne_of_gt (blk_lt (g := ac) K2.out) : aa ≠ ac))
              clear al K1 K2 HB
              have al := aD; have K1 := aE; have K2 := aG; have HB := aH; have K3 := aI; have GW226 := aM; have am := aR; have N13 := aX; have N31 := aZ; have N23 := a3; have N32 := aT
              clear aD aE aG aH aI aM aR aX aZ a3 aT hb hbox hg
              refine hK.out _ _ (C8_ K1.out) (fun hHeld => ?_)
              clear hK K
              refine nm_ (some 3) ?_
              exact norm_ (by first | (simp only [putAll, Act.put, sA_, sB_, sC_]; done) | (simp only [putAll, Act.put, sA_, sB_, sC_]; rfl)) (hj9 (_, aa) _ ⟨hHeld, al.out, K1.out, K2.out, K3.out, GW226.out, am.out, N13.out, N31.out, N23.out, N32.out, (by first | exact HB.out | exact wN_ HB.out _)⟩)
           ·skip
            rintro ⟨v215, aa⟩ w14 ⟨hS_, h0_, h1_, h2_, h3_, h4_, h5_, h6_, h7_, h8_, h9_, h10_⟩
            have aD : Aside0 (Kd.R Kd.string 9 w14 w.heap.size (fun _ => True) v215 aW) := ⟨h0_⟩
            have aE : Aside0 (w14.heap[ab]? = some (.cells #[.int .i64 ah, .int .i64 ag, .int .i64 ai, .int .i64 aj, .slice av ad.length ap, .slice aw ae.length aq, .slice au af.length ar, .int .i64 ak] 24 (0, 0))) := ⟨h1_⟩
            have aG : Aside0 (w14.heap[ac]? = some (.cells zT_ 29 (0, 0))) := ⟨h2_⟩
            have aH : Aside0 (w14.heap[aa]? = some (.cells zT_ 29 (0, 0))) := ⟨h3_⟩
            have aI : Aside0 (w.heap.size ≤ aa) := ⟨h4_⟩
            have aM : Aside0 (w.heap.size ≤ aa) := ⟨h5_⟩
            have aR : Aside0 (ab ≠ aa) := ⟨h6_⟩
            have aX : Aside0 (aa ≠ ab) := ⟨h7_⟩
            have aZ : Aside0 (ac ≠ aa) := ⟨h8_⟩
            have a3 : Aside0 (aa ≠ ac) := ⟨h9_⟩
            have aT : Aside0 (Below w.heap.size w w14) := ⟨h10_⟩
            clear K1 K2 HB h0_ h1_ h2_ h3_ h4_ h5_ h6_ h7_ h8_ h9_ h10_
            have al := aD; have K1 := aE; have K2 := aG; have K3 := aH; have GW226 := aI; have am := aM; have N13 := aR; have N31 := aX; have N23 := aZ; have N32 := a3; have HB := aT
            clear aD aE aG aH aI aM aR aX aZ a3 aT
            have hHeld : SS_ ab ah ag ai aj av ad ap aw ae aq au af ar ak w14 := hS_
            obtain ⟨Ao15, co15, eo15⟩ := Kd.R_slice al.out
            (first | subst eo15 | (injection eo15 with f1_ f2_ f3_; have f4_ := f1_.symm; have f5_ := f3_.symm; clear f1_ f2_ f3_; subst f4_; subst f5_))
            refine norm_ (a' := ?_) ?_ ?_
            rotate_left
            ·simp only [putAll, Act.put, sA_, sB_, sC_]
             rfl
            refine on_ (i := 3) (N := some 16) HT_ (bl_ 15 9839) rfl rfl (fun K hK => ?_)
            refine goes_ Tryz.func32 (by kernel_rfl) rfl #[.slice Ao15 aW.length co15, .int .i64 ah] (by rfl) rfl rfl Qm ?_
            with_reducible refine (r6_Pick.calls _ _ aW ah ao _ ?side1 ?side2 A3.out).mono ?_
            (case side1 => repeat (first | exact (Kd.R_reads' al.out).2.2 | (with_reducible refine Kd.C_alloc ?_ _) | (with_reducible refine Kd.C_drewN ?_ _) | (with_reducible refine Kd.C_drew ?_)))
            (case side2 => exact (Kd.R_reads' al.out).2.1)
            rintro e w' ⟨rfl, ⟨nd, rfl⟩⟩
            refine ⟨_, rfl, ?_⟩
            refine hK.out _ _ (C8_ K1.out) (fun hHeld => ?_)
            clear hK K
            refine nm_ (some 16) ?_
            exact norm_ (by first | (simp only [putAll, Act.put, sA_, sB_, sC_]; done) | (simp only [putAll, Act.put, sA_, sB_, sC_]; rfl)) (hj7 (.slice Ao15 aW.length co15, aa) _ ⟨hHeld, al.out, K1.out, K2.out, K3.out, GW226.out, am.out, N13.out, N31.out, N23.out, N32.out, (by first | exact HB.out | exact wN_ HB.out _)⟩)
          ·skip
           rintro v215 w14 ⟨hS_, h0_, h1_, h2_, h3_⟩
           have aD : Aside0 (Kd.R Kd.string 9 w14 w.heap.size (fun _ => True) v215 aW) := ⟨h0_⟩
           have aE : Aside0 (w14.heap[ab]? = some (.cells #[.int .i64 ah, .int .i64 ag, .int .i64 ai, .int .i64 aj, .slice av ad.length ap, .slice aw ae.length aq, .slice au af.length ar, .int .i64 ak] 24 (0, 0))) := ⟨h1_⟩
           have aG : Aside0 (w14.heap[ac]? = some (.cells zT_ 29 (0, 0))) := ⟨h2_⟩
           have aH : Aside0 (Below w.heap.size w w14) := ⟨h3_⟩
           clear K1 K2 HB h0_ h1_ h2_ h3_
           have al := aD; have K1 := aE; have K2 := aG; have HB := aH
           clear aD aE aG aH
           have hHeld : SS_ ab ah ag ai aj av ad ap aw ae aq au af ar ak w14 := hS_
           refine norm_ (a' := ?_) ?_ ?_
           rotate_left
           ·simp only [putAll, Act.put, sA_, sB_, sC_]
            rfl
           refine two_ (i := 4) (j := 13) (Ni := some 17) (Nj := some 3) #[true, true, true, true, true, true, true, false, false, true, true, false, false, false, false] #[true, true, true, true, false, true, true, false, false, true, true, false, false, true, false] rfl rfl rfl rfl (two_of HT_.out (by kernel_rfl)) (by decide) (by decide) (fun K hK => ?_) (fun K hK => ?_)
           ·skip
            refine goes_ Tryz.func34 (by kernel_rfl) rfl #[] (by rfl) rfl rfl Qm ?_
            with_reducible refine (r6_scripts.calls  a0 _ A4.out).mono ?_
            rintro e w15 ⟨v219, rfl, ho0, hb⟩
            refine ⟨_, rfl, ?_⟩
            have aD := Aside0.mk (Kd.R_elder' al.out (Kd.R_base ho0) hb)
            have aE := Aside0.mk (Kd.R_lower (Kd.R_new' ho0 (Kd.R_lt al.out)) (below_size HB.out))
            have aG := Aside0.mk (blk_below (g := ab) K1.out hb)
            have aH := Aside0.mk (blk_below (g := ac) K2.out hb)
            have aI := Aside0.mk (below_step HB.out hb)
            clear al K1 K2 HB
            have al := aD; have aA := aE; have K1 := aG; have K2 := aH; have HB := aI
            clear aD aE aG aH aI
            (try clear hb); (try clear ho0)
            refine hK.out _ _ (C8_ K1.out) (fun hHeld => ?_)
            clear hK K
            refine nm_ (some 17) ?_
            exact norm_ (by first | (simp only [putAll, Act.put, sA_, sB_, sC_]; done) | (simp only [putAll, Act.put, sA_, sB_, sC_]; rfl)) (hj8 (v215, v219) _ ⟨hHeld, (by (with_reducible repeat (first | apply rA_ | apply rN_ | apply rD_)); exact Kd.R_mono al.out (fun _ hk => hk.2)), (by (with_reducible repeat (first | apply rA_ | apply rN_ | apply rD_)); exact Kd.R_mono aA.out (fun _ hk => hk.2)), K1.out, K2.out, (by first | exact HB.out | exact wN_ HB.out _)⟩)
           ·skip
            refine box_step ?hg (N := 3) ?hd (cs := #[.string (⟨#[]⟩ : ByteArray), .slice none 0 0, .string (⟨#[]⟩ : ByteArray), .string (⟨#[]⟩ : ByteArray), .slice none 0 0, .slice none 0 0, .slice none 0 0, .string (⟨#[]⟩ : ByteArray)]) (t := 29) ?hr ?_; (case hd => rfl); (case hg => rfl); (case hr => first | (go_simp; done) | (go_simp; rfl))
            intro aa hg w15 hbox hb
            have aD := Aside0.mk (Kd.R_below al.out hb)
            have aE := Aside0.mk (blk_below (g := ab) K1.out hb)
            have aG := Aside0.mk (blk_below (g := ac) K2.out hb)
            have aH := Aside0.mk (below_step HB.out hb)
            have aI := Aside0.mk (hbox)
            have aM := Aside0.mk ((by rw [hg]; exact (below_size HB.out) : _ ≤ aa))
            have aR := Aside0.mk ((by rw [hg]; exact (below_size HB.out) : _ ≤ aa))
            have aX := Aside0.mk ((by rw [hg]; exact Nat.ne_of_lt (blk_lt (g := ab) K1.out) : ab ≠ aa))
            have aZ := Aside0.mk ((by rw [hg]; exact Nat.ne_of_gt (blk_lt (g := ab) K1.out) : aa ≠ ab))
            have a3 := Aside0.mk ((by rw [hg]; exact Nat.ne_of_lt (blk_lt (g := ac) K2.out) : ac ≠ aa))
            have aT := Aside0.mk ((by rw [hg]; exact Nat.ne_of_gt (blk_lt (g := ac) K2.out) : aa ≠ ac))
            clear al K1 K2 HB
            have al := aD; have K1 := aE; have K2 := aG; have HB := aH; have K3 := aI; have GW226 := aM; have am := aR; have N13 := aX; have N31 := aZ; have N23 := a3; have N32 := aT
            clear aD aE aG aH aI aM aR aX aZ a3 aT hb hbox hg
            refine hK.out _ _ (C8_ K1.out) (fun hHeld => ?_)
            clear hK K
            refine nm_ (some 3) ?_
            exact norm_ (by first | (simp only [putAll, Act.put, sA_, sB_, sC_]; done) | (simp only [putAll, Act.put, sA_, sB_, sC_]; rfl)) (hj7 (_, aa) _ ⟨hHeld, al.out, K1.out, K2.out, K3.out, GW226.out, am.out, N13.out, N31.out, N23.out, N32.out, (by first | exact HB.out | exact wN_ HB.out _)⟩)
         ·skip
          rintro ⟨v215, aa⟩ w15 ⟨hS_, h0_, h1_, h2_, h3_, h4_, h5_, h6_, h7_, h8_, h9_, h10_⟩
          have aD : Aside0 (Kd.R Kd.string 9 w15 w.heap.size (fun _ => True) v215 aW) := ⟨h0_⟩
          have aE : Aside0 (w15.heap[ab]? = some (.cells #[.int .i64 ah, .int .i64 ag, .int .i64 ai, .int .i64 aj, .slice av ad.length ap, .slice aw ae.length aq, .slice au af.length ar, .int .i64 ak] 24 (0, 0))) := ⟨h1_⟩
          have aG : Aside0 (w15.heap[ac]? = some (.cells zT_ 29 (0, 0))) := ⟨h2_⟩
          have aH : Aside0 (w15.heap[aa]? = some (.cells zT_ 29 (0, 0))) := ⟨h3_⟩
          have aI : Aside0 (w.heap.size ≤ aa) := ⟨h4_⟩
          have aM : Aside0 (w.heap.size ≤ aa) := ⟨h5_⟩
          have aR : Aside0 (ab ≠ aa) := ⟨h6_⟩
          have aX : Aside0 (aa ≠ ab) := ⟨h7_⟩
          have aZ : Aside0 (ac ≠ aa) := ⟨h8_⟩
          have a3 : Aside0 (aa ≠ ac) := ⟨h9_⟩
          have aT : Aside0 (Below w.heap.size w w15) := ⟨h10_⟩
          clear K1 K2 HB h0_ h1_ h2_ h3_ h4_ h5_ h6_ h7_ h8_ h9_ h10_
          have al := aD; have K1 := aE; have K2 := aG; have K3 := aH; have GW226 := aI; have am := aM; have N13 := aR; have N31 := aX; have N23 := aZ; have N32 := a3; have HB := aT
          clear aD aE aG aH aI aM aR aX aZ a3 aT
          have hHeld : SS_ ab ah ag ai aj av ad ap aw ae aq au af ar ak w15 := hS_
          refine norm_ (a' := ?_) ?_ ?_
          rotate_left
          ·simp only [putAll, Act.put, sA_, sB_, sC_]
           rfl
          refine on_ (i := 4) (N := some 17) HT_ (bl_ 15 9855) rfl rfl (fun K hK => ?_)
          refine goes_ Tryz.func34 (by kernel_rfl) rfl #[] (by rfl) rfl rfl Qm ?_
          with_reducible refine (r6_scripts.calls  a0 _ A4.out).mono ?_
          rintro e w16 ⟨v219, rfl, ho0, hb⟩
          refine ⟨_, rfl, ?_⟩
          have aD := Aside0.mk (Kd.R_elder' al.out (Kd.R_base ho0) hb)
          have aE := Aside0.mk (Kd.R_lower (Kd.R_new' ho0 (Kd.R_lt al.out)) (below_size HB.out))
          have aG := Aside0.mk (blk_below (g := ab) K1.out hb)
          have aH := Aside0.mk (blk_below (g := ac) K2.out hb)
          have aI := Aside0.mk (blk_below (g := aa) K3.out hb)
          have aM := Aside0.mk (below_step HB.out hb)
          clear al K1 K2 K3 HB
          have al := aD; have aA := aE; have K1 := aG; have K2 := aH; have K3 := aI; have HB := aM
          clear aD aE aG aH aI aM
          (try clear hb); (try clear ho0)
          refine hK.out _ _ (C8_ K1.out) (fun hHeld => ?_)
          clear hK K
          refine nm_ (some 17) ?_
          exact norm_ (by first | (simp only [putAll, Act.put, sA_, sB_, sC_]; done) | (simp only [putAll, Act.put, sA_, sB_, sC_]; rfl)) (hj5 (v215, _, aa) _ ⟨hHeld, (by (with_reducible repeat (first | apply rA_ | apply rN_ | apply rD_)); exact Kd.R_mono al.out (fun _ hk => hk.2)), (by (with_reducible repeat (first | apply rA_ | apply rN_ | apply rD_)); exact Kd.R_mono aA.out (fun _ hk => hk.2)), K1.out, K2.out, K3.out, GW226.out, am.out, N13.out, N31.out, N23.out, N32.out, (by first | exact HB.out | exact wN_ HB.out _)⟩)
        ·skip
         rintro ⟨v215, v219⟩ w15 ⟨hS_, h0_, h1_, h2_, h3_, h4_⟩
         have aD : Aside0 (Kd.R Kd.string 9 w15 w.heap.size (fun k_ => some k_ ≠ (v219 : Value).ownBlock) v215 aW) := ⟨h0_⟩
         have aE : Aside0 (Kd.R Kd.string 9 w15 w.heap.size (fun k_ => some k_ ≠ (v215 : Value).ownBlock) v219 a0) := ⟨h1_⟩
         have aG : Aside0 (w15.heap[ab]? = some (.cells #[.int .i64 ah, .int .i64 ag, .int .i64 ai, .int .i64 aj, .slice av ad.length ap, .slice aw ae.length aq, .slice au af.length ar, .int .i64 ak] 24 (0, 0))) := ⟨h2_⟩
         have aH : Aside0 (w15.heap[ac]? = some (.cells zT_ 29 (0, 0))) := ⟨h3_⟩
         have aI : Aside0 (Below w.heap.size w w15) := ⟨h4_⟩
         clear K1 K2 HB h0_ h1_ h2_ h3_ h4_
         have al := aD; have aA := aE; have K1 := aG; have K2 := aH; have HB := aI
         clear aD aE aG aH aI
         have hHeld : SS_ ab ah ag ai aj av ad ap aw ae aq au af ar ak w15 := hS_
         obtain ⟨Ao16, co16, eo16⟩ := Kd.R_slice aA.out
         (first | subst eo16 | (injection eo16 with f1_ f2_ f3_; have f4_ := f1_.symm; have f5_ := f3_.symm; clear f1_ f2_ f3_; subst f4_; subst f5_))
         refine norm_ (a' := ?_) ?_ ?_
         rotate_left
         ·simp only [putAll, Act.put, sA_, sB_, sC_]
          rfl
         refine two_ (i := 7) (j := 13) (Ni := some 20) (Nj := some 3) #[true, true, true, true, true, true, true, true, false, true, true, false, false, false, false] #[true, true, true, true, true, true, true, false, false, true, true, false, false, true, false] rfl rfl rfl rfl (two_of HT_.out (by kernel_rfl)) (by decide) (by decide) (fun K hK => ?_) (fun K hK => ?_)
         ·skip
          refine goes_ Tryz.func32 (by kernel_rfl) rfl #[.slice Ao16 a0.length co16, .int .i64 ai] (by rfl) rfl rfl Qm ?_
          with_reducible refine (r6_Pick.calls _ _ a0 ai ax _ ?side1 ?side2 A5.out).mono ?_
          (case side1 => repeat (first | exact (Kd.R_reads' aA.out).2.2 | (with_reducible refine Kd.C_alloc ?_ _) | (with_reducible refine Kd.C_drewN ?_ _) | (with_reducible refine Kd.C_drew ?_)))
          (case side2 => exact (Kd.R_reads' aA.out).2.1)
          rintro e w' ⟨rfl, ⟨nd, rfl⟩⟩
          refine ⟨_, rfl, ?_⟩
          refine hK.out _ _ (C8_ K1.out) (fun hHeld => ?_)
          clear hK K
          refine nm_ (some 20) ?_
          exact norm_ (by first | (simp only [putAll, Act.put, sA_, sB_, sC_]; done) | (simp only [putAll, Act.put, sA_, sB_, sC_]; rfl)) (hj6 (v215, .slice Ao16 a0.length co16) _ ⟨hHeld, al.out, aA.out, K1.out, K2.out, (by first | exact HB.out | exact wN_ HB.out _)⟩)
         ·skip
          refine box_step ?hg (N := 3) ?hd (cs := #[.string (⟨#[]⟩ : ByteArray), .slice none 0 0, .string (⟨#[]⟩ : ByteArray), .string (⟨#[]⟩ : ByteArray), .slice none 0 0, .slice none 0 0, .slice none 0 0, .string (⟨#[]⟩ : ByteArray)]) (t := 29) ?hr ?_; (case hd => rfl); (case hg => rfl); (case hr => first | (go_simp; done) | (go_simp; rfl))
          intro aa hg w16 hbox hb
          have aD := Aside0.mk (Kd.R_below al.out hb)
          have aE := Aside0.mk (Kd.R_below aA.out hb)
          have aG := Aside0.mk (blk_below (g := ab) K1.out hb)
          have aH := Aside0.mk (blk_below (g := ac) K2.out hb)
          have aI := Aside0.mk (below_step HB.out hb)
          have aM := Aside0.mk (hbox)
          have aR := Aside0.mk ((by rw [hg]; exact (below_size HB.out) : _ ≤ aa))
          have aX := Aside0.mk ((by rw [hg]; exact (below_size HB.out) : _ ≤ aa))
          have aZ := Aside0.mk ((by rw [hg]; exact Nat.ne_of_lt (blk_lt (g := ab) K1.out) : ab ≠ aa))
          have a3 := Aside0.mk ((by rw [hg]; exact Nat.ne_of_gt (blk_lt (g := ab) K1.out) : aa ≠ ab))
          have aT := Aside0.mk ((by rw [hg]; exact Nat.ne_of_lt (blk_lt (g := ac) K2.out) : ac ≠ aa))
          have a1 := Aside0.mk ((by rw [hg]; exact Nat.ne_of_gt (blk_lt (g := ac) K2.out) : aa ≠ ac))
          clear al aA K1 K2 HB
          have al := aD; have aA := aE; have K1 := aG; have K2 := aH; have HB := aI; have K3 := aM; have GW226 := aR; have am := aX; have N13 := aZ; have N31 := a3; have N23 := aT; have N32 := a1
          clear aD aE aG aH aI aM aR aX aZ a3 aT a1 hb hbox hg
          refine hK.out _ _ (C8_ K1.out) (fun hHeld => ?_)
          clear hK K
          refine nm_ (some 3) ?_
          exact norm_ (by first | (simp only [putAll, Act.put, sA_, sB_, sC_]; done) | (simp only [putAll, Act.put, sA_, sB_, sC_]; rfl)) (hj5 (v215, _, aa) _ ⟨hHeld, al.out, aA.out, K1.out, K2.out, K3.out, GW226.out, am.out, N13.out, N31.out, N23.out, N32.out, (by first | exact HB.out | exact wN_ HB.out _)⟩)
       ·skip
        rintro ⟨v215, v219, aa⟩ w16 ⟨hS_, h0_, h1_, h2_, h3_, h4_, h5_, h6_, h7_, h8_, h9_, h10_, h11_⟩
        have aD : Aside0 (Kd.R Kd.string 9 w16 w.heap.size (fun k_ => some k_ ≠ (v219 : Value).ownBlock) v215 aW) := ⟨h0_⟩
        have aE : Aside0 (Kd.R Kd.string 9 w16 w.heap.size (fun k_ => some k_ ≠ (v215 : Value).ownBlock) v219 a0) := ⟨h1_⟩
        have aG : Aside0 (w16.heap[ab]? = some (.cells #[.int .i64 ah, .int .i64 ag, .int .i64 ai, .int .i64 aj, .slice av ad.length ap, .slice aw ae.length aq, .slice au af.length ar, .int .i64 ak] 24 (0, 0))) := ⟨h2_⟩
        have aH : Aside0 (w16.heap[ac]? = some (.cells zT_ 29 (0, 0))) := ⟨h3_⟩
        have aI : Aside0 (w16.heap[aa]? = some (.cells zT_ 29 (0, 0))) := ⟨h4_⟩
        have aM : Aside0 (w.heap.size ≤ aa) := ⟨h5_⟩
        have aR : Aside0 (w.heap.size ≤ aa) := ⟨h6_⟩
        have aX : Aside0 (ab ≠ aa) := ⟨h7_⟩
        have aZ : Aside0 (aa ≠ ab) := ⟨h8_⟩
        have a3 : Aside0 (ac ≠ aa) := ⟨h9_⟩
        have aT : Aside0 (aa ≠ ac) := ⟨h10_⟩
        have a1 : Aside0 (Below w.heap.size w w16) := ⟨h11_⟩
        clear K1 K2 HB h0_ h1_ h2_ h3_ h4_ h5_ h6_ h7_ h8_ h9_ h10_ h11_
        have al := aD; have aA := aE; have K1 := aG; have K2 := aH; have K3 := aI; have GW226 := aM; have am := aR; have N13 := aX; have N31 := aZ; have N23 := a3; have N32 := aT; have HB := a1
        clear aD aE aG aH aI aM aR aX aZ a3 aT a1
        have hHeld : SS_ ab ah ag ai aj av ad ap aw ae aq au af ar ak w16 := hS_
        obtain ⟨Ao17, co17, eo17⟩ := Kd.R_slice aA.out
        (first | subst eo17 | (injection eo17 with f1_ f2_ f3_; have f4_ := f1_.symm; have f5_ := f3_.symm; clear f1_ f2_ f3_; subst f4_; subst f5_))
        refine norm_ (a' := ?_) ?_ ?_
        rotate_left
        ·simp only [putAll, Act.put, sA_, sB_, sC_]
         rfl
        refine on_ (i := 7) (N := some 20) HT_ (bl_ 15 9983) rfl rfl (fun K hK => ?_)
        refine goes_ Tryz.func32 (by kernel_rfl) rfl #[.slice Ao17 a0.length co17, .int .i64 ai] (by rfl) rfl rfl Qm ?_
        with_reducible refine (r6_Pick.calls _ _ a0 ai ax _ ?side1 ?side2 A5.out).mono ?_
        (case side1 => repeat (first | exact (Kd.R_reads' aA.out).2.2 | (with_reducible refine Kd.C_alloc ?_ _) | (with_reducible refine Kd.C_drewN ?_ _) | (with_reducible refine Kd.C_drew ?_)))
        (case side2 => exact (Kd.R_reads' aA.out).2.1)
        rintro e w' ⟨rfl, ⟨nd, rfl⟩⟩
        refine ⟨_, rfl, ?_⟩
        refine hK.out _ _ (C8_ K1.out) (fun hHeld => ?_)
        clear hK K
        refine nm_ (some 20) ?_
        exact norm_ (by first | (simp only [putAll, Act.put, sA_, sB_, sC_]; done) | (simp only [putAll, Act.put, sA_, sB_, sC_]; rfl)) (hj3 (v215, .slice Ao17 a0.length co17, aa) _ ⟨hHeld, al.out, aA.out, K1.out, K2.out, K3.out, GW226.out, am.out, N13.out, N31.out, N23.out, N32.out, (by first | exact HB.out | exact wN_ HB.out _)⟩)
      ·skip
       rintro ⟨v215, v219⟩ w16 ⟨hS_, h0_, h1_, h2_, h3_, h4_⟩
       have aD : Aside0 (Kd.R Kd.string 9 w16 w.heap.size (fun k_ => some k_ ≠ (v219 : Value).ownBlock) v215 aW) := ⟨h0_⟩
       have aE : Aside0 (Kd.R Kd.string 9 w16 w.heap.size (fun k_ => some k_ ≠ (v215 : Value).ownBlock) v219 a0) := ⟨h1_⟩
       have aG : Aside0 (w16.heap[ab]? = some (.cells #[.int .i64 ah, .int .i64 ag, .int .i64 ai, .int .i64 aj, .slice av ad.length ap, .slice aw ae.length aq, .slice au af.length ar, .int .i64 ak] 24 (0, 0))) := ⟨h2_⟩
       have aH : Aside0 (w16.heap[ac]? = some (.cells zT_ 29 (0, 0))) := ⟨h3_⟩
       have aI : Aside0 (Below w.heap.size w w16) := ⟨h4_⟩
       clear K1 K2 HB h0_ h1_ h2_ h3_ h4_
       have al := aD; have aA := aE; have K1 := aG; have K2 := aH; have HB := aI
       clear aD aE aG aH aI
       have hHeld : SS_ ab ah ag ai aj av ad ap aw ae aq au af ar ak w16 := hS_
       refine norm_ (a' := ?_) ?_ ?_
       rotate_left
       ·simp only [putAll, Act.put, sA_, sB_, sC_]
        rfl
       refine two_ (i := 8) (j := 13) (Ni := some 21) (Nj := some 3) #[true, true, true, true, true, true, true, true, true, true, true, false, false, false, false] #[true, true, true, true, true, true, true, true, false, true, true, false, false, true, false] rfl rfl rfl rfl (two_of HT_.out (by kernel_rfl)) (by decide) (by decide) (fun K hK => ?_) (fun K hK => ?_)
       ·skip
        refine goes_ Tryz.func35 (by kernel_rfl) rfl #[] (by rfl) rfl rfl Qm ?_
        with_reducible refine (r6_regions.calls  a5 _ A6.out).mono ?_
        rintro e w17 ⟨v223, rfl, ho0, hb⟩
        refine ⟨_, rfl, ?_⟩
        have aD := Aside0.mk (Kd.R_elder' al.out (Kd.R_base ho0) hb)
        have aE := Aside0.mk (Kd.R_elder' aA.out (Kd.R_base ho0) hb)
        have aG := Aside0.mk (Kd.R_lower (Kd.R_new' (Kd.R_new' ho0 (Kd.R_lt al.out)) (Kd.R_lt aA.out)) (below_size HB.out))
        have aH := Aside0.mk (blk_below (g := ab) K1.out hb)
        have aI := Aside0.mk (blk_below (g := ac) K2.out hb)
        have aM := Aside0.mk (below_step HB.out hb)
        clear al aA K1 K2 HB
        have al := aD; have aA := aE; have aU := aG; have K1 := aH; have K2 := aI; have HB := aM
        clear aD aE aG aH aI aM
        (try clear hb); (try clear ho0)
        refine hK.out _ _ (C8_ K1.out) (fun hHeld => ?_)
        clear hK K
        refine nm_ (some 21) ?_
        exact norm_ (by first | (simp only [putAll, Act.put, sA_, sB_, sC_]; done) | (simp only [putAll, Act.put, sA_, sB_, sC_]; rfl)) (hj4 (v215, v219, v223) _ ⟨hHeld, al.out, aA.out, (by (with_reducible repeat (first | apply rA_ | apply rN_ | apply rD_)); exact Kd.R_mono aU.out (fun _ hk => ⟨hk.1.2, hk.2⟩)), K1.out, K2.out, (by first | exact HB.out | exact wN_ HB.out _)⟩)
       ·skip
        refine box_step ?hg (N := 3) ?hd (cs := #[.string (⟨#[]⟩ : ByteArray), .slice none 0 0, .string (⟨#[]⟩ : ByteArray), .string (⟨#[]⟩ : ByteArray), .slice none 0 0, .slice none 0 0, .slice none 0 0, .string (⟨#[]⟩ : ByteArray)]) (t := 29) ?hr ?_; (case hd => rfl); (case hg => rfl); (case hr => first | (go_simp; done) | (go_simp; rfl))
        intro aa hg w17 hbox hb
        have aD := Aside0.mk (Kd.R_below al.out hb)
        have aE := Aside0.mk (Kd.R_below aA.out hb)
        have aG := Aside0.mk (blk_below (g := ab) K1.out hb)
        have aH := Aside0.mk (blk_below (g := ac) K2.out hb)
        have aI := Aside0.mk (below_step HB.out hb)
        have aM := Aside0.mk (hbox)
        have aR := Aside0.mk ((by rw [hg]; exact (below_size HB.out) : _ ≤ aa))
        have aX := Aside0.mk ((by rw [hg]; exact (below_size HB.out) : _ ≤ aa))
        have aZ := Aside0.mk ((by rw [hg]; exact Nat.ne_of_lt (blk_lt (g := ab) K1.out) : ab ≠ aa))
        have a3 := Aside0.mk ((by rw [hg]; exact Nat.ne_of_gt (blk_lt (g := ab) K1.out) : aa ≠ ab))
        have aT := Aside0.mk ((by rw [hg]; exact Nat.ne_of_lt (blk_lt (g := ac) K2.out) : ac ≠ aa))
        have a1 := Aside0.mk ((by rw [hg]; exact Nat.ne_of_gt (blk_lt (g := ac) K2.out) : aa ≠ ac))
        clear al aA K1 K2 HB
        have al := aD; have aA := aE; have K1 := aG; have K2 := aH; have HB := aI; have K3 := aM; have GW226 := aR; have am := aX; have N13 := aZ; have N31 := a3; have N23 := aT; have N32 := a1
        clear aD aE aG aH aI aM aR aX aZ a3 aT a1 hb hbox hg
        refine hK.out _ _ (C8_ K1.out) (fun hHeld => ?_)
        clear hK K
        refine nm_ (some 3) ?_
        exact norm_ (by first | (simp only [putAll, Act.put, sA_, sB_, sC_]; done) | (simp only [putAll, Act.put, sA_, sB_, sC_]; rfl)) (hj3 (v215, _, aa) _ ⟨hHeld, al.out, aA.out, K1.out, K2.out, K3.out, GW226.out, am.out, N13.out, N31.out, N23.out, N32.out, (by first | exact HB.out | exact wN_ HB.out _)⟩)
     ·skip
      rintro ⟨v215, v219, aa⟩ w17 ⟨hS_, h0_, h1_, h2_, h3_, h4_, h5_, h6_, h7_, h8_, h9_, h10_, h11_⟩
      have aD : Aside0 (Kd.R Kd.string 9 w17 w.heap.size (fun k_ => some k_ ≠ (v219 : Value).ownBlock) v215 aW) := ⟨h0_⟩
      have aE : Aside0 (Kd.R Kd.string 9 w17 w.heap.size (fun k_ => some k_ ≠ (v215 : Value).ownBlock) v219 a0) := ⟨h1_⟩
      have aG : Aside0 (w17.heap[ab]? = some (.cells #[.int .i64 ah, .int .i64 ag, .int .i64 ai, .int .i64 aj, .slice av ad.length ap, .slice aw ae.length aq, .slice au af.length ar, .int .i64 ak] 24 (0, 0))) := ⟨h2_⟩
      have aH : Aside0 (w17.heap[ac]? = some (.cells zT_ 29 (0, 0))) := ⟨h3_⟩
      have aI : Aside0 (w17.heap[aa]? = some (.cells zT_ 29 (0, 0))) := ⟨h4_⟩
      have aM : Aside0 (w.heap.size ≤ aa) := ⟨h5_⟩
      have aR : Aside0 (w.heap.size ≤ aa) := ⟨h6_⟩
      have aX : Aside0 (ab ≠ aa) := ⟨h7_⟩
      have aZ : Aside0 (aa ≠ ab) := ⟨h8_⟩
      have a3 : Aside0 (ac ≠ aa) := ⟨h9_⟩
      have aT : Aside0 (aa ≠ ac) := ⟨h10_⟩
      have a1 : Aside0 (Below w.heap.size w w17) := ⟨h11_⟩
      clear K1 K2 HB h0_ h1_ h2_ h3_ h4_ h5_ h6_ h7_ h8_ h9_ h10_ h11_
      have al := aD; have aA := aE; have K1 := aG; have K2 := aH; have K3 := aI; have GW226 := aM; have am := aR; have N13 := aX; have N31 := aZ; have N23 := a3; have N32 := aT; have HB := a1
      clear aD aE aG aH aI aM aR aX aZ a3 aT a1
      have hHeld : SS_ ab ah ag ai aj av ad ap aw ae aq au af ar ak w17 := hS_
      refine norm_ (a' := ?_) ?_ ?_
      rotate_left
      ·simp only [putAll, Act.put, sA_, sB_, sC_]
       rfl
      refine on_ (i := 8) (N := some 21) HT_ (bl_ 15 10239) rfl rfl (fun K hK => ?_)
      refine goes_ Tryz.func35 (by kernel_rfl) rfl #[] (by rfl) rfl rfl Qm ?_
      with_reducible refine (r6_regions.calls  a5 _ A6.out).mono ?_
      rintro e w18 ⟨v223, rfl, ho0, hb⟩
      refine ⟨_, rfl, ?_⟩
      have aD := Aside0.mk (Kd.R_elder' al.out (Kd.R_base ho0) hb)
      have aE := Aside0.mk (Kd.R_elder' aA.out (Kd.R_base ho0) hb)
      have aG := Aside0.mk (Kd.R_lower (Kd.R_new' (Kd.R_new' ho0 (Kd.R_lt al.out)) (Kd.R_lt aA.out)) (below_size HB.out))
      have aH := Aside0.mk (blk_below (g := ab) K1.out hb)
      have aI := Aside0.mk (blk_below (g := ac) K2.out hb)
      have aM := Aside0.mk (blk_below (g := aa) K3.out hb)
      have aR := Aside0.mk (below_step HB.out hb)
      clear al aA K1 K2 K3 HB
      have al := aD; have aA := aE; have aU := aG; have K1 := aH; have K2 := aI; have K3 := aM; have HB := aR
      clear aD aE aG aH aI aM aR
      (try clear hb); (try clear ho0)
      refine hK.out _ _ (C8_ K1.out) (fun hHeld => ?_)
      clear hK K
      refine nm_ (some 21) ?_
      exact norm_ (by first | (simp only [putAll, Act.put, sA_, sB_, sC_]; done) | (simp only [putAll, Act.put, sA_, sB_, sC_]; rfl)) (hj1 (v215, v219, _, aa) _ ⟨hHeld, al.out, aA.out, (by (with_reducible repeat (first | apply rA_ | apply rN_ | apply rD_)); exact Kd.R_mono aU.out (fun _ hk => ⟨hk.1.2, hk.2⟩)), K1.out, K2.out, K3.out, GW226.out, am.out, N13.out, N31.out, N23.out, N32.out, (by first | exact HB.out | exact wN_ HB.out _)⟩)
    ·skip
     rintro ⟨v215, v219, v223⟩ w17 ⟨hS_, h0_, h1_, h2_, h3_, h4_, h5_⟩
     have aD : Aside0 (Kd.R Kd.string 9 w17 w.heap.size (fun k_ => some k_ ≠ (v219 : Value).ownBlock ∧ some k_ ≠ (v223 : Value).ownBlock) v215 aW) := ⟨h0_⟩
     have aE : Aside0 (Kd.R Kd.string 9 w17 w.heap.size (fun k_ => some k_ ≠ (v215 : Value).ownBlock ∧ some k_ ≠ (v223 : Value).ownBlock) v219 a0) := ⟨h1_⟩
     have aG : Aside0 (Kd.R Kd.string 9 w17 w.heap.size (fun k_ => some k_ ≠ (v215 : Value).ownBlock ∧ some k_ ≠ (v219 : Value).ownBlock) v223 a5) := ⟨h2_⟩
     have aH : Aside0 (w17.heap[ab]? = some (.cells #[.int .i64 ah, .int .i64 ag, .int .i64 ai, .int .i64 aj, .slice av ad.length ap, .slice aw ae.length aq, .slice au af.length ar, .int .i64 ak] 24 (0, 0))) := ⟨h3_⟩
     have aI : Aside0 (w17.heap[ac]? = some (.cells zT_ 29 (0, 0))) := ⟨h4_⟩
     have aM : Aside0 (Below w.heap.size w w17) := ⟨h5_⟩
     clear K1 K2 HB h0_ h1_ h2_ h3_ h4_ h5_
     have al := aD; have aA := aE; have aU := aG; have K1 := aH; have K2 := aI; have HB := aM
     clear aD aE aG aH aI aM
     have hHeld : SS_ ab ah ag ai aj av ad ap aw ae aq au af ar ak w17 := hS_
     obtain ⟨Ao18, co18, eo18⟩ := Kd.R_slice aU.out
     (first | subst eo18 | (injection eo18 with f1_ f2_ f3_; have f4_ := f1_.symm; have f5_ := f3_.symm; clear f1_ f2_ f3_; subst f4_; subst f5_))
     refine norm_ (a' := ?_) ?_ ?_
     rotate_left
     ·simp only [putAll, Act.put, sA_, sB_, sC_]
      rfl
     refine two_ (i := 11) (j := 13) (Ni := some 24) (Nj := some 3) #[true, true, true, true, true, true, true, true, true, true, true, true, false, false, false] #[true, true, true, true, true, true, true, true, true, true, true, false, false, true, false] rfl rfl rfl rfl (two_of HT_.out (by kernel_rfl)) (by decide) (by decide) (fun K hK => ?_) (fun K hK => ?_)
     ·skip
      refine goes_ Tryz.func32 (by kernel_rfl) rfl #[.slice Ao18 a5.length co18, .int .i64 aj] (by rfl) rfl rfl Qm ?_
      with_reducible refine (r6_Pick.calls _ _ a5 aj ay _ ?side1 ?side2 A7.out).mono ?_
      (case side1 => repeat (first | exact (Kd.R_reads' aU.out).2.2 | (with_reducible refine Kd.C_alloc ?_ _) | (with_reducible refine Kd.C_drewN ?_ _) | (with_reducible refine Kd.C_drew ?_)))
      (case side2 => exact (Kd.R_reads' aU.out).2.1)
      rintro e w' ⟨rfl, ⟨nd, rfl⟩⟩
      refine ⟨_, rfl, ?_⟩
      refine hK.out _ _ (C8_ K1.out) (fun hHeld => ?_)
      clear hK K
      refine nm_ (some 24) ?_
      refine pu_ (i := 12) (N := some 25) HT_ (bl_ 15 8191) ?_
      exact norm_ (by first | (simp only [putAll, Act.put, sA_, sB_, sC_]; done) | (simp only [putAll, Act.put, sA_, sB_, sC_]; rfl)) (hj2 (v215, v219, .slice Ao18 a5.length co18) _ ⟨hHeld, al.out, aA.out, aU.out, K1.out, K2.out, (by first | exact HB.out | exact wN_ HB.out _)⟩)
     ·skip
      refine box_step ?hg (N := 3) ?hd (cs := #[.string (⟨#[]⟩ : ByteArray), .slice none 0 0, .string (⟨#[]⟩ : ByteArray), .string (⟨#[]⟩ : ByteArray), .slice none 0 0, .slice none 0 0, .slice none 0 0, .string (⟨#[]⟩ : ByteArray)]) (t := 29) ?hr ?_; (case hd => rfl); (case hg => rfl); (case hr => first | (go_simp; done) | (go_simp; rfl))
      intro aa hg w18 hbox hb
      have aD := Aside0.mk (Kd.R_below al.out hb)
      have aE := Aside0.mk (Kd.R_below aA.out hb)
      have aG := Aside0.mk (Kd.R_below aU.out hb)
      have aH := Aside0.mk (blk_below (g := ab) K1.out hb)
      have aI := Aside0.mk (blk_below (g := ac) K2.out hb)
      have aM := Aside0.mk (below_step HB.out hb)
      have aR := Aside0.mk (hbox)
      have aX := Aside0.mk ((by rw [hg]; exact (below_size HB.out) : _ ≤ aa))
      have aZ := Aside0.mk ((by rw [hg]; exact (below_size HB.out) : _ ≤ aa))
      have a3 := Aside0.mk ((by rw [hg]; exact Nat.ne_of_lt (blk_lt (g := ab) K1.out) : ab ≠ aa))
      have aT := Aside0.mk ((by rw [hg]; exact Nat.ne_of_gt (blk_lt (g := ab) K1.out) : aa ≠ ab))
      have a1 := Aside0.mk ((by rw [hg]; exact Nat.ne_of_lt (blk_lt (g := ac) K2.out) : ac ≠ aa))
      have a8 := Aside0.mk ((by rw [hg]; exact Nat.ne_of_gt (blk_lt (g := ac) K2.out) : aa ≠ ac))
      clear al aA aU K1 K2 HB
      have al := aD; have aA := aE; have aU := aG; have K1 := aH; have K2 := aI; have HB := aM; have K3 := aR; have GW226 := aX; have am := aZ; have N13 := a3; have N31 := aT; have N23 := a1; have N32 := a8
      clear aD aE aG aH aI aM aR aX aZ a3 aT a1 a8 hb hbox hg
      refine hK.out _ _ (C8_ K1.out) (fun hHeld => ?_)
      clear hK K
      refine nm_ (some 3) ?_
      exact norm_ (by first | (simp only [putAll, Act.put, sA_, sB_, sC_]; done) | (simp only [putAll, Act.put, sA_, sB_, sC_]; rfl)) (hj1 (v215, v219, _, aa) _ ⟨hHeld, al.out, aA.out, aU.out, K1.out, K2.out, K3.out, GW226.out, am.out, N13.out, N31.out, N23.out, N32.out, (by first | exact HB.out | exact wN_ HB.out _)⟩)
   ·skip
    rintro ⟨v215, v219, v223, aa⟩ w18 ⟨hS_, h0_, h1_, h2_, h3_, h4_, h5_, h6_, h7_, h8_, h9_, h10_, h11_, h12_⟩
    have aD : Aside0 (Kd.R Kd.string 9 w18 w.heap.size (fun k_ => some k_ ≠ (v219 : Value).ownBlock ∧ some k_ ≠ (v223 : Value).ownBlock) v215 aW) := ⟨h0_⟩
    have aE : Aside0 (Kd.R Kd.string 9 w18 w.heap.size (fun k_ => some k_ ≠ (v215 : Value).ownBlock ∧ some k_ ≠ (v223 : Value).ownBlock) v219 a0) := ⟨h1_⟩
    have aG : Aside0 (Kd.R Kd.string 9 w18 w.heap.size (fun k_ => some k_ ≠ (v215 : Value).ownBlock ∧ some k_ ≠ (v219 : Value).ownBlock) v223 a5) := ⟨h2_⟩
    have aH : Aside0 (w18.heap[ab]? = some (.cells #[.int .i64 ah, .int .i64 ag, .int .i64 ai, .int .i64 aj, .slice av ad.length ap, .slice aw ae.length aq, .slice au af.length ar, .int .i64 ak] 24 (0, 0))) := ⟨h3_⟩
    have aI : Aside0 (w18.heap[ac]? = some (.cells zT_ 29 (0, 0))) := ⟨h4_⟩
    have aM : Aside0 (w18.heap[aa]? = some (.cells zT_ 29 (0, 0))) := ⟨h5_⟩
    have aR : Aside0 (w.heap.size ≤ aa) := ⟨h6_⟩
    have aX : Aside0 (w.heap.size ≤ aa) := ⟨h7_⟩
    have aZ : Aside0 (ab ≠ aa) := ⟨h8_⟩
    have a3 : Aside0 (aa ≠ ab) := ⟨h9_⟩
    have aT : Aside0 (ac ≠ aa) := ⟨h10_⟩
    have a1 : Aside0 (aa ≠ ac) := ⟨h11_⟩
    have a8 : Aside0 (Below w.heap.size w w18) := ⟨h12_⟩
    clear K1 K2 HB h0_ h1_ h2_ h3_ h4_ h5_ h6_ h7_ h8_ h9_ h10_ h11_ h12_
    have al := aD; have aA := aE; have aU := aG; have K1 := aH; have K2 := aI; have K3 := aM; have GW226 := aR; have am := aX; have N13 := aZ; have N31 := a3; have N23 := aT; have N32 := a1; have HB := a8
    clear aD aE aG aH aI aM aR aX aZ a3 aT a1 a8
    have hHeld : SS_ ab ah ag ai aj av ad ap aw ae aq au af ar ak w18 := hS_
    obtain ⟨Ao19, co19, eo19⟩ := Kd.R_slice aU.out
    (first | subst eo19 | (injection eo19 with f1_ f2_ f3_; have f4_ := f1_.symm; have f5_ := f3_.symm; clear f1_ f2_ f3_; subst f4_; subst f5_))
    refine norm_ (a' := ?_) ?_ ?_
    rotate_left
    ·simp only [putAll, Act.put, sA_, sB_, sC_]
     rfl
    refine on_ (i := 11) (N := some 24) HT_ (bl_ 15 12287) rfl rfl (fun K hK => ?_)
    refine goes_ Tryz.func32 (by kernel_rfl) rfl #[.slice Ao19 a5.length co19, .int .i64 aj] (by rfl) rfl rfl Qm ?_
    with_reducible refine (r6_Pick.calls _ _ a5 aj ay _ ?side1 ?side2 A7.out).mono ?_
    (case side1 => repeat (first | exact (Kd.R_reads' aU.out).2.2 | (with_reducible refine Kd.C_alloc ?_ _) | (with_reducible refine Kd.C_drewN ?_ _) | (with_reducible refine Kd.C_drew ?_)))
    (case side2 => exact (Kd.R_reads' aU.out).2.1)
    rintro e w' ⟨rfl, ⟨nd, rfl⟩⟩
    refine ⟨_, rfl, ?_⟩
    refine hK.out _ _ (C8_ K1.out) (fun hHeld => ?_)
    clear hK K
    refine nm_ (some 24) ?_
    refine pu_ (i := 12) (N := some 25) HT_ (bl_ 15 16383) ?_
    exact norm_ (by first | (simp only [putAll, Act.put, sA_, sB_, sC_]; done) | (simp only [putAll, Act.put, sA_, sB_, sC_]; rfl)) (hj0 (v215, v219, .slice Ao19 a5.length co19, aa) _ ⟨hHeld, al.out, aA.out, aU.out, K1.out, K2.out, K3.out, GW226.out, am.out, N13.out, N31.out, N23.out, N32.out, (by first | exact HB.out | exact wN_ HB.out _)⟩)
  ·skip
   rintro ⟨v215, v219, v223⟩ w18 ⟨hS_, h0_, h1_, h2_, h3_, h4_, h5_⟩
   have aD : Aside0 (Kd.R Kd.string 9 w18 w.heap.size (fun k_ => some k_ ≠ (v219 : Value).ownBlock ∧ some k_ ≠ (v223 : Value).ownBlock) v215 aW) := ⟨h0_⟩
   have aE : Aside0 (Kd.R Kd.string 9 w18 w.heap.size (fun k_ => some k_ ≠ (v215 : Value).ownBlock ∧ some k_ ≠ (v223 : Value).ownBlock) v219 a0) := ⟨h1_⟩
   have aG : Aside0 (Kd.R Kd.string 9 w18 w.heap.size (fun k_ => some k_ ≠ (v215 : Value).ownBlock ∧ some k_ ≠ (v219 : Value).ownBlock) v223 a5) := ⟨h2_⟩
   have aH : Aside0 (w18.heap[ab]? = some (.cells #[.int .i64 ah, .int .i64 ag, .int .i64 ai, .int .i64 aj, .slice av ad.length ap, .slice aw ae.length aq, .slice au af.length ar, .int .i64 ak] 24 (0, 0))) := ⟨h3_⟩
   have aI : Aside0 (w18.heap[ac]? = some (.cells zT_ 29 (0, 0))) := ⟨h4_⟩
   have aM : Aside0 (Below w.heap.size w w18) := ⟨h5_⟩
   clear K1 K2 HB h0_ h1_ h2_ h3_ h4_ h5_
   have al := aD; have aA := aE; have aU := aG; have K1 := aH; have K2 := aI; have HB := aM
   clear aD aE aG aH aI aM
   have hHeld : SS_ ab ah ag ai aj av ad ap aw ae aq au af ar ak w18 := hS_
   refine norm_ (a' := ?_) ?_ ?_
   rotate_left
   ·simp only [putAll, Act.put, sA_, sB_, sC_]
    rfl
   refine on_ (i := 13) (N := some 3) HT_ (bl_ 15 16383) rfl rfl (fun K hK => ?_)
   refine box_step ?hg (N := 3) ?hd (cs := #[.string (⟨#[]⟩ : ByteArray), .slice none 0 0, .string (⟨#[]⟩ : ByteArray), .string (⟨#[]⟩ : ByteArray), .slice none 0 0, .slice none 0 0, .slice none 0 0, .string (⟨#[]⟩ : ByteArray)]) (t := 29) ?hr ?_; (case hd => rfl); (case hg => rfl); (case hr => first | (go_simp; done) | (go_simp; rfl))
   intro aa hg w19 hbox hb
   have aD := Aside0.mk (Kd.R_below al.out hb)
   have aE := Aside0.mk (Kd.R_below aA.out hb)
   have aG := Aside0.mk (Kd.R_below aU.out hb)
   have aH := Aside0.mk (blk_below (g := ab) K1.out hb)
   have aI := Aside0.mk (blk_below (g := ac) K2.out hb)
   have aM := Aside0.mk (below_step HB.out hb)
   have aR := Aside0.mk (hbox)
   have aX := Aside0.mk ((by rw [hg]; exact (below_size HB.out) : _ ≤ aa))
   have aZ := Aside0.mk ((by rw [hg]; exact (below_size HB.out) : _ ≤ aa))
   have a3 := Aside0.mk ((by rw [hg]; exact Nat.ne_of_lt (blk_lt (g := ab) K1.out) : ab ≠ aa))
   have aT := Aside0.mk ((by rw [hg]; exact Nat.ne_of_gt (blk_lt (g := ab) K1.out) : aa ≠ ab))
   have a1 := Aside0.mk ((by rw [hg]; exact Nat.ne_of_lt (blk_lt (g := ac) K2.out) : ac ≠ aa))
   have a8 := Aside0.mk ((by rw [hg]; exact Nat.ne_of_gt (blk_lt (g := ac) K2.out) : aa ≠ ac))
   clear al aA aU K1 K2 HB
   have al := aD; have aA := aE; have aU := aG; have K1 := aH; have K2 := aI; have HB := aM; have K3 := aR; have GW226 := aX; have am := aZ; have N13 := a3; have N31 := aT; have N23 := a1; have N32 := a8
   clear aD aE aG aH aI aM aR aX aZ a3 aT a1 a8 hb hbox hg
   refine hK.out _ _ (C8_ K1.out) (fun hHeld => ?_)
   clear hK K
   refine nm_ (some 3) ?_
   exact norm_ (by first | (simp only [putAll, Act.put, sA_, sB_, sC_]; done) | (simp only [putAll, Act.put, sA_, sB_, sC_]; rfl)) (hj0 (v215, v219, _, aa) _ ⟨hHeld, al.out, aA.out, aU.out, K1.out, K2.out, K3.out, GW226.out, am.out, N13.out, N31.out, N23.out, N32.out, (by first | exact HB.out | exact wN_ HB.out _)⟩)
 rintro ⟨v215, v219, v223, aa⟩ w19 ⟨hS_, h0_, h1_, h2_, h3_, h4_, h5_, h6_, h7_, h8_, h9_, h10_, h11_, h12_⟩
 have aD : Aside0 (Kd.R Kd.string 9 w19 w.heap.size (fun k_ => some k_ ≠ (v219 : Value).ownBlock ∧ some k_ ≠ (v223 : Value).ownBlock) v215 aW) := ⟨h0_⟩
 have aE : Aside0 (Kd.R Kd.string 9 w19 w.heap.size (fun k_ => some k_ ≠ (v215 : Value).ownBlock ∧ some k_ ≠ (v223 : Value).ownBlock) v219 a0) := ⟨h1_⟩
 have aG : Aside0 (Kd.R Kd.string 9 w19 w.heap.size (fun k_ => some k_ ≠ (v215 : Value).ownBlock ∧ some k_ ≠ (v219 : Value).ownBlock) v223 a5) := ⟨h2_⟩
 have aH : Aside0 (w19.heap[ab]? = some (.cells #[.int .i64 ah, .int .i64 ag, .int .i64 ai, .int .i64 aj, .slice av ad.length ap, .slice aw ae.length aq, .slice au af.length ar, .int .i64 ak] 24 (0, 0))) := ⟨h3_⟩
 have aI : Aside0 (w19.heap[ac]? = some (.cells zT_ 29 (0, 0))) := ⟨h4_⟩
 have aM : Aside0 (w19.heap[aa]? = some (.cells zT_ 29 (0, 0))) := ⟨h5_⟩
 have aR : Aside0 (w.heap.size ≤ aa) := ⟨h6_⟩
 have aX : Aside0 (w.heap.size ≤ aa) := ⟨h7_⟩
 have aZ : Aside0 (ab ≠ aa) := ⟨h8_⟩
 have a3 : Aside0 (aa ≠ ab) := ⟨h9_⟩
 have aT : Aside0 (ac ≠ aa) := ⟨h10_⟩
 have a1 : Aside0 (aa ≠ ac) := ⟨h11_⟩
 have a8 : Aside0 (Below w.heap.size w w19) := ⟨h12_⟩
 clear K1 K2 HB h0_ h1_ h2_ h3_ h4_ h5_ h6_ h7_ h8_ h9_ h10_ h11_ h12_
 have al := aD; have aA := aE; have aU := aG; have K1 := aH; have K2 := aI; have K3 := aM; have GW226 := aR; have am := aX; have N13 := aZ; have N31 := a3; have N23 := aT; have N32 := a1; have HB := a8
 clear aD aE aG aH aI aM aR aX aZ a3 aT a1 a8
 have hHeld : SS_ ab ah ag ai aj av ad ap aw ae aq au af ar ak w19 := hS_
 refine norm_ (a' := ?_) ?_ ?_
 rotate_left
 ·simp only [putAll, Act.put, sA_, sB_, sC_]
  rfl
 refine on_ (i := 14) (N := none) HT_ (bl_ 15 32767) rfl rfl (fun K hK => ?_)
 have hs20 : w19.cell? ⟨aa, 0, none⟩ = some (.string (⟨#[]⟩ : ByteArray)) := (bC_ K3.out 0).trans rfl
 have hfs20 := bF_ K3.out 0
 have hns20_0 := N13.out
 have hns20_1 := N23.out
 have hms20_0 := N31.out
 have hms20_1 := N32.out
 have hs21 : w19.cell? ⟨aa, 1, none⟩ = some (.slice none 0 0) := (bC_ K3.out 1).trans rfl
 have hfs21 := bF_ K3.out 1
 have hns21_0 := N13.out
 have hns21_1 := N23.out
 have hms21_0 := N31.out
 have hms21_1 := N32.out
 have hs22 : w19.cell? ⟨aa, 2, none⟩ = some (.string (⟨#[]⟩ : ByteArray)) := (bC_ K3.out 2).trans rfl
 have hfs22 := bF_ K3.out 2
 have hns22_0 := N13.out
 have hns22_1 := N23.out
 have hms22_0 := N31.out
 have hms22_1 := N32.out
 have hs23 : w19.cell? ⟨aa, 3, none⟩ = some (.string (⟨#[]⟩ : ByteArray)) := (bC_ K3.out 3).trans rfl
 have hfs23 := bF_ K3.out 3
 have hns23_0 := N13.out
 have hns23_1 := N23.out
 have hms23_0 := N31.out
 have hms23_1 := N32.out
 have hs24 : w19.cell? ⟨aa, 4, none⟩ = some (.slice none 0 0) := (bC_ K3.out 4).trans rfl
 have hfs24 := bF_ K3.out 4
 have hns24_0 := N13.out
 have hns24_1 := N23.out
 have hms24_0 := N31.out
 have hms24_1 := N32.out
 have hs25 : w19.cell? ⟨aa, 5, none⟩ = some (.slice none 0 0) := (bC_ K3.out 5).trans rfl
 have hfs25 := bF_ K3.out 5
 have hns25_0 := N13.out
 have hns25_1 := N23.out
 have hms25_0 := N31.out
 have hms25_1 := N32.out
 have hs26 : w19.cell? ⟨aa, 6, none⟩ = some (.slice none 0 0) := (bC_ K3.out 6).trans rfl
 have hfs26 := bF_ K3.out 6
 have hns26_0 := N13.out
 have hns26_1 := N23.out
 have hms26_0 := N31.out
 have hms26_1 := N32.out
 have hs27 : w19.cell? ⟨aa, 7, none⟩ = some (.string (⟨#[]⟩ : ByteArray)) := (bC_ K3.out 7).trans rfl
 have hfs27 := bF_ K3.out 7
 have hns27_0 := N13.out
 have hns27_1 := N23.out
 have hms27_0 := N31.out
 have hms27_1 := N32.out
 refine skip_ (w1 := ?_) (by rfl) rfl ?_ ?_
 rotate_left
 ·go_simp
  rfl
 refine hK.out _ _ ⟨((cell_far (p := ⟨aa, _, none⟩) N13.out _).trans (((cell_far (p := ⟨aa, _, none⟩) N13.out _).trans (((cell_far (p := ⟨aa, _, none⟩) N13.out _).trans (((cell_far (p := ⟨aa, _, none⟩) N13.out _).trans (((cell_far (p := ⟨aa, _, none⟩) N13.out _).trans (((cell_far (p := ⟨aa, _, none⟩) N13.out _).trans (((cell_far (p := ⟨aa, _, none⟩) N13.out _).trans (((cell_far (p := ⟨aa, _, none⟩) N13.out _).trans (hHeld.1)))))))))))))))), ((cell_far (p := ⟨aa, _, none⟩) N13.out _).trans (((cell_far (p := ⟨aa, _, none⟩) N13.out _).trans (((cell_far (p := ⟨aa, _, none⟩) N13.out _).trans (((cell_far (p := ⟨aa, _, none⟩) N13.out _).trans (((cell_far (p := ⟨aa, _, none⟩) N13.out _).trans (((cell_far (p := ⟨aa, _, none⟩) N13.out _).trans (((cell_far (p := ⟨aa, _, none⟩) N13.out _).trans (((cell_far (p := ⟨aa, _, none⟩) N13.out _).trans (hHeld.2.1)))))))))))))))), ((cell_far (p := ⟨aa, _, none⟩) N13.out _).trans (((cell_far (p := ⟨aa, _, none⟩) N13.out _).trans (((cell_far (p := ⟨aa, _, none⟩) N13.out _).trans (((cell_far (p := ⟨aa, _, none⟩) N13.out _).trans (((cell_far (p := ⟨aa, _, none⟩) N13.out _).trans (((cell_far (p := ⟨aa, _, none⟩) N13.out _).trans (((cell_far (p := ⟨aa, _, none⟩) N13.out _).trans (((cell_far (p := ⟨aa, _, none⟩) N13.out _).trans (hHeld.2.2.1)))))))))))))))), ((cell_far (p := ⟨aa, _, none⟩) N13.out _).trans (((cell_far (p := ⟨aa, _, none⟩) N13.out _).trans (((cell_far (p := ⟨aa, _, none⟩) N13.out _).trans (((cell_far (p := ⟨aa, _, none⟩) N13.out _).trans (((cell_far (p := ⟨aa, _, none⟩) N13.out _).trans (((cell_far (p := ⟨aa, _, none⟩) N13.out _).trans (((cell_far (p := ⟨aa, _, none⟩) N13.out _).trans (((cell_far (p := ⟨aa, _, none⟩) N13.out _).trans (hHeld.2.2.2.1)))))))))))))))), ((cell_far (p := ⟨aa, _, none⟩) N13.out _).trans (((cell_far (p := ⟨aa, _, none⟩) N13.out _).trans (((cell_far (p := ⟨aa, _, none⟩) N13.out _).trans (((cell_far (p := ⟨aa, _, none⟩) N13.out _).trans (((cell_far (p := ⟨aa, _, none⟩) N13.out _).trans (((cell_far (p := ⟨aa, _, none⟩) N13.out _).trans (((cell_far (p := ⟨aa, _, none⟩) N13.out _).trans (((cell_far (p := ⟨aa, _, none⟩) N13.out _).trans (hHeld.2.2.2.2.1)))))))))))))))), ((cell_far (p := ⟨aa, _, none⟩) N13.out _).trans (((cell_far (p := ⟨aa, _, none⟩) N13.out _).trans (((cell_far (p := ⟨aa, _, none⟩) N13.out _).trans (((cell_far (p := ⟨aa, _, none⟩) N13.out _).trans (((cell_far (p := ⟨aa, _, none⟩) N13.out _).trans (((cell_far (p := ⟨aa, _, none⟩) N13.out _).trans (((cell_far (p := ⟨aa, _, none⟩) N13.out _).trans (((cell_far (p := ⟨aa, _, none⟩) N13.out _).trans (hHeld.2.2.2.2.2.1)))))))))))))))), ((cell_far (p := ⟨aa, _, none⟩) N13.out _).trans (((cell_far (p := ⟨aa, _, none⟩) N13.out _).trans (((cell_far (p := ⟨aa, _, none⟩) N13.out _).trans (((cell_far (p := ⟨aa, _, none⟩) N13.out _).trans (((cell_far (p := ⟨aa, _, none⟩) N13.out _).trans (((cell_far (p := ⟨aa, _, none⟩) N13.out _).trans (((cell_far (p := ⟨aa, _, none⟩) N13.out _).trans (((cell_far (p := ⟨aa, _, none⟩) N13.out _).trans (hHeld.2.2.2.2.2.2.1)))))))))))))))), ((cell_far (p := ⟨aa, _, none⟩) N13.out _).trans (((cell_far (p := ⟨aa, _, none⟩) N13.out _).trans (((cell_far (p := ⟨aa, _, none⟩) N13.out _).trans (((cell_far (p := ⟨aa, _, none⟩) N13.out _).trans (((cell_far (p := ⟨aa, _, none⟩) N13.out _).trans (((cell_far (p := ⟨aa, _, none⟩) N13.out _).trans (((cell_far (p := ⟨aa, _, none⟩) N13.out _).trans (((cell_far (p := ⟨aa, _, none⟩) N13.out _).trans (hHeld.2.2.2.2.2.2.2))))))))))))))))⟩ (fun hHeld => ?_)
 clear hK K
 refine done_ (done_of HT_.out (by kernel_rfl)) ?_
 go_upto_region 2 with (fail)
 go_cut [35] (fun v35 wc => ∃ (kq : Nat) (bz : Bool), v35 = .bool bz ∧ Aside0 (mD.j0 kq bz ah ag ai aj ad ae af ak ao ax ay (⟨#[]⟩ : ByteArray) = some (r1, r2, r3, r4, r5, r6, r7, r8)) ∧ Aside0 (kq ≤ k) ∧ Aside0 (wc.heap[ab]? = some (.cells #[.int .i64 ah, .int .i64 ag, .int .i64 ai, .int .i64 aj, (.slice av ad.length ap), (.slice aw ae.length aq), (.slice au af.length ar), .int .i64 ak] 24 (0, 0))) ∧ Aside0 (wc.heap[ac]? = some (.cells zT_ 29 (0, 0))) ∧ Aside0 (wc.heap[aa]? = some (.cells #[.string ao, (.slice none 0 0), .string ax, .string ay, (.slice none 0 0), (.slice none 0 0), (.slice none 0 0), .string (⟨#[]⟩ : ByteArray)] 29 (0, 0))) ∧ Aside0 (Below w.heap.size w wc))
 case first =>
  have H := dr.out
  clear dr
  by_cases c28 : (ao.size : Int) ≤ 3
  ·rw [if_pos c28] at H
   have bg : decide ((ao.size : Int) ≤ 3) = true := decide_eq_true c28
   have bC : decide (ao.size ≤ 3) = true := decide_eq_true (by omega)
   clear c28
   (first | rw [bg] | rw [bC] | (simp only [i64_w, i32_w]; rw [bg]) | skip)
   have H' := Aside0.mk H
   clear H
   have hnb29 := N31.out
   have hnc29 := N13.out
   have hnb30 := N32.out
   have hnc30 := N23.out
   obtain ⟨eP, eQ, eR, eS, eT, eU, eV, eW, f31_0, f31_1, f31_2, f31_3, f31_4, f31_5, f31_6, f31_7⟩ := cells8 K3.out
   have hnb32 := N12.out
   have hnc32 := N21.out
   obtain ⟨cN, cO, cP, cQ, cR, cS, cT, cU, f33_0, f33_1, f33_2, f33_3, f33_4, f33_5, f33_6, f33_7⟩ := cells8 K1.out
   go_wp2
   go_meet
   case rel => exact ⟨_, (((Int.tmod ag 4) == 1)), Qs, H', ⟨by first | omega | exact Nat.le_refl _⟩, ⟨by (with_reducible repeat (first | refine bN_ ?_ _ | refine bD_ ?_ | refine bA_ ?_ _)); refine blk_far ?_ N13.out _; (with_reducible repeat (first | refine bN_ ?_ _ | refine bD_ ?_ | refine bA_ ?_ _)); refine blk_far ?_ N13.out _; (with_reducible repeat (first | refine bN_ ?_ _ | refine bD_ ?_ | refine bA_ ?_ _)); refine blk_far ?_ N13.out _; (with_reducible repeat (first | refine bN_ ?_ _ | refine bD_ ?_ | refine bA_ ?_ _)); refine blk_far ?_ N13.out _; (with_reducible repeat (first | refine bN_ ?_ _ | refine bD_ ?_ | refine bA_ ?_ _)); refine blk_far ?_ N13.out _; (with_reducible repeat (first | refine bN_ ?_ _ | refine bD_ ?_ | refine bA_ ?_ _)); refine blk_far ?_ N13.out _; (with_reducible repeat (first | refine bN_ ?_ _ | refine bD_ ?_ | refine bA_ ?_ _)); refine blk_far ?_ N13.out _; (with_reducible repeat (first | refine bN_ ?_ _ | refine bD_ ?_ | refine bA_ ?_ _)); refine blk_far ?_ N13.out _; (with_reducible repeat (first | refine bN_ ?_ _ | refine bD_ ?_ | refine bA_ ?_ _)); exact K1.out⟩, ⟨by (with_reducible repeat (first | refine bN_ ?_ _ | refine bD_ ?_ | refine bA_ ?_ _)); refine blk_far ?_ N23.out _; (with_reducible repeat (first | refine bN_ ?_ _ | refine bD_ ?_ | refine bA_ ?_ _)); refine blk_far ?_ N23.out _; (with_reducible repeat (first | refine bN_ ?_ _ | refine bD_ ?_ | refine bA_ ?_ _)); refine blk_far ?_ N23.out _; (with_reducible repeat (first | refine bN_ ?_ _ | refine bD_ ?_ | refine bA_ ?_ _)); refine blk_far ?_ N23.out _; (with_reducible repeat (first | refine bN_ ?_ _ | refine bD_ ?_ | refine bA_ ?_ _)); refine blk_far ?_ N23.out _; (with_reducible repeat (first | refine bN_ ?_ _ | refine bD_ ?_ | refine bA_ ?_ _)); refine blk_far ?_ N23.out _; (with_reducible repeat (first | refine bN_ ?_ _ | refine bD_ ?_ | refine bA_ ?_ _)); refine blk_far ?_ N23.out _; (with_reducible repeat (first | refine bN_ ?_ _ | refine bD_ ?_ | refine bA_ ?_ _)); refine blk_far ?_ N23.out _; (with_reducible repeat (first | refine bN_ ?_ _ | refine bD_ ?_ | refine bA_ ?_ _)); exact K2.out⟩, ⟨by (with_reducible repeat (first | refine bN_ ?_ _ | refine bD_ ?_ | refine bA_ ?_ _)); refine blk_put (cs := #[.string ao, .slice none 0 0, .string ax, .string ay, .slice none 0 0, .slice none 0 0, .slice none 0 0, .string (⟨#[]⟩ : ByteArray)]) ?_ 7 _ rfl; (with_reducible repeat (first | refine bN_ ?_ _ | refine bD_ ?_ | refine bA_ ?_ _)); refine blk_put (cs := #[.string ao, .slice none 0 0, .string ax, .string ay, .slice none 0 0, .slice none 0 0, .slice none 0 0, .string (⟨#[]⟩ : ByteArray)]) ?_ 6 _ rfl; (with_reducible repeat (first | refine bN_ ?_ _ | refine bD_ ?_ | refine bA_ ?_ _)); refine blk_put (cs := #[.string ao, .slice none 0 0, .string ax, .string ay, .slice none 0 0, .slice none 0 0, .slice none 0 0, .string (⟨#[]⟩ : ByteArray)]) ?_ 5 _ rfl; (with_reducible repeat (first | refine bN_ ?_ _ | refine bD_ ?_ | refine bA_ ?_ _)); refine blk_put (cs := #[.string ao, .slice none 0 0, .string ax, .string ay, .slice none 0 0, .slice none 0 0, .slice none 0 0, .string (⟨#[]⟩ : ByteArray)]) ?_ 4 _ rfl; (with_reducible repeat (first | refine bN_ ?_ _ | refine bD_ ?_ | refine bA_ ?_ _)); refine blk_put (cs := #[.string ao, .slice none 0 0, .string ax, .string (⟨#[]⟩ : ByteArray), .slice none 0 0, .slice none 0 0, .slice none 0 0, .string (⟨#[]⟩ : ByteArray)]) ?_ 3 _ rfl; (with_reducible repeat (first | refine bN_ ?_ _ | refine bD_ ?_ | refine bA_ ?_ _)); refine blk_put (cs := #[.string ao, .slice none 0 0, .string (⟨#[]⟩ : ByteArray), .string (⟨#[]⟩ : ByteArray), .slice none 0 0, .slice none 0 0, .slice none 0 0, .string (⟨#[]⟩ : ByteArray)]) ?_ 2 _ rfl; (with_reducible repeat (first | refine bN_ ?_ _ | refine bD_ ?_ | refine bA_ ?_ _)); refine blk_put (cs := #[.string ao, .slice none 0 0, .string (⟨#[]⟩ : ByteArray), .string (⟨#[]⟩ : ByteArray), .slice none 0 0, .slice none 0 0, .slice none 0 0, .string (⟨#[]⟩ : ByteArray)]) ?_ 1 _ rfl; (with_reducible repeat (first | refine bN_ ?_ _ | refine bD_ ?_ | refine bA_ ?_ _)); refine blk_put (cs := #[.string (⟨#[]⟩ : ByteArray), .slice none 0 0, .string (⟨#[]⟩ : ByteArray), .string (⟨#[]⟩ : ByteArray), .slice none 0 0, .slice none 0 0, .slice none 0 0, .string (⟨#[]⟩ : ByteArray)]) ?_ 0 _ rfl; (with_reducible repeat (first | refine bN_ ?_ _ | refine bD_ ?_ | refine bA_ ?_ _)); exact K3.out⟩, ⟨Qz HB.out az.out aC.out am.out⟩⟩
  ·rw [if_neg c28] at H
   have bg : decide ((ao.size : Int) ≤ 3) = false := decide_eq_false c28
   have bC : decide (ao.size ≤ 3) = false := decide_eq_false (by omega)
   clear c28
   (first | rw [bg] | rw [bC] | (simp only [i64_w, i32_w]; rw [bg]) | skip)
   have H' := Aside0.mk H
   clear H
   have hnb34 := N31.out
   have hnc34 := N13.out
   have hnb35 := N32.out
   have hnc35 := N23.out
   obtain ⟨eX, eY, eZ, e0, e1, e2, e3, e4, f36_0, f36_1, f36_2, f36_3, f36_4, f36_5, f36_6, f36_7⟩ := cells8 K3.out
   go_wp2
   go_meet
   case rel => exact ⟨_, (false), Qs, H', ⟨by first | omega | exact Nat.le_refl _⟩, ⟨by (with_reducible repeat (first | refine bN_ ?_ _ | refine bD_ ?_ | refine bA_ ?_ _)); refine blk_far ?_ N13.out _; (with_reducible repeat (first | refine bN_ ?_ _ | refine bD_ ?_ | refine bA_ ?_ _)); refine blk_far ?_ N13.out _; (with_reducible repeat (first | refine bN_ ?_ _ | refine bD_ ?_ | refine bA_ ?_ _)); refine blk_far ?_ N13.out _; (with_reducible repeat (first | refine bN_ ?_ _ | refine bD_ ?_ | refine bA_ ?_ _)); refine blk_far ?_ N13.out _; (with_reducible repeat (first | refine bN_ ?_ _ | refine bD_ ?_ | refine bA_ ?_ _)); refine blk_far ?_ N13.out _; (with_reducible repeat (first | refine bN_ ?_ _ | refine bD_ ?_ | refine bA_ ?_ _)); refine blk_far ?_ N13.out _; (with_reducible repeat (first | refine bN_ ?_ _ | refine bD_ ?_ | refine bA_ ?_ _)); refine blk_far ?_ N13.out _; (with_reducible repeat (first | refine bN_ ?_ _ | refine bD_ ?_ | refine bA_ ?_ _)); refine blk_far ?_ N13.out _; (with_reducible repeat (first | refine bN_ ?_ _ | refine bD_ ?_ | refine bA_ ?_ _)); exact K1.out⟩, ⟨by (with_reducible repeat (first | refine bN_ ?_ _ | refine bD_ ?_ | refine bA_ ?_ _)); refine blk_far ?_ N23.out _; (with_reducible repeat (first | refine bN_ ?_ _ | refine bD_ ?_ | refine bA_ ?_ _)); refine blk_far ?_ N23.out _; (with_reducible repeat (first | refine bN_ ?_ _ | refine bD_ ?_ | refine bA_ ?_ _)); refine blk_far ?_ N23.out _; (with_reducible repeat (first | refine bN_ ?_ _ | refine bD_ ?_ | refine bA_ ?_ _)); refine blk_far ?_ N23.out _; (with_reducible repeat (first | refine bN_ ?_ _ | refine bD_ ?_ | refine bA_ ?_ _)); refine blk_far ?_ N23.out _; (with_reducible repeat (first | refine bN_ ?_ _ | refine bD_ ?_ | refine bA_ ?_ _)); refine blk_far ?_ N23.out _; (with_reducible repeat (first | refine bN_ ?_ _ | refine bD_ ?_ | refine bA_ ?_ _)); refine blk_far ?_ N23.out _; (with_reducible repeat (first | refine bN_ ?_ _ | refine bD_ ?_ | refine bA_ ?_ _)); refine blk_far ?_ N23.out _; (with_reducible repeat (first | refine bN_ ?_ _ | refine bD_ ?_ | refine bA_ ?_ _)); exact K2.out⟩, ⟨by (with_reducible repeat (first | refine bN_ ?_ _ | refine bD_ ?_ | refine bA_ ?_ _)); refine blk_put (cs := #[.string ao, .slice none 0 0, .string ax, .string ay, .slice none 0 0, .slice none 0 0, .slice none 0 0, .string (⟨#[]⟩ : ByteArray)]) ?_ 7 _ rfl; (with_reducible repeat (first | refine bN_ ?_ _ | refine bD_ ?_ | refine bA_ ?_ _)); refine blk_put (cs := #[.string ao, .slice none 0 0, .string ax, .string ay, .slice none 0 0, .slice none 0 0, .slice none 0 0, .string (⟨#[]⟩ : ByteArray)]) ?_ 6 _ rfl; (with_reducible repeat (first | refine bN_ ?_ _ | refine bD_ ?_ | refine bA_ ?_ _)); refine blk_put (cs := #[.string ao, .slice none 0 0, .string ax, .string ay, .slice none 0 0, .slice none 0 0, .slice none 0 0, .string (⟨#[]⟩ : ByteArray)]) ?_ 5 _ rfl; (with_reducible repeat (first | refine bN_ ?_ _ | refine bD_ ?_ | refine bA_ ?_ _)); refine blk_put (cs := #[.string ao, .slice none 0 0, .string ax, .string ay, .slice none 0 0, .slice none 0 0, .slice none 0 0, .string (⟨#[]⟩ : ByteArray)]) ?_ 4 _ rfl; (with_reducible repeat (first | refine bN_ ?_ _ | refine bD_ ?_ | refine bA_ ?_ _)); refine blk_put (cs := #[.string ao, .slice none 0 0, .string ax, .string (⟨#[]⟩ : ByteArray), .slice none 0 0, .slice none 0 0, .slice none 0 0, .string (⟨#[]⟩ : ByteArray)]) ?_ 3 _ rfl; (with_reducible repeat (first | refine bN_ ?_ _ | refine bD_ ?_ | refine bA_ ?_ _)); refine blk_put (cs := #[.string ao, .slice none 0 0, .string (⟨#[]⟩ : ByteArray), .string (⟨#[]⟩ : ByteArray), .slice none 0 0, .slice none 0 0, .slice none 0 0, .string (⟨#[]⟩ : ByteArray)]) ?_ 2 _ rfl; (with_reducible repeat (first | refine bN_ ?_ _ | refine bD_ ?_ | refine bA_ ?_ _)); refine blk_put (cs := #[.string ao, .slice none 0 0, .string (⟨#[]⟩ : ByteArray), .string (⟨#[]⟩ : ByteArray), .slice none 0 0, .slice none 0 0, .slice none 0 0, .string (⟨#[]⟩ : ByteArray)]) ?_ 1 _ rfl; (with_reducible repeat (first | refine bN_ ?_ _ | refine bD_ ?_ | refine bA_ ?_ _)); refine blk_put (cs := #[.string (⟨#[]⟩ : ByteArray), .slice none 0 0, .string (⟨#[]⟩ : ByteArray), .string (⟨#[]⟩ : ByteArray), .slice none 0 0, .slice none 0 0, .slice none 0 0, .string (⟨#[]⟩ : ByteArray)]) ?_ 0 _ rfl; (with_reducible repeat (first | refine bN_ ?_ _ | refine bD_ ?_ | refine bA_ ?_ _)); exact K3.out⟩, ⟨Qz HB.out az.out aC.out am.out⟩⟩
 case rest =>
  clear dr
  try clear c34
  try clear cN cO cP cQ cR cS cT cU f33_0 f33_1 f33_2 f33_3 f33_4 f33_5 f33_6 f33_7
  obtain ⟨kq, bz, rfl, HA, HJ7, K1, K2, K3, HB⟩ := hcut
  cases kq with
  | zero => exact absurd HA.out (by simp [mD.j0])
  | succ kj7 =>
   have H := HA.out
   clear HA
   simp only [mD.j0] at H
   have ch := Aside0.mk H
   clear H
   go_upto_if 35 with (fail)
   go_cut [] (fun wc => ∃ (kq : Nat) (x1_ : List ByteArray) (u227001 : Value), Aside0 (mD.j1 kq ah ag ai aj ad ae af ak ao x1_ ax ay (⟨#[]⟩ : ByteArray) = some (r1, r2, r3, r4, r5, r6, r7, r8)) ∧ Aside0 (kq ≤ kj7) ∧ Aside0 (Kd.R Kd.string 9 wc w.heap.size (fun _ => True) u227001 x1_) ∧ Aside0 (wc.heap[ab]? = some (.cells #[.int .i64 ah, .int .i64 ag, .int .i64 ai, .int .i64 aj, (.slice av ad.length ap), (.slice aw ae.length aq), (.slice au af.length ar), .int .i64 ak] 24 (0, 0))) ∧ Aside0 (wc.heap[ac]? = some (.cells zT_ 29 (0, 0))) ∧ Aside0 (wc.heap[aa]? = some (.cells #[.string ao, u227001, .string ax, .string ay, (.slice none 0 0), (.slice none 0 0), (.slice none 0 0), .string (⟨#[]⟩ : ByteArray)] 29 (0, 0))) ∧ Aside0 (Below w.heap.size w wc))
   case first =>
    have H := ch.out
    clear ch
    by_cases c38 : bz = true
    ·subst c38
     have H1 : ((r6_Pick.f (([(⟨#[121, 117, 101]⟩ : ByteArray), (⟨#[99, 109, 110]⟩ : ByteArray), (⟨#[109, 105, 110]⟩ : ByteArray)] : List ByteArray)) (wrap64 (Int.tdiv ag 4))).bind fun bd => (mD.j1 kj7 ah ag ai aj ad ae af ak ao (([bd] : List ByteArray)) ax ay (⟨#[]⟩ : ByteArray))) = some (r1, r2, r3, r4, r5, r6, r7, r8) := by rw [if_pos rfl] at H; exact H
     clear H
     have H := H1
     clear H1
     obtain ⟨bD, bh⟩ : ∃ y_ : List ByteArray, y_ = (([(⟨#[121, 117, 101]⟩ : ByteArray), (⟨#[99, 109, 110]⟩ : ByteArray), (⟨#[109, 105, 110]⟩ : ByteArray)] : List ByteArray)) := ⟨_, rfl⟩
     replace H : ((r6_Pick.f bD (wrap64 (Int.tdiv ag 4))).bind fun bd => (mD.j1 kj7 ah ag ai aj ad ae af ak ao (([bd] : List ByteArray)) ax ay (⟨#[]⟩ : ByteArray))) = some (r1, r2, r3, r4, r5, r6, r7, r8) := by first | (rw [bh]; with_reducible exact H) | (have H2_ := (Option.bind_some _ _).symm.trans H; rw [bh]; with_reducible exact H2_) | (have H2_ := (Option.bind_some _ _).symm.trans H; with_reducible exact H2_) | with_reducible exact H | (rw [bh]; exact H) | exact H
     have bK := Aside0.mk bh
     clear bh
     replace H := Option.bind_eq_some_iff.mp H
     obtain ⟨bd, cV, H⟩ := H
     try dsimp only at H
     have f1 := Aside0.mk cV
     clear cV
     obtain ⟨bI, bi⟩ : ∃ y_ : List ByteArray, y_ = (([bd] : List ByteArray)) := ⟨_, rfl⟩
     replace H : (mD.j1 kj7 ah ag ai aj ad ae af ak ao bI ax ay (⟨#[]⟩ : ByteArray)) = some (r1, r2, r3, r4, r5, r6, r7, r8) := by first | (rw [bi]; with_reducible exact H) | (have H2_ := (Option.bind_some _ _).symm.trans H; rw [bi]; with_reducible exact H2_) | (have H2_ := (Option.bind_some _ _).symm.trans H; with_reducible exact H2_) | with_reducible exact H | (rw [bi]; exact H) | exact H
     have bL := Aside0.mk bi
     clear bi
     have H' := Aside0.mk H
     clear H
     go_wp2_with (first | ((with_reducible refine gate_dst (N := 36) rfl ?_); refine Kd.R_lit Kd.string _ 9 ?hg (N := 36) ?hd (xs := ([(⟨#[121, 117, 101]⟩ : ByteArray), (⟨#[99, 109, 110]⟩ : ByteArray), (⟨#[109, 105, 110]⟩ : ByteArray)] : List ByteArray)) (inner := [.string (⟨#[121, 117, 101]⟩ : ByteArray), .string (⟨#[99, 109, 110]⟩ : ByteArray), .string (⟨#[109, 105, 110]⟩ : ByteArray)]) (ok := fun _ => True) (okp := fun _ => True) ?hr ?hp (fun _ hk => hk) trivial (Below.refl _ _) (Nat.le_refl _) (by simp) ?_; (case hd => rfl); (case hg => rfl); (case hr => first | (go_simp; done) | (go_simp; rfl)); (case hp => exact (Reps.one (show Kd.M Kd.string _ _ _ (⟨#[121, 117, 101]⟩ : ByteArray) [.string (⟨#[121, 117, 101]⟩ : ByteArray)] from rfl) (Reps.one (show Kd.M Kd.string _ _ _ (⟨#[99, 109, 110]⟩ : ByteArray) [.string (⟨#[99, 109, 110]⟩ : ByteArray)] from rfl) (Reps.one (show Kd.M Kd.string _ _ _ (⟨#[109, 105, 110]⟩ : ByteArray) [.string (⟨#[109, 105, 110]⟩ : ByteArray)] from rfl) (Reps.none _ _))))); intro v228 w40 ho41 hb hg_ hnew_; clear hg_ hnew_; (first | rw [← bK.out] at ho41 | (simp only [Int.reduceToNat] at ho41; rw [← bK.out] at ho41)); have aD := Aside0.mk (Kd.R_lower ho41 (below_size (Qz HB.out az.out aC.out am.out))); have aE := Aside0.mk (blk_below (g := ab) (o := .cells #[.int .i64 ah, .int .i64 ag, .int .i64 ai, .int .i64 aj, .slice av ad.length ap, .slice aw ae.length aq, .slice au af.length ar, .int .i64 ak] 24 (0, 0)) (Qb K1.out) hb); have aG := Aside0.mk (blk_below (g := ac) (o := .cells zT_ 29 (0, 0)) (Qb K2.out) hb); have aH := Aside0.mk (blk_below (g := aa) (o := .cells #[.string ao, .slice none 0 0, .string ax, .string ay, .slice none 0 0, .slice none 0 0, .slice none 0 0, .string (⟨#[]⟩ : ByteArray)] 29 (0, 0)) (Qb K3.out) hb); have aI := Aside0.mk (below_step (Qz HB.out az.out aC.out am.out) hb); clear K1; clear K2; clear K3; clear HB; have a7 := aD; have K1 := aE; have K2 := aG; have K3 := aH; have HB := aI; clear aD aE aG aH aI; clear hb ho41; have hnb42 := N12.out; have hnc42 := N21.out; have hnb43 := N13.out; have hnc43 := N31.out; obtain ⟨bM, bN, bO, bP, bQ, bR, bS, bT, f44_0, f44_1, f44_2, f44_3, f44_4, f44_5, f44_6, f44_7⟩ := cells8 K1.out; obtain ⟨Ao45, co45, eo45⟩ := Kd.R_slice a7.out; subst eo45) | ((with_reducible refine gate_callee (f := 32) rfl ?_); refine goesL_ (some 40) rfl rfl Tryz.func32 (by kernel_rfl) rfl #[.slice Ao45 bD.length co45, .int .i64 (wrap64 (Int.tdiv ag 4))] rfl Qm ?_; (with_reducible refine (r6_Pick.calls _ _ bD (wrap64 (Int.tdiv ag 4)) bd _ ?side1 ?side2 f1.out).mono ?_); (case side1 => repeat (first | exact (Kd.R_reads' a7.out).2.2 | (with_reducible refine Kd.C_alloc ?_ _) | (with_reducible refine Kd.C_drewN ?_ _) | (with_reducible refine Kd.C_drew ?_))); (case side2 => exact (Kd.R_reads' a7.out).2.1); rintro e w' ⟨rfl, ⟨nd, rfl⟩⟩; refine ⟨_, rfl, ?_⟩; (try (rw [drewN_self w40]; generalize hq_ : World.drewN w40 _ = w40; have aD : Aside0 (Kd.R Kd.string 9 w40 w.heap.size (fun _ => True) (.slice Ao45 bD.length co45) bD) := ⟨by rw [← hq_]; exact (Qr a7.out)⟩; have aE : Aside0 (w40.heap[ab]? = some (.cells #[.int .i64 ah, .int .i64 ag, .int .i64 ai, .int .i64 aj, .slice av ad.length ap, .slice aw ae.length aq, .slice au af.length ar, .int .i64 ak] 24 (0, 0))) := ⟨by rw [← hq_]; exact (Qb K1.out)⟩; have aG : Aside0 (w40.heap[ac]? = some (.cells zT_ 29 (0, 0))) := ⟨by rw [← hq_]; exact (Qb K2.out)⟩; have aH : Aside0 (w40.heap[aa]? = some (.cells #[.string ao, .slice none 0 0, .string ax, .string ay, .slice none 0 0, .slice none 0 0, .slice none 0 0, .string (⟨#[]⟩ : ByteArray)] 29 (0, 0))) := ⟨by rw [← hq_]; exact (Qb K3.out)⟩; have aI : Aside0 (Below w.heap.size w w40) := ⟨by rw [← hq_]; exact (Qz HB.out az.out aC.out am.out)⟩; clear a7 K1 K2 K3 HB hq_; have a7 := aD; have K1 := aE; have K2 := aG; have K3 := aH; have HB := aI; clear aD aE aG aH aI))) | ((with_reducible refine gate_dst (N := 41) rfl ?_); refine Kd.R_lit Kd.string _ 9 ?hg (N := 41) ?hd (xs := ([bd] : List ByteArray)) (inner := [.string bd]) (ok := fun _ => True) (okp := fun _ => True) ?hr ?hp (fun _ hk => hk) trivial (Below.refl _ _) (Nat.le_refl _) (by simp) ?_; (case hd => rfl); (case hg => rfl); (case hr => first | (go_simp; done) | (go_simp; rfl)); (case hp => exact (Reps.one (show Kd.M Kd.string _ _ _ bd [.string bd] from rfl) (Reps.none _ _))); intro v232 w46 ho47 hb hg_ hnew_; clear hg_ hnew_; (first | rw [← bL.out] at ho47 | (simp only [Int.reduceToNat] at ho47; rw [← bL.out] at ho47)); have aD := Aside0.mk (Kd.R_elder' (Qr a7.out) (Kd.R_base ho47) hb); have aE := Aside0.mk (Kd.R_lower (Kd.R_new' ho47 (Kd.R_lt (Qr a7.out))) (below_size (Qz HB.out az.out aC.out am.out))); have aG := Aside0.mk (blk_below (g := ab) (o := .cells #[.int .i64 ah, .int .i64 ag, .int .i64 ai, .int .i64 aj, .slice av ad.length ap, .slice aw ae.length aq, .slice au af.length ar, .int .i64 ak] 24 (0, 0)) (Qb K1.out) hb); have aH := Aside0.mk (blk_below (g := ac) (o := .cells zT_ 29 (0, 0)) (Qb K2.out) hb); have aI := Aside0.mk (blk_below (g := aa) (o := .cells #[.string ao, .slice none 0 0, .string ax, .string ay, .slice none 0 0, .slice none 0 0, .slice none 0 0, .string (⟨#[]⟩ : ByteArray)] 29 (0, 0)) (Qb K3.out) hb); have aM := Aside0.mk (below_step (Qz HB.out az.out aC.out am.out) hb); clear a7; clear K1; clear K2; clear K3; clear HB; have a7 := aD; have bU := aE; have K1 := aG; have K2 := aH; have K3 := aI; have HB := aM; clear aD aE aG aH aI aM; clear hb ho47; obtain ⟨Ao48, co48, eo48⟩ := Kd.R_slice bU.out; subst eo48; have hnb49 := N32.out; have hnc49 := N23.out; obtain ⟨e5, e6, e7, e8, e9, fa, fb, fc, f50_0, f50_1, f50_2, f50_3, f50_4, f50_5, f50_6, f50_7⟩ := cells8 K3.out))
     go_meet
     case rel => exact ⟨_, (bI), (.slice Ao48 bI.length co48), H', ⟨by have := HJ7.out; first | omega | exact Nat.le_refl _⟩, ⟨by (with_reducible repeat (first | apply rA_ | apply rN_ | apply rD_)); exact Kd.R_mono (Kd.R_far (p := ⟨aa, 1, none⟩) (Kd.R_types bU.out K3.out (by decide)) (fun _ hk => hk.2) (.slice Ao48 bI.length co48)) (fun _ hk => trivial)⟩, ⟨by (with_reducible repeat (first | refine bN_ ?_ _ | refine bD_ ?_ | refine bA_ ?_ _)); refine blk_far ?_ N13.out _; (with_reducible repeat (first | refine bN_ ?_ _ | refine bD_ ?_ | refine bA_ ?_ _)); exact K1.out⟩, ⟨by (with_reducible repeat (first | refine bN_ ?_ _ | refine bD_ ?_ | refine bA_ ?_ _)); refine blk_far ?_ N23.out _; (with_reducible repeat (first | refine bN_ ?_ _ | refine bD_ ?_ | refine bA_ ?_ _)); exact K2.out⟩, ⟨by (with_reducible repeat (first | refine bN_ ?_ _ | refine bD_ ?_ | refine bA_ ?_ _)); refine blk_put (cs := #[.string ao, .slice none 0 0, .string ax, .string ay, .slice none 0 0, .slice none 0 0, .slice none 0 0, .string (⟨#[]⟩ : ByteArray)]) ?_ 1 _ rfl; (with_reducible repeat (first | refine bN_ ?_ _ | refine bD_ ?_ | refine bA_ ?_ _)); exact K3.out⟩, ⟨Qz HB.out az.out aC.out am.out⟩⟩
    ·replace c38 := Bool.eq_false_iff.mpr c38
     subst c38
     have H1 : (mD.j1 kj7 ah ag ai aj ad ae af ak ao ([] : List ByteArray) ax ay (⟨#[]⟩ : ByteArray)) = some (r1, r2, r3, r4, r5, r6, r7, r8) := by rw [if_neg (show ¬ (false = true) by decide)] at H; exact H
     clear H
     have H := H1
     clear H1
     have H' := Aside0.mk H
     clear H
     go_wp2
     go_meet
     case rel => exact ⟨_, (([] : List ByteArray)), (.slice none 0 0), H', ⟨by have := HJ7.out; first | omega | exact Nat.le_refl _⟩, ⟨by first | exact Kd.R_nil _ _ _ _ _ | exact Kd.N_nil _ _ _ _ _ | exact Kd.V_nil _ _ _ _ _ | exact Kd.Q_nil _ _ _ _ _ | exact Kd.S_nil _ _ _ _ _⟩, ⟨Qb K1.out⟩, ⟨Qb K2.out⟩, ⟨Qb K3.out⟩, ⟨Qz HB.out az.out aC.out am.out⟩⟩
   case rest =>
    clear ch
    try clear c43
    try clear bM bN bO bP bQ bR bS bT f44_0 f44_1 f44_2 f44_3 f44_4 f44_5 f44_6 f44_7
    obtain ⟨kq, x1_, u227001, HA, HJ36, O1, K1, K2, K3, HB⟩ := hcut
    cases kq with
    | zero => exact absurd HA.out (by simp [mD.j1])
    | succ kj36 =>
     have H := HA.out
     clear HA
     simp only [mD.j1] at H
     have H' := Aside0.mk H
     clear H
     go_wp2
     go_loopg [4] kj36 (fun kq v4 w' => ∃ (aY : Int) (x4_ : List ByteArray) (u227004 : Value), v4 = .int .i64 aY ∧ Aside0 (mD.l0 kq aY ah ag ai aj ad ae af ak ao x1_ ax ay x4_ (⟨#[]⟩ : ByteArray) = some (r1, r2, r3, r4, r5, r6, r7, r8)) ∧ Aside0 (kq ≤ kj36) ∧ Aside0 (Kd.R Kd.string 9 w' w.heap.size (fun k_ => some k_ ≠ (u227004 : Value).ownBlock) u227001 x1_) ∧ Aside0 (Kd.R Kd.string 9 w' w.heap.size (fun k_ => some k_ ≠ (u227001 : Value).ownBlock) u227004 x4_) ∧ Aside0 (w'.heap[ab]? = some (.cells #[.int .i64 ah, .int .i64 ag, .int .i64 ai, .int .i64 aj, (.slice av ad.length ap), (.slice aw ae.length aq), (.slice au af.length ar), .int .i64 ak] 24 (0, 0))) ∧ Aside0 (w'.heap[ac]? = some (.cells zT_ 29 (0, 0))) ∧ Aside0 (w'.heap[aa]? = some (.cells #[.string ao, u227001, .string ax, .string ay, u227004, (.slice none 0 0), (.slice none 0 0), .string (⟨#[]⟩ : ByteArray)] 29 (0, 0))) ∧ Aside0 (Below w.heap.size w w'))
     case atStart => exact ⟨(0), (([] : List ByteArray)), (.slice none 0 0), Qs, H', ⟨Nat.le_refl _⟩, ⟨by (with_reducible repeat (first | apply rA_ | apply rN_ | apply rD_)); exact Kd.R_mono O1.out (fun _ hk => (by simp [Value.ownBlock]))⟩, ⟨by first | exact Kd.R_nil _ _ _ _ _ | exact Kd.N_nil _ _ _ _ _ | exact Kd.V_nil _ _ _ _ _ | exact Kd.Q_nil _ _ _ _ _ | exact Kd.S_nil _ _ _ _ _⟩, ⟨Qb K1.out⟩, ⟨Qb K2.out⟩, ⟨Qb K3.out⟩, ⟨Qz HB.out az.out aC.out am.out⟩⟩
     case round =>
      clear H'
      try clear c43
      try clear bM bN bO bP bQ bR bS bT f44_0 f44_1 f44_2 f44_3 f44_4 f44_5 f44_6 f44_7
      try clear p2
      obtain ⟨aY, x4_, u227004, rfl, HA, HK3, O1, O4, K1, K2, K3, HB⟩ := hrel
      cases gk with
      | zero => exact absurd HA.out (by simp [mD.l0])
      | succ k3 =>
       have H := HA.out
       clear HA
       simp only [mD.l0] at H
       have ci := Aside0.mk H
       clear H
       go_upto_region 5 with (fail)
       go_cut [51] (fun v51 wc => ∃ (kq : Nat) (be : Bool), v51 = .bool be ∧ Aside0 (mD.j3 kq aY be ah ag ai aj ad ae af ak ao x1_ ax ay x4_ (⟨#[]⟩ : ByteArray) = some (r1, r2, r3, r4, r5, r6, r7, r8)) ∧ Aside0 (kq ≤ k3) ∧ Aside0 (Kd.R Kd.string 9 wc w.heap.size (fun k_ => some k_ ≠ (u227004 : Value).ownBlock) u227001 x1_) ∧ Aside0 (Kd.R Kd.string 9 wc w.heap.size (fun k_ => some k_ ≠ (u227001 : Value).ownBlock) u227004 x4_) ∧ Aside0 (wc.heap[ab]? = some (.cells #[.int .i64 ah, .int .i64 ag, .int .i64 ai, .int .i64 aj, (.slice av ad.length ap), (.slice aw ae.length aq), (.slice au af.length ar), .int .i64 ak] 24 (0, 0))) ∧ Aside0 (wc.heap[ac]? = some (.cells zT_ 29 (0, 0))) ∧ Aside0 (wc.heap[aa]? = some (.cells #[.string ao, u227001, .string ax, .string ay, u227004, (.slice none 0 0), (.slice none 0 0), .string (⟨#[]⟩ : ByteArray)] 29 (0, 0))) ∧ Aside0 (Below w.heap.size w wc))
       case first =>
        have H := ci.out
        clear ci
        by_cases c52 : aY < (ad.length : Int)
        ·rw [if_pos c52] at H
         have bj : decide (aY < (ad.length : Int)) = true := decide_eq_true c52
         clear c52
         (first | rw [bj] | (simp only [i64_w, i32_w]; rw [bj]) | skip)
         have H' := Aside0.mk H
         clear H
         have hnb53 := N12.out
         have hnc53 := N21.out
         have hnb54 := N13.out
         have hnc54 := N31.out
         obtain ⟨bV, bW, bX, bY, bZ, b0, b1, b2, f55_0, f55_1, f55_2, f55_3, f55_4, f55_5, f55_6, f55_7⟩ := cells8 K1.out
         go_wp2
         go_meet
         case rel => exact ⟨_, (decide (aY < 4)), Qs, H', ⟨by have := HJ7.out; have := HJ36.out; have := HK3.out; first | omega | exact Nat.le_refl _⟩, ⟨Qr O1.out⟩, ⟨Qr O4.out⟩, ⟨Qb K1.out⟩, ⟨Qb K2.out⟩, ⟨Qb K3.out⟩, ⟨Qz HB.out az.out aC.out am.out⟩⟩
        ·rw [if_neg c52] at H
         have bj : decide (aY < (ad.length : Int)) = false := decide_eq_false c52
         clear c52
         (first | rw [bj] | (simp only [i64_w, i32_w]; rw [bj]) | skip)
         have H' := Aside0.mk H
         clear H
         have hnb56 := N12.out
         have hnc56 := N21.out
         have hnb57 := N13.out
         have hnc57 := N31.out
         obtain ⟨fd, fe, ff, fg, fh, fi, fj, fk, f58_0, f58_1, f58_2, f58_3, f58_4, f58_5, f58_6, f58_7⟩ := cells8 K1.out
         go_wp2
         go_meet
         case rel => exact ⟨_, (false), Qs, H', ⟨by have := HJ7.out; have := HJ36.out; have := HK3.out; first | omega | exact Nat.le_refl _⟩, ⟨Qr O1.out⟩, ⟨Qr O4.out⟩, ⟨Qb K1.out⟩, ⟨Qb K2.out⟩, ⟨Qb K3.out⟩, ⟨Qz HB.out az.out aC.out am.out⟩⟩
       case rest =>
        clear ci
        try clear c56
        try clear bV bW bX bY bZ b0 b1 b2 f55_0 f55_1 f55_2 f55_3 f55_4 f55_5 f55_6 f55_7
        try clear p2
        obtain ⟨kq, be, rfl, HA, HJ50, O1, O4, K1, K2, K3, HB⟩ := hcut
        cases kq with
        | zero => exact absurd HA.out (by simp [mD.j3])
        | succ kj50 =>
         have H := HA.out
         clear HA
         simp only [mD.j3] at H
         by_cases c59 : be = true
         ·subst c59
          have H1 : ((r6_variants.f).bind fun bE => (if 0 ≤ aY then (if aY < (ad.length : Int) then ((r6_Pick.f bE (rd ad aY)).bind fun ba => (mD.l1 kj50 aY ba false 0 ah ag ai aj ad ae af ak ao x1_ ax ay x4_ (⟨#[]⟩ : ByteArray))) else (none)) else (none))) = some (r1, r2, r3, r4, r5, r6, r7, r8) := by rw [if_pos rfl] at H; exact H
          clear H
          have H := H1
          clear H1
          replace H := Option.bind_eq_some_iff.mp H
          obtain ⟨bE, cW, H⟩ := H
          try dsimp only at H
          have dq := Aside0.mk cW
          clear cW
          by_cases c61 : 0 ≤ aY
          ·rw [if_pos c61] at H
           have cX : decide (0 ≤ aY) = true := decide_eq_true c61
           clear c61
           by_cases c62 : aY < (ad.length : Int)
           ·rw [if_pos c62] at H
            have fl : decide (aY < (ad.length : Int)) = true := decide_eq_true c62
            clear c62
            replace H := Option.bind_eq_some_iff.mp H
            obtain ⟨ba, cY, H⟩ := H
            try dsimp only at H
            have f2 := Aside0.mk cY
            clear cY
            have H' := Aside0.mk H
            clear H
            try go_wp2
            have aD := Aside0.mk (rD_ O1.out)
            have aE := Aside0.mk (rD_ O4.out)
            have aG := Aside0.mk (bD_ K1.out)
            have aH := Aside0.mk (bD_ K2.out)
            have aI := Aside0.mk (bD_ K3.out)
            have aM := Aside0.mk (wD_ HB.out)
            clear O1 O4 K1 K2 K3 HB
            have O1 := aD; have O4 := aE; have K1 := aG; have K2 := aH; have K3 := aI; have HB := aM
            clear aD aE aG aH aI aM
            have p237 : 0 ≤ (aY : Int) := of_decide_eq_true Qa
            have q237 : aY < (ad.length : Int) := of_decide_eq_true Qa
            obtain ⟨ad237, e237, hx237_0⟩ := Kd.at_int cK.out aY p237 q237
            have hw237_0 := hx237_0
            cases e237
            replace hx237_0 := (HB.out.cell (World.block_lt_of_cell? w _ hx237_0)).trans hx237_0
            replace p237 := eq_true p237
            replace q237 := eq_true q237
            refine start_ (n := 8) (S := fun w' => w'.cell? ⟨ab, 0, none⟩ = some (.int .i64 ah) ∧ w'.cell? ⟨ab, 1, none⟩ = some (.int .i64 ag) ∧ w'.cell? ⟨ab, 2, none⟩ = some (.int .i64 ai) ∧ w'.cell? ⟨ab, 3, none⟩ = some (.int .i64 aj) ∧ w'.cell? ⟨ab, 4, none⟩ = some (.slice (some ad237) ad.length ap) ∧ w'.cell? ⟨ab, 5, none⟩ = some (.slice aw ae.length aq) ∧ w'.cell? ⟨ab, 6, none⟩ = some (.slice au af.length ar) ∧ w'.cell? ⟨ab, 7, none⟩ = some (.int .i64 ak) ∧ w'.cell? (ad237.add (aY).toNat) = some (.int .i64 (rd ad aY))) (ds := []) #[false, false, false, false, false, false, false, false] (by kernel_rfl) rfl rfl ⟨(bC_ K1.out 0).trans rfl, (bC_ K1.out 1).trans rfl, (bC_ K1.out 2).trans rfl, (bC_ K1.out 3).trans rfl, (bC_ K1.out 4).trans rfl, (bC_ K1.out 5).trans rfl, (bC_ K1.out 6).trans rfl, (bC_ K1.out 7).trans rfl, ((HB.out.cell (World.block_lt_of_cell? w _ hw237_0)).trans hw237_0)⟩ (fun hHeld => ?_); refine with_tabW mD.tab7 mD.bits7 (fun HT_ HW_ => ?_)
            generalize wc.drew = w64 at O1 O4 K1 K2 K3 HB hx237_0 hHeld ⊢
            refine pu_ (i := 1) (N := some 55) HT_ (bl_ 8 2) ?_
            refine pu_ (i := 3) (N := some 57) HT_ (bl_ 8 10) ?_
            refine tk_ (i := 2) (N := some 56) HT_ HW_ (bl_ 8 14) hHeld ?_ (hy := by rintro w' ⟨s0, s1, s2, s3, s4, s5, s6, s7, s8⟩; go_simp; with_reducible rfl)
            refine pu_ (i := 4) (N := some 58) HT_ (bl_ 8 30) ?_
            refine tk_ (i := 5) (N := some 59) HT_ HW_ (bl_ 8 62) hHeld ?_ (hy := by rintro w' ⟨s0, s1, s2, s3, s4, s5, s6, s7, s8⟩; go_simp; with_reducible rfl)
            refine on_ (i := 0) (N := some 54) HT_ (bl_ 8 63) rfl rfl (fun K hK => ?_)
            refine goes_ Tryz.func36 (by kernel_rfl) rfl #[] (by rfl) rfl rfl Qm ?_
            with_reducible refine (r6_variants.calls  bE _ dq.out).mono ?_
            rintro e w65 ⟨v235, rfl, ho0, hb⟩
            refine ⟨_, rfl, ?_⟩
            have aD := Aside0.mk (Kd.R_elder' (Qr O1.out) (Kd.R_base ho0) hb)
            have aE := Aside0.mk (Kd.R_elder' (Qr O4.out) (Kd.R_base ho0) hb)
            have aG := Aside0.mk (Kd.R_lower (Kd.R_new' (Kd.R_new' ho0 (Kd.R_lt (Qr O1.out))) (Kd.R_lt (Qr O4.out))) (below_size (Qz HB.out az.out aC.out am.out)))
            have aH := Aside0.mk (blk_below (g := ab) (o := .cells #[.int .i64 ah, .int .i64 ag, .int .i64 ai, .int .i64 aj, .slice (some ad237) ad.length ap, .slice aw ae.length aq, .slice au af.length ar, .int .i64 ak] 24 (0, 0)) (Qb K1.out) hb)
            have aI := Aside0.mk (blk_below (g := ac) (o := .cells zT_ 29 (0, 0)) (Qb K2.out) hb)
            have aM := Aside0.mk (blk_below (g := aa) (o := .cells #[.string ao, u227001, .string ax, .string ay, u227004, .slice none 0 0, .slice none 0 0, .string (⟨#[]⟩ : ByteArray)] 29 (0, 0)) (Qb K3.out) hb)
            have aR := Aside0.mk (below_step (Qz HB.out az.out aC.out am.out) hb)
            clear O1 O4 K1 K2 K3 HB
            have O1 := aD; have O4 := aE; have bF := aG; have K1 := aH; have K2 := aI; have K3 := aM; have HB := aR
            clear aD aE aG aH aI aM aR
            (try clear hb); (try clear ho0)
            obtain ⟨Ao66, co66, eo66⟩ := Kd.R_slice bF.out
            (first | subst eo66 | (injection eo66 with f1_ f2_ f3_; have f4_ := f1_.symm; have f5_ := f3_.symm; clear f1_ f2_ f3_; subst f4_; subst f5_))
            refine hK.out _ _ ⟨(bC_ K1.out 0).trans rfl, (bC_ K1.out 1).trans rfl, (bC_ K1.out 2).trans rfl, (bC_ K1.out 3).trans rfl, (bC_ K1.out 4).trans rfl, (bC_ K1.out 5).trans rfl, (bC_ K1.out 6).trans rfl, (bC_ K1.out 7).trans rfl, ((HB.out.cell (World.block_lt_of_cell? w _ hw237_0)).trans hw237_0)⟩ (fun hHeld => ?_)
            clear hK K
            refine nm_ (some 54) ?_
            refine on_ (i := 6) (N := some 60) HT_ (bl_ 8 127) rfl rfl (fun K hK => ?_)
            refine goes_ Tryz.func32 (by kernel_rfl) rfl #[.slice Ao66 bE.length co66, .int .i64 (rd ad aY)] (by rfl) rfl rfl Qm ?_
            with_reducible refine (r6_Pick.calls _ _ bE (rd ad aY) ba _ ?side1 ?side2 f2.out).mono ?_
            (case side1 => repeat (first | exact (Kd.R_reads' bF.out).2.2 | (with_reducible refine Kd.C_alloc ?_ _) | (with_reducible refine Kd.C_drewN ?_ _) | (with_reducible refine Kd.C_drew ?_)))
            (case side2 => exact (Kd.R_reads' bF.out).2.1)
            rintro e w' ⟨rfl, ⟨nd, rfl⟩⟩
            refine ⟨_, rfl, ?_⟩
            refine hK.out _ _ ⟨(bC_ K1.out 0).trans rfl, (bC_ K1.out 1).trans rfl, (bC_ K1.out 2).trans rfl, (bC_ K1.out 3).trans rfl, (bC_ K1.out 4).trans rfl, (bC_ K1.out 5).trans rfl, (bC_ K1.out 6).trans rfl, (bC_ K1.out 7).trans rfl, ((HB.out.cell (World.block_lt_of_cell? w _ hw237_0)).trans hw237_0)⟩ (fun hHeld => ?_)
            clear hK K
            refine nm_ (some 60) ?_
            refine pu_ (i := 7) (N := some 5) HT_ (bl_ 8 255) ?_
            refine done_ (done_of HT_.out (by kernel_rfl)) ?_
            try go_wp2
            go_loopg [6, 7] kj50 (fun kq v6 v7 w' => ∃ (bG : Bool) (a6 : Int), v6 = .bool bG ∧ v7 = .int .i64 a6 ∧ Aside0 (mD.l1 kq aY ba bG a6 ah ag ai aj ad ae af ak ao x1_ ax ay x4_ (⟨#[]⟩ : ByteArray) = some (r1, r2, r3, r4, r5, r6, r7, r8)) ∧ Aside0 (kq ≤ kj50) ∧ Aside0 (Kd.R Kd.string 9 w' w.heap.size (fun k_ => some k_ ≠ (u227004 : Value).ownBlock) u227001 x1_) ∧ Aside0 (Kd.R Kd.string 9 w' w.heap.size (fun k_ => some k_ ≠ (u227001 : Value).ownBlock) u227004 x4_) ∧ Aside0 (w'.heap[ab]? = some (.cells #[.int .i64 ah, .int .i64 ag, .int .i64 ai, .int .i64 aj, (.slice (some ad237) ad.length ap), (.slice aw ae.length aq), (.slice au af.length ar), .int .i64 ak] 24 (0, 0))) ∧ Aside0 (w'.heap[ac]? = some (.cells zT_ 29 (0, 0))) ∧ Aside0 (w'.heap[aa]? = some (.cells #[.string ao, u227001, .string ax, .string ay, u227004, (.slice none 0 0), (.slice none 0 0), .string (⟨#[]⟩ : ByteArray)] 29 (0, 0))) ∧ Aside0 (Below w.heap.size w w'))
            case atStart => exact ⟨(false), (0), Qs, Qs, H', ⟨Nat.le_refl _⟩, ⟨by (with_reducible repeat (first | apply rA_ | apply rN_ | apply rD_)); exact Kd.R_mono O1.out (fun _ hk => hk.1)⟩, ⟨by (with_reducible repeat (first | apply rA_ | apply rN_ | apply rD_)); exact Kd.R_mono O4.out (fun _ hk => hk.1)⟩, ⟨Qb K1.out⟩, ⟨Qb K2.out⟩, ⟨Qb K3.out⟩, ⟨Qz HB.out az.out aC.out am.out⟩⟩
            case round =>
             clear H'
             try clear cX; try clear c62
             try clear bV bW bX bY bZ b0 b1 b2 f55_0 f55_1 f55_2 f55_3 f55_4 f55_5 f55_6 f55_7
             try clear hx237_0; try clear p6
             obtain ⟨bG, a6, rfl, rfl, HA, HK5, O1, O4, K1, K2, K3, HB⟩ := hrel
             cases gk with
             | zero => exact absurd HA.out (by simp [mD.l1])
             | succ k5 =>
              have H := HA.out
              clear HA
              simp only [mD.l1] at H
              by_cases c67 : a6 < (x4_.length : Int)
              ·rw [if_pos c67] at H
               have cZ : decide (a6 < (x4_.length : Int)) = true := decide_eq_true c67
               clear c67
               by_cases c68 : bG = true
               ·subst c68
                have H1 : (mD.l1 k5 aY ba true (wrap64 (a6 + 1)) ah ag ai aj ad ae af ak ao x1_ ax ay x4_ (⟨#[]⟩ : ByteArray)) = some (r1, r2, r3, r4, r5, r6, r7, r8) := by rw [if_pos rfl] at H; exact H
                clear H
                have H := H1
                clear H1
                have H' := Aside0.mk H
                clear H
                have hnb69 := N31.out
                have hnc69 := N13.out
                have hnb70 := N32.out
                have hnc70 := N23.out
                obtain ⟨fm, fn, fo, fp, fq, fr, fs, ft, f71_0, f71_1, f71_2, f71_3, f71_4, f71_5, f71_6, f71_7⟩ := cells8 K3.out
                obtain ⟨Ao72, co72, eo72⟩ := Kd.R_slice O4.out
                subst eo72
                go_wp2
                go_roundg k5
                case measure => have := HJ7.out; have := HJ36.out; have := HK3.out; have := HJ50.out; have := HK5.out; omega
                case rel => exact ⟨(true), (wrap64 (a6 + 1)), Qs, Qs, H', ⟨by have := HJ7.out; have := HJ36.out; have := HK3.out; have := HJ50.out; have := HK5.out; omega⟩, ⟨Qr O1.out⟩, ⟨Qr O4.out⟩, ⟨Qb K1.out⟩, ⟨Qb K2.out⟩, ⟨Qb K3.out⟩, ⟨Qz HB.out az.out aC.out am.out⟩⟩
               ·replace c68 := Bool.eq_false_iff.mpr c68
                subst c68
                have H1 : (if 0 ≤ a6 then (mD.l1 k5 aY ba ((rdOf ByteArray.empty x4_ a6).toList == ba.toList) (wrap64 (a6 + 1)) ah ag ai aj ad ae af ak ao x1_ ax ay x4_ (⟨#[]⟩ : ByteArray)) else (none)) = some (r1, r2, r3, r4, r5, r6, r7, r8) := by rw [if_neg (show ¬ (false = true) by decide)] at H; exact H
                clear H
                have H := H1
                clear H1
                by_cases c73 : 0 ≤ a6
                ·rw [if_pos c73] at H
                 have fu : decide (0 ≤ a6) = true := decide_eq_true c73
                 clear c73
                 have H' := Aside0.mk H
                 clear H
                 have hnb74 := N31.out
                 have hnc74 := N13.out
                 have hnb75 := N32.out
                 have hnc75 := N23.out
                 obtain ⟨fv, fw, fx, fy, fz, fA, fB, fC, f76_0, f76_1, f76_2, f76_3, f76_4, f76_5, f76_6, f76_7⟩ := cells8 K3.out
                 obtain ⟨Ao77, co77, eo77⟩ := Kd.R_slice O4.out
                 subst eo77
                 have p239 : 0 ≤ (a6 : Int) := of_decide_eq_true Qa
                 have q239 : a6 < (x4_.length : Int) := of_decide_eq_true Qa
                 obtain ⟨ad239, e239, hx239_0⟩ := Kd.at_string (Kd.R_reads' O4.out).2.2 a6 p239 q239
                 cases e239
                 replace p239 := eq_true p239
                 replace q239 := eq_true q239
                 go_wp2
                 go_roundg k5
                 case measure => have := HJ7.out; have := HJ36.out; have := HK3.out; have := HJ50.out; have := HK5.out; omega
                 case rel => exact ⟨(((rdOf ByteArray.empty x4_ a6).toList == ba.toList)), (wrap64 (a6 + 1)), Qs, Qs, H', ⟨by have := HJ7.out; have := HJ36.out; have := HK3.out; have := HJ50.out; have := HK5.out; omega⟩, ⟨Qr O1.out⟩, ⟨Qr O4.out⟩, ⟨Qb K1.out⟩, ⟨Qb K2.out⟩, ⟨Qb K3.out⟩, ⟨Qz HB.out az.out aC.out am.out⟩⟩
                ·rw [if_neg c73] at H
                 exact absurd H (by simp)
              ·rw [if_neg c67] at H
               have cZ : decide (a6 < (x4_.length : Int)) = false := decide_eq_false c67
               clear c67
               by_cases c78 : bG = true
               ·subst c78
                have H1 : (mD.l0 k5 (wrap64 (aY + 1)) ah ag ai aj ad ae af ak ao x1_ ax ay x4_ (⟨#[]⟩ : ByteArray)) = some (r1, r2, r3, r4, r5, r6, r7, r8) := by rw [if_pos rfl] at H; exact H
                clear H
                have H := H1
                clear H1
                have H' := Aside0.mk H
                clear H
                have hnb79 := N31.out
                have hnc79 := N13.out
                have hnb80 := N32.out
                have hnc80 := N23.out
                obtain ⟨fD, fE, fF, fG, fH, fI, fJ, fK, f81_0, f81_1, f81_2, f81_3, f81_4, f81_5, f81_6, f81_7⟩ := cells8 K3.out
                obtain ⟨Ao82, co82, eo82⟩ := Kd.R_slice O4.out
                subst eo82
                go_wp2
                go_roundg k5
                case measure => have := HJ7.out; have := HJ36.out; have := HK3.out; have := HJ50.out; have := HK5.out; omega
                case rel => exact ⟨(wrap64 (aY + 1)), (x4_), (.slice Ao82 x4_.length co82), Qs, H', ⟨by have := HJ7.out; have := HJ36.out; have := HK3.out; have := HJ50.out; have := HK5.out; omega⟩, ⟨Qr O1.out⟩, ⟨Qr O4.out⟩, ⟨Qb K1.out⟩, ⟨Qb K2.out⟩, ⟨Qb K3.out⟩, ⟨Qz HB.out az.out aC.out am.out⟩⟩
               ·replace c78 := Bool.eq_false_iff.mpr c78
                subst c78
                have H1 : (if x4_.length < 8796093022208 then (mD.l0 k5 (wrap64 (aY + 1)) ah ag ai aj ad ae af ak ao x1_ ax ay (x4_ ++ [ba]) (⟨#[]⟩ : ByteArray)) else (none)) = some (r1, r2, r3, r4, r5, r6, r7, r8) := by rw [if_neg (show ¬ (false = true) by decide)] at H; exact H
                clear H
                have H := H1
                clear H1
                by_cases c83 : x4_.length < 8796093022208
                ·rw [if_pos c83] at H
                 have c0 := Aside0.mk c83
                 clear c83
                 obtain ⟨bH, bk⟩ : ∃ y_ : List ByteArray, y_ = (x4_ ++ [ba]) := ⟨_, rfl⟩
                 replace H : (mD.l0 k5 (wrap64 (aY + 1)) ah ag ai aj ad ae af ak ao x1_ ax ay bH (⟨#[]⟩ : ByteArray)) = some (r1, r2, r3, r4, r5, r6, r7, r8) := by first | (rw [bk]; with_reducible exact H) | (have H2_ := (Option.bind_some _ _).symm.trans H; rw [bk]; with_reducible exact H2_) | (have H2_ := (Option.bind_some _ _).symm.trans H; with_reducible exact H2_) | with_reducible exact H | (rw [bk]; exact H) | exact H
                 have c1 := Aside0.mk bk
                 clear bk
                 have H' := Aside0.mk H
                 clear H
                 have hnb84 := N31.out
                 have hnc84 := N13.out
                 have hnb85 := N32.out
                 have hnc85 := N23.out
                 obtain ⟨da, db, dc, dd, de, df, dg, dh, f86_0, f86_1, f86_2, f86_3, f86_4, f86_5, f86_6, f86_7⟩ := cells8 K3.out
                 obtain ⟨Ao87, co87, eo87⟩ := Kd.R_slice O4.out
                 subst eo87
                 go_wp2_with (first | ((with_reducible refine gate_builtin (b := .append) (xs := #[.tmp 81, .tmp 83]) rfl ?_); at_builtin; refine Kd.R_append Kd.string (w0 := w) w.heap.size rfl (.tmp 81) (.tmp 83) 26 9 (.string ⟨#[]⟩) 16 rfl Tryz.underlying26 info9 rfl (by decide) (by omega) (.slice Ao87 x4_.length co87) x4_ ba [.string ba] (fun k_ => some k_ ≠ (u227001 : Value).ownBlock) (fun _ => False) rfl rfl ?aP (fun _ hk => hk.elim) ?aF ?aO ?aB ?aS ?aL ?_; (case aP => exact rfl); (case aB => exact (Qz HB.out az.out aC.out am.out)); (case aF => exact (fun k_ hk => Kd.fresh' (Kd.R_lt (Qr O1.out)) k_ hk)); (case aO => exact (Qr O4.out)); (case aS => exact (below_size (Qz HB.out az.out aC.out am.out))); (case aL => have := c0.out; omega); intro v241 w88 ho hb hg hat; rw [← c1.out] at ho; have aD := Aside0.mk (Kd.R_after (ok := (fun _ => True)) (by (with_reducible repeat (first | apply rA_ | apply rN_ | apply rD_)); exact Kd.R_mono O1.out (fun _ hk => ⟨trivial, hk⟩)) hg hat); have aE := Aside0.mk (blk_grown (g := ab) (o := .cells #[.int .i64 ah, .int .i64 ag, .int .i64 ai, .int .i64 aj, .slice (some ad237) ad.length ap, .slice aw ae.length aq, .slice au af.length ar, .int .i64 ak] 24 (0, 0)) (Qb K1.out) hg (Kd.R_ne O4.out K1.out (by decide))); have aG := Aside0.mk (blk_grown (g := ac) (o := .cells zT_ 29 (0, 0)) (Qb K2.out) hg (Kd.R_ne O4.out K2.out (by decide))); have aH := Aside0.mk (blk_grown (g := aa) (o := .cells #[.string ao, u227001, .string ax, .string ay, .slice Ao87 x4_.length co87, .slice none 0 0, .slice none 0 0, .string (⟨#[]⟩ : ByteArray)] 29 (0, 0)) (Qb K3.out) hg (Kd.R_ne O4.out K3.out (by decide))); have aI := Aside0.mk (hb); have aM := Aside0.mk (ho); clear O1; clear K1; clear K2; clear K3; clear HB; clear O4; have O1 := aD; have K1 := aE; have K2 := aG; have K3 := aH; have HB := aI; have b3 := aM; clear aD aE aG aH aI aM; clear ho hb hg hat; obtain ⟨Ao89, co89, eo89⟩ := Kd.R_slice b3.out; subst eo89; obtain ⟨fL, fM, fN, fO, fP, fQ, fR, fS, f90_0, f90_1, f90_2, f90_3, f90_4, f90_5, f90_6, f90_7⟩ := cells8 K3.out))
                 go_roundg k5
                 case measure => have := HJ7.out; have := HJ36.out; have := HK3.out; have := HJ50.out; have := HK5.out; omega
                 case rel => exact ⟨(wrap64 (aY + 1)), (bH), (.slice Ao89 bH.length co89), Qs, H', ⟨by have := HJ7.out; have := HJ36.out; have := HK3.out; have := HJ50.out; have := HK5.out; omega⟩, ⟨by (with_reducible repeat (first | apply rA_ | apply rN_ | apply rD_)); exact Kd.R_mono (Kd.R_far (p := ⟨aa, 4, none⟩) (Kd.R_types O1.out K3.out (by decide)) (fun _ hk => hk.2) (.slice Ao89 bH.length co89)) (fun _ hk => hk.1.2)⟩, ⟨by (with_reducible repeat (first | apply rA_ | apply rN_ | apply rD_)); exact Kd.R_mono (Kd.R_far (p := ⟨aa, 4, none⟩) (Kd.R_types b3.out K3.out (by decide)) (fun _ hk => hk.2) (.slice Ao89 bH.length co89)) (fun _ hk => hk.1)⟩, ⟨by (with_reducible repeat (first | refine bN_ ?_ _ | refine bD_ ?_ | refine bA_ ?_ _)); refine blk_far ?_ N13.out _; (with_reducible repeat (first | refine bN_ ?_ _ | refine bD_ ?_ | refine bA_ ?_ _)); exact K1.out⟩, ⟨by (with_reducible repeat (first | refine bN_ ?_ _ | refine bD_ ?_ | refine bA_ ?_ _)); refine blk_far ?_ N23.out _; (with_reducible repeat (first | refine bN_ ?_ _ | refine bD_ ?_ | refine bA_ ?_ _)); exact K2.out⟩, ⟨by (with_reducible repeat (first | refine bN_ ?_ _ | refine bD_ ?_ | refine bA_ ?_ _)); refine blk_put (cs := #[.string ao, u227001, .string ax, .string ay, .slice Ao87 x4_.length co87, .slice none 0 0, .slice none 0 0, .string (⟨#[]⟩ : ByteArray)]) ?_ 4 _ rfl; (with_reducible repeat (first | refine bN_ ?_ _ | refine bD_ ?_ | refine bA_ ?_ _)); exact K3.out⟩, ⟨Qz HB.out az.out aC.out am.out⟩⟩
                ·rw [if_neg c83] at H
                 exact absurd H (by simp)
           ·rw [if_neg c62] at H
            exact absurd H (by simp)
          ·rw [if_neg c61] at H
           exact absurd H (by simp)
         ·replace c59 := Bool.eq_false_iff.mpr c59
          subst c59
          have H1 : (mD.l2 kj50 0 ah ag ai aj ad ae af ak ao x1_ ax ay x4_ ([] : List (S47)) (⟨#[]⟩ : ByteArray)) = some (r1, r2, r3, r4, r5, r6, r7, r8) := by rw [if_neg (show ¬ (false = true) by decide)] at H; exact H
          clear H
          have H := H1
          clear H1
          have H' := Aside0.mk H
          clear H
          go_wp2
          go_loopg [8] kj50 (fun kq v8 w' => ∃ (aK : Int) (x5_ : List (S47)) (u227005 : Value), v8 = .int .i64 aK ∧ Aside0 (mD.l2 kq aK ah ag ai aj ad ae af ak ao x1_ ax ay x4_ x5_ (⟨#[]⟩ : ByteArray) = some (r1, r2, r3, r4, r5, r6, r7, r8)) ∧ Aside0 (kq ≤ kj50) ∧ Aside0 (Kd.R Kd.string 9 w' w.heap.size (fun k_ => some k_ ≠ (u227004 : Value).ownBlock) u227001 x1_) ∧ Aside0 (Kd.R Kd.string 9 w' w.heap.size (fun k_ => some k_ ≠ (u227001 : Value).ownBlock) u227004 x4_) ∧ Aside0 (Kd.S k47 47 w' w.heap.size (fun k_ => some k_ ≠ (u227001 : Value).ownBlock ∧ some k_ ≠ (u227004 : Value).ownBlock) u227005 x5_) ∧ Aside0 (w'.heap[ab]? = some (.cells #[.int .i64 ah, .int .i64 ag, .int .i64 ai, .int .i64 aj, (.slice av ad.length ap), (.slice aw ae.length aq), (.slice au af.length ar), .int .i64 ak] 24 (0, 0))) ∧ Aside0 (w'.heap[ac]? = some (.cells zT_ 29 (0, 0))) ∧ Aside0 (w'.heap[aa]? = some (.cells #[.string ao, u227001, .string ax, .string ay, u227004, u227005, (.slice none 0 0), .string (⟨#[]⟩ : ByteArray)] 29 (0, 0))) ∧ Aside0 (Below w.heap.size w w'))
          case atStart => exact ⟨(0), (([] : List (S47))), (.slice none 0 0), Qs, H', ⟨Nat.le_refl _⟩, ⟨Qr O1.out⟩, ⟨Qr O4.out⟩, ⟨by first | exact Kd.S_nil _ _ _ _ _ | exact Kd.N_nil _ _ _ _ _ | exact Kd.V_nil _ _ _ _ _ | exact Kd.Q_nil _ _ _ _ _ | exact Kd.R_nil _ _ _ _ _⟩, ⟨Qb K1.out⟩, ⟨Qb K2.out⟩, ⟨Qb K3.out⟩, ⟨Qz HB.out az.out aC.out am.out⟩⟩
          case round =>
           clear H'
           try clear c84
           try clear da db dc dd de df dg dh f86_0 f86_1 f86_2 f86_3 f86_4 f86_5 f86_6 f86_7
           try clear q237
           obtain ⟨aK, x5_, u227005, rfl, HA, HK5, O1, O4, O5, K1, K2, K3, HB⟩ := hrel
           cases gk with
           | zero => exact absurd HA.out (by simp [mD.l2])
           | succ k5 =>
            have H := HA.out
            clear HA
            simp only [mD.l2] at H
            have cj := Aside0.mk H
            clear H
            go_upto_region 16 with (fail)
            go_cut [94] (fun v94 wc => ∃ (kq : Nat) (bf : Bool), v94 = .bool bf ∧ Aside0 (mD.j6 kq aK bf ah ag ai aj ad ae af ak ao x1_ ax ay x4_ x5_ (⟨#[]⟩ : ByteArray) = some (r1, r2, r3, r4, r5, r6, r7, r8)) ∧ Aside0 (kq ≤ k5) ∧ Aside0 (Kd.R Kd.string 9 wc w.heap.size (fun k_ => some k_ ≠ (u227004 : Value).ownBlock) u227001 x1_) ∧ Aside0 (Kd.R Kd.string 9 wc w.heap.size (fun k_ => some k_ ≠ (u227001 : Value).ownBlock) u227004 x4_) ∧ Aside0 (Kd.S k47 47 wc w.heap.size (fun k_ => some k_ ≠ (u227001 : Value).ownBlock ∧ some k_ ≠ (u227004 : Value).ownBlock) u227005 x5_) ∧ Aside0 (wc.heap[ab]? = some (.cells #[.int .i64 ah, .int .i64 ag, .int .i64 ai, .int .i64 aj, (.slice av ad.length ap), (.slice aw ae.length aq), (.slice au af.length ar), .int .i64 ak] 24 (0, 0))) ∧ Aside0 (wc.heap[ac]? = some (.cells zT_ 29 (0, 0))) ∧ Aside0 (wc.heap[aa]? = some (.cells #[.string ao, u227001, .string ax, .string ay, u227004, u227005, (.slice none 0 0), .string (⟨#[]⟩ : ByteArray)] 29 (0, 0))) ∧ Aside0 (Below w.heap.size w wc))
            case first =>
             have H := cj.out
             clear cj
             by_cases c92 : aK < (ae.length : Int)
             ·rw [if_pos c92] at H
              have bm : decide (aK < (ae.length : Int)) = true := decide_eq_true c92
              clear c92
              (first | rw [bm] | (simp only [i64_w, i32_w]; rw [bm]) | skip)
              have H' := Aside0.mk H
              clear H
              have hnb93 := N12.out
              have hnc93 := N21.out
              have hnb94 := N13.out
              have hnc94 := N31.out
              obtain ⟨b4, b5, b6, b7, b8, b9, ca, cb, f95_0, f95_1, f95_2, f95_3, f95_4, f95_5, f95_6, f95_7⟩ := cells8 K1.out
              go_wp2
              go_meet
              case rel => exact ⟨_, (decide (aK < 3)), Qs, H', ⟨by have := HJ7.out; have := HJ36.out; have := HK3.out; have := HJ50.out; have := HK5.out; first | omega | exact Nat.le_refl _⟩, ⟨Qr O1.out⟩, ⟨Qr O4.out⟩, ⟨by (with_reducible repeat (first | apply tA_ | apply tN_ | apply tD_)); exact O5.out⟩, ⟨Qb K1.out⟩, ⟨Qb K2.out⟩, ⟨Qb K3.out⟩, ⟨Qz HB.out az.out aC.out am.out⟩⟩
             ·rw [if_neg c92] at H
              have bm : decide (aK < (ae.length : Int)) = false := decide_eq_false c92
              clear c92
              (first | rw [bm] | (simp only [i64_w, i32_w]; rw [bm]) | skip)
              have H' := Aside0.mk H
              clear H
              have hnb96 := N12.out
              have hnc96 := N21.out
              have hnb97 := N13.out
              have hnc97 := N31.out
              obtain ⟨fT, fU, fV, fW, fX, fY, fZ, f0, f98_0, f98_1, f98_2, f98_3, f98_4, f98_5, f98_6, f98_7⟩ := cells8 K1.out
              go_wp2
              go_meet
              case rel => exact ⟨_, (false), Qs, H', ⟨by have := HJ7.out; have := HJ36.out; have := HK3.out; have := HJ50.out; have := HK5.out; first | omega | exact Nat.le_refl _⟩, ⟨Qr O1.out⟩, ⟨Qr O4.out⟩, ⟨by (with_reducible repeat (first | apply tA_ | apply tN_ | apply tD_)); exact O5.out⟩, ⟨Qb K1.out⟩, ⟨Qb K2.out⟩, ⟨Qb K3.out⟩, ⟨Qz HB.out az.out aC.out am.out⟩⟩
            case rest =>
             clear cj
             try clear c96
             try clear b4 b5 b6 b7 b8 b9 ca cb f95_0 f95_1 f95_2 f95_3 f95_4 f95_5 f95_6 f95_7
             try clear q237
             obtain ⟨kq, bf, rfl, HA, HJ90, O1, O4, O5, K1, K2, K3, HB⟩ := hcut
             cases kq with
             | zero => exact absurd HA.out (by simp [mD.j6])
             | succ kj90 =>
              have H := HA.out
              clear HA
              simp only [mD.j6] at H
              by_cases c99 : bf = true
              ·subst c99
               have H1 : ((some (([(⟨#[117]⟩ : ByteArray), (⟨#[116]⟩ : ByteArray), (⟨#[97]⟩ : ByteArray), (⟨#[57]⟩ : ByteArray)] : List ByteArray) : List ByteArray)).bind fun a2 => (if 0 ≤ aK then (if aK < (a2.length : Int) then (if aK < (ae.length : Int) then (mD.l3 kj90 aK (Int.tmod (wrap64 ((Int.tmod (rd ae aK) 1000) + 1000)) 1000) 0 ah ag ai aj ad ae af ak ao x1_ ax ay x4_ x5_ (⟨#[]⟩ : ByteArray) (rdOf ByteArray.empty a2 aK) ([] : List ByteArray)) else (none)) else (none)) else (none))) = some (r1, r2, r3, r4, r5, r6, r7, r8) := by rw [if_pos rfl] at H; exact H
               clear H
               have H := H1
               clear H1
               obtain ⟨a2, bn⟩ : ∃ y_ : List ByteArray, y_ = (([(⟨#[117]⟩ : ByteArray), (⟨#[116]⟩ : ByteArray), (⟨#[97]⟩ : ByteArray), (⟨#[57]⟩ : ByteArray)] : List ByteArray)) := ⟨_, rfl⟩
               replace H : (if 0 ≤ aK then (if aK < (a2.length : Int) then (if aK < (ae.length : Int) then (mD.l3 kj90 aK (Int.tmod (wrap64 ((Int.tmod (rd ae aK) 1000) + 1000)) 1000) 0 ah ag ai aj ad ae af ak ao x1_ ax ay x4_ x5_ (⟨#[]⟩ : ByteArray) (rdOf ByteArray.empty a2 aK) ([] : List ByteArray)) else (none)) else (none)) else (none)) = some (r1, r2, r3, r4, r5, r6, r7, r8) := by first | (rw [bn]; with_reducible exact H) | (have H2_ := (Option.bind_some _ _).symm.trans H; rw [bn]; with_reducible exact H2_) | (have H2_ := (Option.bind_some _ _).symm.trans H; with_reducible exact H2_) | with_reducible exact H | (rw [bn]; exact H) | exact H
               have cc := Aside0.mk bn
               clear bn
               by_cases c100 : 0 ≤ aK
               ·rw [if_pos c100] at H
                have ck : decide (0 ≤ aK) = true := decide_eq_true c100
                clear c100
                by_cases c101 : aK < (a2.length : Int)
                ·rw [if_pos c101] at H
                 have dt : decide (aK < (a2.length : Int)) = true := decide_eq_true c101
                 clear c101
                 by_cases c102 : aK < (ae.length : Int)
                 ·rw [if_pos c102] at H
                  have du : decide (aK < (ae.length : Int)) = true := decide_eq_true c102
                  clear c102
                  have H' := Aside0.mk H
                  clear H
                  go_wp2_with (first | ((with_reducible refine gate_dst (N := 97) rfl ?_); refine Kd.R_lit Kd.string _ 9 ?hg (N := 97) ?hd (xs := ([(⟨#[117]⟩ : ByteArray), (⟨#[116]⟩ : ByteArray), (⟨#[97]⟩ : ByteArray), (⟨#[57]⟩ : ByteArray)] : List ByteArray)) (inner := [.string (⟨#[117]⟩ : ByteArray), .string (⟨#[116]⟩ : ByteArray), .string (⟨#[97]⟩ : ByteArray), .string (⟨#[57]⟩ : ByteArray)]) (ok := fun _ => True) (okp := fun _ => True) ?hr ?hp (fun _ hk => hk) trivial (Below.refl _ _) (Nat.le_refl _) (by simp) ?_; (case hd => rfl); (case hg => rfl); (case hr => first | (go_simp; done) | (go_simp; rfl)); (case hp => exact (Reps.one (show Kd.M Kd.string _ _ _ (⟨#[117]⟩ : ByteArray) [.string (⟨#[117]⟩ : ByteArray)] from rfl) (Reps.one (show Kd.M Kd.string _ _ _ (⟨#[116]⟩ : ByteArray) [.string (⟨#[116]⟩ : ByteArray)] from rfl) (Reps.one (show Kd.M Kd.string _ _ _ (⟨#[97]⟩ : ByteArray) [.string (⟨#[97]⟩ : ByteArray)] from rfl) (Reps.one (show Kd.M Kd.string _ _ _ (⟨#[57]⟩ : ByteArray) [.string (⟨#[57]⟩ : ByteArray)] from rfl) (Reps.none _ _)))))); intro v244 w103 ho104 hb hg_ hnew_; clear hg_ hnew_; (first | rw [← cc.out] at ho104 | (simp only [Int.reduceToNat] at ho104; rw [← cc.out] at ho104)); have aD := Aside0.mk (Kd.R_elder' (Qr O1.out) (Kd.R_base ho104) hb); have aE := Aside0.mk (Kd.R_elder' (Qr O4.out) (Kd.R_base ho104) hb); have aG := Aside0.mk (Kd.S_elder' (by (with_reducible repeat (first | apply tA_ | apply tN_ | apply tD_)); exact O5.out) (Kd.R_base ho104) hb); have aH := Aside0.mk (Kd.R_lower (Kd.R_new' (Kd.R_new' ho104 (Kd.R_lt (Qr O1.out))) (Kd.R_lt (Qr O4.out))) (below_size (Qz HB.out az.out aC.out am.out))); have aI := Aside0.mk (blk_below (g := ab) (o := .cells #[.int .i64 ah, .int .i64 ag, .int .i64 ai, .int .i64 aj, .slice av ad.length ap, .slice aw ae.length aq, .slice au af.length ar, .int .i64 ak] 24 (0, 0)) (Qb K1.out) hb); have aM := Aside0.mk (blk_below (g := ac) (o := .cells zT_ 29 (0, 0)) (Qb K2.out) hb); have aR := Aside0.mk (blk_below (g := aa) (o := .cells #[.string ao, u227001, .string ax, .string ay, u227004, u227005, .slice none 0 0, .string (⟨#[]⟩ : ByteArray)] 29 (0, 0)) (Qb K3.out) hb); have aX := Aside0.mk (below_step (Qz HB.out az.out aC.out am.out) hb); clear O1; clear O4; clear O5; clear K1; clear K2; clear K3; clear HB; have O1 := aD; have O4 := aE; have O5 := aG; have bo := aH; have K1 := aI; have K2 := aM; have K3 := aR; have HB := aX; clear aD aE aG aH aI aM aR aX; clear hb ho104; obtain ⟨Ao105, co105, eo105⟩ := Kd.R_slice bo.out; subst eo105; have p246 : 0 ≤ (aK : Int) := of_decide_eq_true Qa; have q246 : aK < (a2.length : Int) := of_decide_eq_true Qa; obtain ⟨ad246, e246, hx246_0⟩ := Kd.at_string (Kd.R_reads' bo.out).2.2 aK p246 q246; cases e246; replace p246 := eq_true p246; replace q246 := eq_true q246) | ((with_reducible refine gate_dst (N := 9) rfl ?_); refine box_event ?hg (N := 9) ?hd (cs := #[.string (⟨#[]⟩ : ByteArray), .slice none 0 0]) (t := 47) ?hr ?_; (case hd => rfl); (case hg => rfl); (case hr => first | (go_simp; done) | (go_simp; rfl)); intro aJ hg w106 hbox hb; have aD := Aside0.mk (Kd.R_below (Qr O1.out) hb); have aE := Aside0.mk (Kd.R_below (Qr O4.out) hb); have aG := Aside0.mk (Kd.S_below (Kd.S_elderB (by (with_reducible repeat (first | apply tA_ | apply tN_ | apply tD_)); exact O5.out) aJ (Nat.le_of_eq hg.symm)) hb); have aH := Aside0.mk (Kd.R_below (Qr bo.out) hb); have aI := Aside0.mk (blk_below (g := ab) (o := .cells #[.int .i64 ah, .int .i64 ag, .int .i64 ai, .int .i64 aj, .slice av ad.length ap, .slice aw ae.length aq, .slice au af.length ar, .int .i64 ak] 24 (0, 0)) (Qb K1.out) hb); have aM := Aside0.mk (blk_below (g := ac) (o := .cells zT_ 29 (0, 0)) (Qb K2.out) hb); have aR := Aside0.mk (blk_below (g := aa) (o := .cells #[.string ao, u227001, .string ax, .string ay, u227004, u227005, .slice none 0 0, .string (⟨#[]⟩ : ByteArray)] 29 (0, 0)) (Qb K3.out) hb); have aX := Aside0.mk (below_step (Qz HB.out az.out aC.out am.out) hb); have aZ := Aside0.mk (hbox); have a3 := Aside0.mk ((by rw [hg]; exact (below_size (Qz HB.out az.out aC.out am.out)) : w.heap.size ≤ aJ)); have aT := Aside0.mk ((by rw [hg]; exact (below_size (Qz HB.out az.out aC.out am.out)) : w.heap.size ≤ aJ)); have a1 := Aside0.mk ((by rw [hg]; exact Nat.ne_of_lt (blk_lt (g := ab) (o := .cells #[.int .i64 ah, .int .i64 ag, .int .i64 ai, .int .i64 aj, .slice av ad.length ap, .slice aw ae.length aq, .slice au af.length ar, .int .i64 ak] 24 (0, 0)) (Qb K1.out)) : ab ≠ aJ)); have a8 := Aside0.mk ((by rw [hg]; exact Nat.ne_of_gt (blk_lt (g := ab) (o := .cells #[.int .i64 ah, .int .i64 ag, .int .i64 ai, .int .i64 aj, .slice av ad.length ap, .slice aw ae.length aq, .slice au af.length ar, .int .i64 ak] 24 (0, 0)) (Qb K1.out)) : aJ ≠ ab)); have di := Aside0.mk ((by rw [hg]; exact Nat.ne_of_lt (blk_lt (g := ac) (o := .cells zT_ 29 (0, 0)) (Qb K2.out)) : ac ≠ aJ)); have dj := Aside0.mk ((by rw [hg]; exact Nat.ne_of_gt (blk_lt (g := ac) (o := .cells zT_ 29 (0, 0)) (Qb K2.out)) : aJ ≠ ac)); have dk := Aside0.mk ((by rw [hg]; exact Nat.ne_of_lt (blk_lt (g := aa) (o := .cells #[.string ao, u227001, .string ax, .string ay, u227004, u227005, .slice none 0 0, .string (⟨#[]⟩ : ByteArray)] 29 (0, 0)) (Qb K3.out)) : aa ≠ aJ)); have dl := Aside0.mk ((by rw [hg]; exact Nat.ne_of_gt (blk_lt (g := aa) (o := .cells #[.string ao, u227001, .string ax, .string ay, u227004, u227005, .slice none 0 0, .string (⟨#[]⟩ : ByteArray)] 29 (0, 0)) (Qb K3.out)) : aJ ≠ aa)); clear O1; clear O4; clear O5; clear bo; clear K1; clear K2; clear K3; clear HB; have O1 := aD; have O4 := aE; have O5 := aG; have bo := aH; have K1 := aI; have K2 := aM; have K3 := aR; have HB := aX; have K4 := aZ; have GW247 := a3; have a9 := aT; have NB212_247 := a1; have NB247_212 := a8; have NB213_247 := di; have NB247_213 := dj; have NB226_247 := dk; have NB247_226 := dl; clear aD aE aG aH aI aM aR aX aZ a3 aT a1 a8 di dj dk dl; clear hb hbox hg; have hnb107 := NB247_212.out; have hnc107 := NB212_247.out; have hnb108 := NB247_213.out; have hnc108 := NB213_247.out; have hnb109 := NB247_226.out; have hnc109 := NB226_247.out; obtain ⟨cl, cm, f110_0, f110_1⟩ := cells2 K4.out; have hnb111 := N12.out; have hnc111 := N21.out; have hnb112 := N13.out; have hnc112 := N31.out; obtain ⟨dv, dw, dx, dy, dz, dA, dB, dC, f113_0, f113_1, f113_2, f113_3, f113_4, f113_5, f113_6, f113_7⟩ := cells8 K1.out; have p248 : 0 ≤ (aK : Int) := of_decide_eq_true Qa; have q248 : aK < (ae.length : Int) := of_decide_eq_true Qa; obtain ⟨ad248, e248, hx248_0⟩ := Kd.at_int cL.out aK p248 q248; cases e248; have hn248_0 : ad248.block ≠ aJ := Nat.ne_of_lt (Nat.lt_of_lt_of_le (by have := World.block_lt_of_cell? _ _ hx248_0; first | rwa [add_block] at this | exact this) GW247.out); have hn248_1 : ad248.block ≠ aJ := Nat.ne_of_lt (Nat.lt_of_lt_of_le (by have := World.block_lt_of_cell? _ _ hx248_0; first | rwa [add_block] at this | exact this) GW247.out); replace hx248_0 := (HB.out.cell (World.block_lt_of_cell? w _ hx248_0)).trans hx248_0; replace hx248_0 := (cell_far (p := ⟨aJ, 0, none⟩) (by first | (rw [add_block]; exact hn248_0) | (show (Addr.add _ _).block ≠ _; rw [add_block]; exact hn248_0) | exact hn248_0) (.string (rdOf ByteArray.empty a2 aK))).trans hx248_0; replace hx248_0 := (cell_far (p := ⟨aJ, 1, none⟩) (by first | (rw [add_block]; exact hn248_1) | (show (Addr.add _ _).block ≠ _; rw [add_block]; exact hn248_1) | exact hn248_1) (.slice none 0 0)).trans hx248_0; clear hn248_0; clear hn248_1; replace p248 := eq_true p248; replace q248 := eq_true q248))
                  generalize Int.tmod (wrap64 ((Int.tmod (rd ae aK) 1000) + 1000)) 1000 = n10 at *
                  go_loopg [11] kj90 (fun kq v11 w' => ∃ (a4 : Int) (aQ : List ByteArray) (u248001 : Value), v11 = .int .i64 a4 ∧ Aside0 (mD.l3 kq aK n10 a4 ah ag ai aj ad ae af ak ao x1_ ax ay x4_ x5_ (⟨#[]⟩ : ByteArray) (rdOf ByteArray.empty a2 aK) aQ = some (r1, r2, r3, r4, r5, r6, r7, r8)) ∧ Aside0 (kq ≤ kj90) ∧ Aside0 (Kd.R Kd.string 9 w' w.heap.size (fun k_ => some k_ ≠ (u227004 : Value).ownBlock ∧ some k_ ≠ (u248001 : Value).ownBlock) u227001 x1_) ∧ Aside0 (Kd.R Kd.string 9 w' w.heap.size (fun k_ => some k_ ≠ (u227001 : Value).ownBlock ∧ some k_ ≠ (u248001 : Value).ownBlock) u227004 x4_) ∧ Aside0 (Kd.S k47 47 w' w.heap.size (fun k_ => some k_ ≠ (u227001 : Value).ownBlock ∧ some k_ ≠ (u227004 : Value).ownBlock ∧ some k_ ≠ (u248001 : Value).ownBlock ∧ k_ ≠ aJ) u227005 x5_) ∧ Aside0 (Kd.R Kd.string 9 w' w.heap.size (fun k_ => some k_ ≠ (u227001 : Value).ownBlock ∧ some k_ ≠ (u227004 : Value).ownBlock) u248001 aQ) ∧ Aside0 (w'.heap[ab]? = some (.cells #[.int .i64 ah, .int .i64 ag, .int .i64 ai, .int .i64 aj, (.slice av ad.length ap), (.slice (some ad248) ae.length aq), (.slice au af.length ar), .int .i64 ak] 24 (0, 0))) ∧ Aside0 (w'.heap[ac]? = some (.cells zT_ 29 (0, 0))) ∧ Aside0 (w'.heap[aa]? = some (.cells #[.string ao, u227001, .string ax, .string ay, u227004, u227005, (.slice none 0 0), .string (⟨#[]⟩ : ByteArray)] 29 (0, 0))) ∧ Aside0 (w'.heap[aJ]? = some (.cells #[.string (rdOf ByteArray.empty a2 aK), u248001] 47 (0, 0))) ∧ Aside0 (Below w.heap.size w w'))
                  case atStart => exact ⟨(0), (([] : List ByteArray)), (.slice none 0 0), Qs, H', ⟨Nat.le_refl _⟩, ⟨by (with_reducible repeat (first | apply rA_ | apply rN_ | apply rD_)); exact Kd.R_mono (Kd.R_far (p := ⟨aJ, 1, none⟩) (Kd.R_far (p := ⟨aJ, 0, none⟩) (Kd.R_types O1.out K4.out (by decide)) (fun _ hk => hk.2) (.string (rdOf ByteArray.empty a2 aK))) (fun _ hk => hk.2) (.slice none 0 0)) (fun _ hk => ⟨hk.1.1, (by simp [Value.ownBlock])⟩)⟩, ⟨by (with_reducible repeat (first | apply rA_ | apply rN_ | apply rD_)); exact Kd.R_mono (Kd.R_far (p := ⟨aJ, 1, none⟩) (Kd.R_far (p := ⟨aJ, 0, none⟩) (Kd.R_types O4.out K4.out (by decide)) (fun _ hk => hk.2) (.string (rdOf ByteArray.empty a2 aK))) (fun _ hk => hk.2) (.slice none 0 0)) (fun _ hk => ⟨hk.1.1, (by simp [Value.ownBlock])⟩)⟩, ⟨by (with_reducible repeat (first | apply tA_ | apply tN_ | apply tD_)); exact Kd.S_mono (Kd.S_far (p := ⟨aJ, 1, none⟩) (Kd.S_far (p := ⟨aJ, 0, none⟩) (Kd.S_mono O5.out (fun k_ hk => (⟨hk, hk.2⟩ : _ ∧ k_ ≠ aJ))) (fun _ hk => hk.2) (.string (rdOf ByteArray.empty a2 aK))) (fun _ hk => hk.2) (.slice none 0 0)) (fun _ hk => ⟨hk.1.1.1.1, ⟨hk.1.1.1.2, ⟨(by simp [Value.ownBlock]), hk.1.2⟩⟩⟩)⟩, ⟨by first | exact Kd.R_nil _ _ _ _ _ | exact Kd.N_nil _ _ _ _ _ | exact Kd.V_nil _ _ _ _ _ | exact Kd.Q_nil _ _ _ _ _ | exact Kd.S_nil _ _ _ _ _⟩, ⟨by (with_reducible repeat (first | refine bN_ ?_ _ | refine bD_ ?_ | refine bA_ ?_ _)); refine blk_far ?_ NB212_247.out _; (with_reducible repeat (first | refine bN_ ?_ _ | refine bD_ ?_ | refine bA_ ?_ _)); refine blk_far ?_ NB212_247.out _; (with_reducible repeat (first | refine bN_ ?_ _ | refine bD_ ?_ | refine bA_ ?_ _)); exact K1.out⟩, ⟨by (with_reducible repeat (first | refine bN_ ?_ _ | refine bD_ ?_ | refine bA_ ?_ _)); refine blk_far ?_ NB213_247.out _; (with_reducible repeat (first | refine bN_ ?_ _ | refine bD_ ?_ | refine bA_ ?_ _)); refine blk_far ?_ NB213_247.out _; (with_reducible repeat (first | refine bN_ ?_ _ | refine bD_ ?_ | refine bA_ ?_ _)); exact K2.out⟩, ⟨by (with_reducible repeat (first | refine bN_ ?_ _ | refine bD_ ?_ | refine bA_ ?_ _)); refine blk_far ?_ NB226_247.out _; (with_reducible repeat (first | refine bN_ ?_ _ | refine bD_ ?_ | refine bA_ ?_ _)); refine blk_far ?_ NB226_247.out _; (with_reducible repeat (first | refine bN_ ?_ _ | refine bD_ ?_ | refine bA_ ?_ _)); exact K3.out⟩, ⟨by (with_reducible repeat (first | refine bN_ ?_ _ | refine bD_ ?_ | refine bA_ ?_ _)); refine blk_put (cs := #[.string (rdOf ByteArray.empty a2 aK), .slice none 0 0]) ?_ 1 _ rfl; (with_reducible repeat (first | refine bN_ ?_ _ | refine bD_ ?_ | refine bA_ ?_ _)); refine blk_put (cs := #[.string (⟨#[]⟩ : ByteArray), .slice none 0 0]) ?_ 0 _ rfl; (with_reducible repeat (first | refine bN_ ?_ _ | refine bD_ ?_ | refine bA_ ?_ _)); exact K4.out⟩, ⟨by repeat (first | (with_reducible first | exact HB.out | apply wA_ | apply wN_ | apply wD_ | refine wS_ ?_ az.out | refine wS_ ?_ aC.out | refine wS_ ?_ am.out | refine wS_ ?_ a9.out) | exact HB.out)⟩⟩
                  case round =>
                   clear H'
                   try clear ck; try clear c111
                   try clear cl cm f110_0 f110_1; try clear b4 b5 b6 b7 b8 b9 ca cb f95_0 f95_1 f95_2 f95_3 f95_4 f95_5 f95_6 f95_7
                   try clear hx246_0; try clear q246
                   obtain ⟨a4, aQ, u248001, rfl, HA, HK7, O1, O4, O5, HO_248001, K1, K2, K3, K4, HB⟩ := hrel
                   cases gk with
                   | zero => exact absurd HA.out (by simp [mD.l3])
                   | succ k7 =>
                    have H := HA.out
                    clear HA
                    simp only [mD.l3] at H
                    by_cases c114 : a4 ≤ (Int.tmod n10 4)
                    ·rw [if_pos c114] at H
                     have cn : decide (a4 ≤ (Int.tmod n10 4)) = true := decide_eq_true c114
                     clear c114
                     replace H := Option.bind_eq_some_iff.mp H
                     obtain ⟨bu, A1172, H⟩ := H
                     try dsimp only at H
                     have dD := Aside0.mk A1172
                     clear A1172
                     replace H := Option.bind_eq_some_iff.mp H
                     obtain ⟨bJ, A1182, H⟩ := H
                     try dsimp only at H
                     have dE := Aside0.mk A1182
                     clear A1182
                     by_cases c117 : aQ.length < 8796093022208
                     ·rw [if_pos c117] at H
                      have co := Aside0.mk c117
                      clear c117
                      obtain ⟨bv, bp⟩ : ∃ y_ : List ByteArray, y_ = (aQ ++ [bJ]) := ⟨_, rfl⟩
                      replace H : (mD.l3 k7 aK n10 (wrap64 (a4 + 1)) ah ag ai aj ad ae af ak ao x1_ ax ay x4_ x5_ (⟨#[]⟩ : ByteArray) (rdOf ByteArray.empty a2 aK) bv) = some (r1, r2, r3, r4, r5, r6, r7, r8) := by first | (rw [bp]; with_reducible exact H) | (have H2_ := (Option.bind_some _ _).symm.trans H; rw [bp]; with_reducible exact H2_) | (have H2_ := (Option.bind_some _ _).symm.trans H; with_reducible exact H2_) | with_reducible exact H | (rw [bp]; exact H) | exact H
                      have dm := Aside0.mk bp
                      clear bp
                      have H' := Aside0.mk H
                      clear H
                      try go_wp2
                      have aD := Aside0.mk (rD_ O1.out)
                      have aE := Aside0.mk (rD_ O4.out)
                      have aG := Aside0.mk (tD_ O5.out)
                      have aH := Aside0.mk (rD_ HO_248001.out)
                      have aI := Aside0.mk (bD_ K1.out)
                      have aM := Aside0.mk (bD_ K2.out)
                      have aR := Aside0.mk (bD_ K3.out)
                      have aX := Aside0.mk (bD_ K4.out)
                      have aZ := Aside0.mk (wD_ HB.out)
                      clear O1 O4 O5 HO_248001 K1 K2 K3 K4 HB
                      have O1 := aD; have O4 := aE; have O5 := aG; have HO_248001 := aH; have K1 := aI; have K2 := aM; have K3 := aR; have K4 := aX; have HB := aZ
                      clear aD aE aG aH aI aM aR aX aZ
                      refine start_ (n := 15) (S := fun w' => w'.cell? ⟨aJ, 0, none⟩ = some (.string (rdOf ByteArray.empty a2 aK)) ∧ w'.cell? ⟨aJ, 1, none⟩ = some (u248001)) (ds := [14]) #[false, false, false, false, false, false, false, false, false, false, false, false, false, false, false] (by kernel_rfl) rfl rfl ⟨(bC_ K4.out 0).trans rfl, (bC_ K4.out 1).trans rfl⟩ (fun hHeld => ?_); refine with_tabW mD.tab23 mD.bits23 (fun HT_ HW_ => ?_)
                      generalize wr.drew = w118 at O1 O4 O5 HO_248001 K1 K2 K3 K4 HB hHeld ⊢
                      refine pu_ (i := 0) (N := some 116) HT_ (bl_ 15 1) ?_
                      refine pu_ (i := 3) (N := some 119) HT_ (bl_ 15 9) ?_
                      refine pu_ (i := 4) (N := some 120) HT_ (bl_ 15 25) ?_
                      refine pu_ (i := 5) (N := some 121) HT_ (bl_ 15 57) ?_
                      refine pu_ (i := 6) (N := some 122) HT_ (bl_ 15 121) ?_
                      refine pu_ (i := 7) (N := some 123) HT_ (bl_ 15 249) ?_
                      refine pu_ (i := 8) (N := some 124) HT_ (bl_ 15 505) ?_
                      refine pu_ (i := 9) (N := some 125) HT_ (bl_ 15 1017) ?_
                      refine tk_ (i := 1) (N := some 117) HT_ HW_ (bl_ 15 1019) hHeld ?_ (hy := by rintro w' ⟨s0, s1⟩; go_simp; with_reducible rfl)
                      refine on_ (i := 2) (N := some 118) HT_ (bl_ 15 1023) rfl rfl (fun K hK => ?_)
                      refine goes_ Tryz.func37 (by kernel_rfl) rfl #[] (by rfl) rfl rfl Qm ?_
                      with_reducible refine (r6_words.calls  bu _ dD.out).mono ?_
                      rintro e w119 ⟨v250, rfl, ho0, hb⟩
                      refine ⟨_, rfl, ?_⟩
                      have aD := Aside0.mk (Kd.R_elder' (Qr O1.out) (Kd.R_base ho0) hb)
                      have aE := Aside0.mk (Kd.R_elder' (Qr O4.out) (Kd.R_base ho0) hb)
                      have aG := Aside0.mk (Kd.S_elder' (by (with_reducible repeat (first | apply tA_ | apply tN_ | apply tD_)); exact O5.out) (Kd.R_base ho0) hb)
                      have aH := Aside0.mk (Kd.R_elder' (Qr HO_248001.out) (Kd.R_base ho0) hb)
                      have aI := Aside0.mk (Kd.R_lower (Kd.R_new' (Kd.R_new' (Kd.R_new' ho0 (Kd.R_lt (Qr O1.out))) (Kd.R_lt (Qr O4.out))) (Kd.R_lt (Qr HO_248001.out))) (below_size (by repeat (first | (with_reducible first | exact HB.out | apply wA_ | apply wN_ | apply wD_ | refine wS_ ?_ az.out | refine wS_ ?_ aC.out | refine wS_ ?_ am.out | refine wS_ ?_ a9.out) | exact HB.out))))
                      have aM := Aside0.mk (blk_below (g := ab) (o := .cells #[.int .i64 ah, .int .i64 ag, .int .i64 ai, .int .i64 aj, .slice av ad.length ap, .slice (some ad248) ae.length aq, .slice au af.length ar, .int .i64 ak] 24 (0, 0)) (Qb K1.out) hb)
                      have aR := Aside0.mk (blk_below (g := ac) (o := .cells zT_ 29 (0, 0)) (Qb K2.out) hb)
                      have aX := Aside0.mk (blk_below (g := aa) (o := .cells #[.string ao, u227001, .string ax, .string ay, u227004, u227005, .slice none 0 0, .string (⟨#[]⟩ : ByteArray)] 29 (0, 0)) (Qb K3.out) hb)
                      have aZ := Aside0.mk (blk_below (g := aJ) (o := .cells #[.string (rdOf ByteArray.empty a2 aK), u248001] 47 (0, 0)) (Qb K4.out) hb)
                      have a3 := Aside0.mk (below_step (by repeat (first | (with_reducible first | exact HB.out | apply wA_ | apply wN_ | apply wD_ | refine wS_ ?_ az.out | refine wS_ ?_ aC.out | refine wS_ ?_ am.out | refine wS_ ?_ a9.out) | exact HB.out)) hb)
                      clear O1 O4 O5 HO_248001 K1 K2 K3 K4 HB
                      have O1 := aD; have O4 := aE; have O5 := aG; have HO_248001 := aH; have bb := aI; have K1 := aM; have K2 := aR; have K3 := aX; have K4 := aZ; have HB := a3
                      clear aD aE aG aH aI aM aR aX aZ a3
                      (try clear hb); (try clear ho0)
                      obtain ⟨Ao120, co120, eo120⟩ := Kd.R_slice bb.out
                      (first | subst eo120 | (injection eo120 with f1_ f2_ f3_; have f4_ := f1_.symm; have f5_ := f3_.symm; clear f1_ f2_ f3_; subst f4_; subst f5_))
                      refine hK.out _ _ ⟨(bC_ K4.out 0).trans rfl, (bC_ K4.out 1).trans rfl⟩ (fun hHeld => ?_)
                      clear hK K
                      refine nm_ (some 118) ?_
                      refine on_ (i := 10) (N := some 126) HT_ (bl_ 15 2047) rfl rfl (fun K hK => ?_)
                      refine goes_ Tryz.func32 (by kernel_rfl) rfl #[.slice Ao120 bu.length co120, .int .i64 (wrap64 ((wrap64 (Int.tdiv n10 4)) + (wrap64 ((wrap64 (a4 * a4)) * 3))))] (by rfl) rfl rfl Qm ?_
                      with_reducible refine (r6_Pick.calls _ _ bu (wrap64 ((wrap64 (Int.tdiv n10 4)) + (wrap64 ((wrap64 (a4 * a4)) * 3)))) bJ _ ?side1 ?side2 dE.out).mono ?_
                      (case side1 => repeat (first | exact (Kd.R_reads' bb.out).2.2 | (with_reducible refine Kd.C_alloc ?_ _) | (with_reducible refine Kd.C_drewN ?_ _) | (with_reducible refine Kd.C_drew ?_)))
                      (case side2 => exact (Kd.R_reads' bb.out).2.1)
                      rintro e w' ⟨rfl, ⟨nd, rfl⟩⟩
                      refine ⟨_, rfl, ?_⟩
                      refine hK.out _ _ ⟨(bC_ K4.out 0).trans rfl, (bC_ K4.out 1).trans rfl⟩ (fun hHeld => ?_)
                      clear hK K
                      refine nm_ (some 126) ?_
                      refine on_ (i := 11) (N := some 127) HT_ (bl_ 15 4095) rfl rfl (fun K hK => ?_)
                      refine value_ (w1 := ?_) (v := ?_) (by rfl) rfl ?_ ?_
                      rotate_left 2
                      ·go_simp
                       constructor
                       ·rfl
                       ·rfl
                      refine hK.out _ _ ⟨(bC_ (bA_ K4.out _) 0).trans rfl, (bC_ (bA_ K4.out _) 1).trans rfl⟩ (fun hHeld => ?_)
                      clear hK K
                      refine nm_ (some 127) ?_
                      refine on_ (i := 12) (N := some 128) HT_ (bl_ 15 8191) rfl rfl (fun K hK => ?_)
                      refine Kd.R_append_step Kd.string (w0 := w) w.heap.size (by rfl) (.tmp 117) (.tmp 127) 26 9 (.string ⟨#[]⟩) 16 rfl Tryz.underlying26 info9 rfl (by decide) (by omega) u248001 aQ bJ [.string bJ] (fun k_ => some k_ ≠ (u227001 : Value).ownBlock ∧ some k_ ≠ (u227004 : Value).ownBlock ∧ some k_ ≠ (.slice Ao120 bu.length co120 : Value).ownBlock) (fun _ => False) rfl rfl ?aP (fun _ hk => hk.elim) ?aF ?aO ?aB ?aS ?aL ?_
                      (case aP => exact rfl)
                      (case aB => exact (by repeat (first | (with_reducible first | exact HB.out | apply wA_ | apply wN_ | apply wD_ | refine wS_ ?_ az.out | refine wS_ ?_ aC.out | refine wS_ ?_ am.out | refine wS_ ?_ a9.out) | exact HB.out)))
                      (case aF => exact (fun k_ hk => ⟨Kd.fresh' (Kd.R_lt (Qr O1.out)) k_ hk, Kd.fresh' (Kd.R_lt (Qr O4.out)) k_ hk, Kd.fresh' (Kd.R_lt (Qr bb.out)) k_ hk⟩))
                      (case aO => exact (by (with_reducible repeat (first | apply rA_ | apply rN_ | apply rD_)); exact Kd.R_mono HO_248001.out (fun _ hk => ⟨hk.1.1, ⟨hk.1.2, hk.2⟩⟩)))
                      (case aS => exact (below_size (by repeat (first | (with_reducible first | exact HB.out | apply wA_ | apply wN_ | apply wD_ | refine wS_ ?_ az.out | refine wS_ ?_ aC.out | refine wS_ ?_ am.out | refine wS_ ?_ a9.out) | exact HB.out))))
                      (case aL => have := co.out; omega)
                      intro v254 w121 ho hb hg hat
                      rw [← dm.out] at ho
                      have aD := Aside0.mk (Kd.R_after (ok := (fun k_ => some k_ ≠ (u227004 : Value).ownBlock ∧ some k_ ≠ (.slice Ao120 bu.length co120 : Value).ownBlock)) (by (with_reducible repeat (first | apply rA_ | apply rN_ | apply rD_)); exact Kd.R_mono O1.out (fun _ hk => ⟨⟨hk.1.1, hk.2⟩, hk.1.2⟩)) hg hat)
                      have aE := Aside0.mk (Kd.R_after (ok := (fun k_ => some k_ ≠ (u227001 : Value).ownBlock ∧ some k_ ≠ (.slice Ao120 bu.length co120 : Value).ownBlock)) (by (with_reducible repeat (first | apply rA_ | apply rN_ | apply rD_)); exact Kd.R_mono O4.out (fun _ hk => ⟨⟨hk.1.1, hk.2⟩, hk.1.2⟩)) hg hat)
                      have aG := Aside0.mk (Kd.S_after (ok := (fun k_ => some k_ ≠ (u227001 : Value).ownBlock ∧ some k_ ≠ (u227004 : Value).ownBlock ∧ some k_ ≠ (.slice Ao120 bu.length co120 : Value).ownBlock ∧ k_ ≠ aJ)) (by (with_reducible repeat (first | apply tA_ | apply tN_ | apply tD_)); exact Kd.S_mono O5.out (fun _ hk => ⟨⟨hk.1.1, ⟨hk.1.2.1, ⟨hk.2, hk.1.2.2.2⟩⟩⟩, hk.1.2.2.1⟩)) hg hat)
                      have aH := Aside0.mk (blk_grown (g := ab) (o := .cells #[.int .i64 ah, .int .i64 ag, .int .i64 ai, .int .i64 aj, .slice av ad.length ap, .slice (some ad248) ae.length aq, .slice au af.length ar, .int .i64 ak] 24 (0, 0)) (Qb K1.out) hg (Kd.R_ne HO_248001.out K1.out (by decide)))
                      have aI := Aside0.mk (blk_grown (g := ac) (o := .cells zT_ 29 (0, 0)) (Qb K2.out) hg (Kd.R_ne HO_248001.out K2.out (by decide)))
                      have aM := Aside0.mk (blk_grown (g := aa) (o := .cells #[.string ao, u227001, .string ax, .string ay, u227004, u227005, .slice none 0 0, .string (⟨#[]⟩ : ByteArray)] 29 (0, 0)) (Qb K3.out) hg (Kd.R_ne HO_248001.out K3.out (by decide)))
                      have aR := Aside0.mk (blk_grown (g := aJ) (o := .cells #[.string (rdOf ByteArray.empty a2 aK), u248001] 47 (0, 0)) (Qb K4.out) hg (Kd.R_ne HO_248001.out K4.out (by decide)))
                      have aX := Aside0.mk (Kd.R_after (ok := (fun k_ => some k_ ≠ (u227001 : Value).ownBlock ∧ some k_ ≠ (u227004 : Value).ownBlock)) (by (with_reducible repeat (first | apply rA_ | apply rN_ | apply rD_)); exact Kd.R_mono bb.out (fun _ hk => ⟨⟨hk.1.1.2, hk.1.2⟩, hk.2⟩)) hg hat)
                      have aZ := Aside0.mk (hb)
                      have a3 := Aside0.mk (ho)
                      clear O1 O4 O5 K1 K2 K3 K4 bb HB HO_248001
                      have O1 := aD; have O4 := aE; have O5 := aG; have K1 := aH; have K2 := aI; have K3 := aM; have K4 := aR; have bb := aX; have HB := aZ; have cd := a3
                      clear aD aE aG aH aI aM aR aX aZ a3 ho hb hg hat
                      obtain ⟨Ao122, co122, eo122⟩ := Kd.R_slice cd.out
                      (first | subst eo122 | (injection eo122 with f1_ f2_ f3_; have f4_ := f1_.symm; have f5_ := f3_.symm; clear f1_ f2_ f3_; subst f4_; subst f5_))
                      refine hK.out _ _ ⟨(bC_ K4.out 0).trans rfl, (bC_ K4.out 1).trans rfl⟩ (fun hHeld => ?_)
                      clear hK K
                      refine nm_ (some 128) ?_
                      refine pu_ (i := 13) (N := some 129) HT_ (bl_ 15 16383) ?_
                      refine last_ (i := 14) (N := none) #[true, true, true, true, true, true, true, true, true, true, true, true, true, true, true] rfl rfl (one_of HT_.out (by kernel_rfl)) (by decide) (fun K hK => ?_)
                      have hs123 : w121.cell? ⟨aJ, 1, none⟩ = some (u248001) := (bC_ K4.out 1).trans rfl
                      have hfs123 := bF_ K4.out 1
                      have hns123_0 := NB212_247.out
                      have hns123_1 := NB213_247.out
                      have hns123_2 := NB226_247.out
                      have hms123_0 := NB247_212.out
                      have hms123_1 := NB247_213.out
                      have hms123_2 := NB247_226.out
                      refine skip_ (w1 := ?_) (by rfl) rfl ?_ ?_
                      rotate_left
                      ·go_simp
                       rfl
                      refine hK.out _ _ ?_
                      clear hK K
                      refine done_ (done_of HT_.out (by kernel_rfl)) ?_
                      try go_wp2
                      go_roundg k7
                      case measure => have := HJ7.out; have := HJ36.out; have := HK3.out; have := HJ50.out; have := HK5.out; have := HJ90.out; have := HK7.out; omega
                      case rel => exact ⟨(wrap64 (a4 + 1)), (bv), (.slice Ao122 bv.length co122), Qs, H', ⟨by have := HJ7.out; have := HJ36.out; have := HK3.out; have := HJ50.out; have := HK5.out; have := HJ90.out; have := HK7.out; omega⟩, ⟨by (with_reducible repeat (first | apply rA_ | apply rN_ | apply rD_)); exact Kd.R_mono (Kd.R_far (p := ⟨aJ, 1, none⟩) (Kd.R_types O1.out K4.out (by decide)) (fun _ hk => hk.2) (.slice Ao122 bv.length co122)) (fun _ hk => ⟨hk.1.1.1, hk.1.2⟩)⟩, ⟨by (with_reducible repeat (first | apply rA_ | apply rN_ | apply rD_)); exact Kd.R_mono (Kd.R_far (p := ⟨aJ, 1, none⟩) (Kd.R_types O4.out K4.out (by decide)) (fun _ hk => hk.2) (.slice Ao122 bv.length co122)) (fun _ hk => ⟨hk.1.1.1, hk.1.2⟩)⟩, ⟨by (with_reducible repeat (first | apply tA_ | apply tN_ | apply tD_)); exact Kd.S_mono (Kd.S_far (p := ⟨aJ, 1, none⟩) (Kd.S_mono O5.out (fun k_ hk => (⟨hk, hk.1.2.2.2⟩ : _ ∧ k_ ≠ aJ))) (fun _ hk => hk.2) (.slice Ao122 bv.length co122)) (fun _ hk => ⟨hk.1.1.1, ⟨hk.1.1.2.1, ⟨hk.1.2, hk.1.1.2.2.2⟩⟩⟩)⟩, ⟨by (with_reducible repeat (first | apply rA_ | apply rN_ | apply rD_)); exact Kd.R_mono (Kd.R_far (p := ⟨aJ, 1, none⟩) (Kd.R_types cd.out K4.out (by decide)) (fun _ hk => hk.2) (.slice Ao122 bv.length co122)) (fun _ hk => ⟨hk.1.1, hk.1.2.1⟩)⟩, ⟨by (with_reducible repeat (first | refine bN_ ?_ _ | refine bD_ ?_ | refine bA_ ?_ _)); refine blk_far ?_ NB212_247.out _; (with_reducible repeat (first | refine bN_ ?_ _ | refine bD_ ?_ | refine bA_ ?_ _)); exact K1.out⟩, ⟨by (with_reducible repeat (first | refine bN_ ?_ _ | refine bD_ ?_ | refine bA_ ?_ _)); refine blk_far ?_ NB213_247.out _; (with_reducible repeat (first | refine bN_ ?_ _ | refine bD_ ?_ | refine bA_ ?_ _)); exact K2.out⟩, ⟨by (with_reducible repeat (first | refine bN_ ?_ _ | refine bD_ ?_ | refine bA_ ?_ _)); refine blk_far ?_ NB226_247.out _; (with_reducible repeat (first | refine bN_ ?_ _ | refine bD_ ?_ | refine bA_ ?_ _)); exact K3.out⟩, ⟨by (with_reducible repeat (first | refine bN_ ?_ _ | refine bD_ ?_ | refine bA_ ?_ _)); refine blk_put (cs := #[.string (rdOf ByteArray.empty a2 aK), u248001]) ?_ 1 _ rfl; (with_reducible repeat (first | refine bN_ ?_ _ | refine bD_ ?_ | refine bA_ ?_ _)); exact K4.out⟩, ⟨by repeat (first | (with_reducible first | exact HB.out | apply wA_ | apply wN_ | apply wD_ | refine wS_ ?_ az.out | refine wS_ ?_ aC.out | refine wS_ ?_ am.out | refine wS_ ?_ a9.out) | exact HB.out)⟩⟩
                     ·rw [if_neg c117] at H
                      exact absurd H (by simp)
                    ·rw [if_neg c114] at H
                     have cn : decide (a4 ≤ (Int.tmod n10 4)) = false := decide_eq_false c114
                     clear c114
                     by_cases c124 : x5_.length < 3518437208883
                     ·rw [if_pos c124] at H
                      have cp := Aside0.mk c124
                      clear c124
                      obtain ⟨bA, bq⟩ : ∃ y_ : List (S47), y_ = (x5_ ++ [(⟨(rdOf ByteArray.empty a2 aK), aQ⟩ : S47)]) := ⟨_, rfl⟩
                      replace H : (mD.l2 k7 (wrap64 (aK + 1)) ah ag ai aj ad ae af ak ao x1_ ax ay x4_ bA (⟨#[]⟩ : ByteArray)) = some (r1, r2, r3, r4, r5, r6, r7, r8) := by first | (rw [bq]; with_reducible exact H) | (have H2_ := (Option.bind_some _ _).symm.trans H; rw [bq]; with_reducible exact H2_) | (have H2_ := (Option.bind_some _ _).symm.trans H; with_reducible exact H2_) | with_reducible exact H | (rw [bq]; exact H) | exact H
                      have dn := Aside0.mk bq
                      clear bq
                      have H' := Aside0.mk H
                      clear H
                      have hnb125 := N31.out
                      have hnc125 := N13.out
                      have hnb126 := N32.out
                      have hnc126 := N23.out
                      have hnb127 := NB226_247.out
                      have hnc127 := NB247_226.out
                      obtain ⟨dF, dG, dH, dI, dJ, dK, dL, dM, f128_0, f128_1, f128_2, f128_3, f128_4, f128_5, f128_6, f128_7⟩ := cells8 K3.out
                      have hnb129 := NB247_212.out
                      have hnc129 := NB212_247.out
                      have hnb130 := NB247_213.out
                      have hnc130 := NB213_247.out
                      obtain ⟨dN, dO, f131_0, f131_1⟩ := cells2 K4.out
                      obtain ⟨Ao133, co133, eo133⟩ := Kd.R_slice HO_248001.out
                      subst eo133
                      go_wp2_with (first | ((with_reducible refine gate_builtin (b := .append) (xs := #[.tmp 131, .tmp 133]) rfl ?_); at_builtin; refine Kd.S_append k47 (w0 := w) w.heap.size rfl (.tmp 131) (.tmp 133) 27 47 (.agg #[(.string ⟨#[]⟩), (.slice none 0 0)]) 40 rfl Tryz.underlying27 info47 rfl (by decide) (by omega) u227005 x5_ (⟨(rdOf ByteArray.empty a2 aK), aQ⟩ : S47) [.string (rdOf ByteArray.empty a2 aK), .slice Ao133 aQ.length co133] (fun k_ => some k_ ≠ (u227001 : Value).ownBlock ∧ some k_ ≠ (u227004 : Value).ownBlock ∧ k_ ≠ aJ) (fun k_ => some k_ = (.slice Ao133 aQ.length co133 : Value).ownBlock) rfl rfl ?aP (fun k_ hk_ => ((Kd.R_mono (ok' := fun k_ => ((fun k_ => some k_ ≠ (u227001 : Value).ownBlock ∧ some k_ ≠ (u227004 : Value).ownBlock ∧ k_ ≠ aJ)) k_ ∧ some k_ ≠ (u227005 : Value).ownBlock) (Kd.R_types (Kd.R_apart' (HO_248001.out) (Kd.S_typed O5.out) (by decide)) K4.out (by decide)) (fun k_ hk => ⟨⟨hk.1.1.1, ⟨hk.1.1.2, hk.2⟩⟩, hk.1.2⟩))).1 k_ hk_.symm) ?aF ?aO ?aB ?aS ?aL ?_; (case aP => exact k47_mkM _ _ _ (⟨(rdOf ByteArray.empty a2 aK), aQ⟩ : S47) (Kd.R_mono (Kd.R_tight rfl (Kd.R_mono (ok' := fun k_ => ((fun k_ => some k_ ≠ (u227001 : Value).ownBlock ∧ some k_ ≠ (u227004 : Value).ownBlock ∧ k_ ≠ aJ)) k_ ∧ some k_ ≠ (u227005 : Value).ownBlock) (Kd.R_types (Kd.R_apart' (HO_248001.out) (Kd.S_typed O5.out) (by decide)) K4.out (by decide)) (fun k_ hk => ⟨⟨hk.1.1.1, ⟨hk.1.1.2, hk.2⟩⟩, hk.1.2⟩))) (fun _ h_ => h_))); (case aB => exact (by repeat (first | (with_reducible first | exact HB.out | apply wA_ | apply wN_ | apply wD_ | refine wS_ ?_ az.out | refine wS_ ?_ aC.out | refine wS_ ?_ am.out | refine wS_ ?_ a9.out) | exact HB.out))); (case aF => exact (fun k_ hk => ⟨Kd.fresh' (Kd.R_lt (Qr O1.out)) k_ hk, Kd.fresh' (Kd.R_lt (Qr O4.out)) k_ hk, Kd.freshB (g := aJ) (o := .cells #[.string (rdOf ByteArray.empty a2 aK), .slice Ao133 aQ.length co133] 47 (0, 0)) (Qb K4.out) k_ hk⟩)); (case aO => exact (by (with_reducible repeat (first | apply tA_ | apply tN_ | apply tD_)); exact Kd.S_mono O5.out (fun k_ hk => ⟨⟨hk.1, ⟨hk.2.1, hk.2.2.2⟩⟩, fun e_ => hk.2.2.1 e_⟩))); (case aS => exact (below_size (by repeat (first | (with_reducible first | exact HB.out | apply wA_ | apply wN_ | apply wD_ | refine wS_ ?_ az.out | refine wS_ ?_ aC.out | refine wS_ ?_ am.out | refine wS_ ?_ a9.out) | exact HB.out)))); (case aL => have := cp.out; omega); intro v257 w132 ho hb hg hat; rw [← dn.out] at ho; have aD := Aside0.mk (Kd.R_over' (Qr O1.out) (Kd.S_typed (by (with_reducible repeat (first | apply tA_ | apply tN_ | apply tD_)); exact O5.out)) (by decide) hg); have aE := Aside0.mk (Kd.R_over' (Qr O4.out) (Kd.S_typed (by (with_reducible repeat (first | apply tA_ | apply tN_ | apply tD_)); exact O5.out)) (by decide) hg); have aG := Aside0.mk (blk_grown (g := ab) (o := .cells #[.int .i64 ah, .int .i64 ag, .int .i64 ai, .int .i64 aj, .slice av ad.length ap, .slice (some ad248) ae.length aq, .slice au af.length ar, .int .i64 ak] 24 (0, 0)) (Qb K1.out) hg (Kd.S_ne O5.out K1.out (by decide))); have aH := Aside0.mk (blk_grown (g := ac) (o := .cells zT_ 29 (0, 0)) (Qb K2.out) hg (Kd.S_ne O5.out K2.out (by decide))); have aI := Aside0.mk (blk_grown (g := aa) (o := .cells #[.string ao, u227001, .string ax, .string ay, u227004, u227005, .slice none 0 0, .string (⟨#[]⟩ : ByteArray)] 29 (0, 0)) (Qb K3.out) hg (Kd.S_ne O5.out K3.out (by decide))); have aM := Aside0.mk (blk_grown (g := aJ) (o := .cells #[.string (rdOf ByteArray.empty a2 aK), .slice Ao133 aQ.length co133] 47 (0, 0)) (Qb K4.out) hg (Kd.S_away O5.out (fun _ hk => hk.2.2.2))); have aR := Aside0.mk (hb); have aX := Aside0.mk (ho); clear O1; clear O4; clear K1; clear K2; clear K3; clear K4; clear HB; clear O5; clear HO_248001; have O1 := aD; have O4 := aE; have K1 := aG; have K2 := aH; have K3 := aI; have K4 := aM; have HB := aR; have ce := aX; clear aD aE aG aH aI aM aR aX; clear ho hb hg hat; obtain ⟨Ao134, co134, eo134⟩ := Kd.S_slice ce.out; subst eo134; obtain ⟨dP, dQ, dR, dS, dT, dU, dV, dW, f135_0, f135_1, f135_2, f135_3, f135_4, f135_5, f135_6, f135_7⟩ := cells8 K3.out))
                      go_roundg k7
                      case measure => have := HJ7.out; have := HJ36.out; have := HK3.out; have := HJ50.out; have := HK5.out; have := HJ90.out; have := HK7.out; omega
                      case rel => exact ⟨(wrap64 (aK + 1)), (bA), (.slice Ao134 bA.length co134), Qs, H', ⟨by have := HJ7.out; have := HJ36.out; have := HK3.out; have := HJ50.out; have := HK5.out; have := HJ90.out; have := HK7.out; omega⟩, ⟨by (with_reducible repeat (first | apply rA_ | apply rN_ | apply rD_)); exact Kd.R_mono (Kd.R_far (p := ⟨aa, 5, none⟩) (Kd.R_types O1.out K3.out (by decide)) (fun _ hk => hk.2) (.slice Ao134 bA.length co134)) (fun _ hk => hk.1.1)⟩, ⟨by (with_reducible repeat (first | apply rA_ | apply rN_ | apply rD_)); exact Kd.R_mono (Kd.R_far (p := ⟨aa, 5, none⟩) (Kd.R_types O4.out K3.out (by decide)) (fun _ hk => hk.2) (.slice Ao134 bA.length co134)) (fun _ hk => hk.1.1)⟩, ⟨by (with_reducible repeat (first | apply tA_ | apply tN_ | apply tD_)); exact Kd.S_mono (Kd.S_far (p := ⟨aa, 5, none⟩) (Kd.S_types ce.out K3.out (by decide)) (fun _ hk => hk.2) (.slice Ao134 bA.length co134)) (fun _ hk => ⟨hk.1.1, hk.1.2.1⟩)⟩, ⟨by (with_reducible repeat (first | refine bN_ ?_ _ | refine bD_ ?_ | refine bA_ ?_ _)); refine blk_far ?_ N13.out _; (with_reducible repeat (first | refine bN_ ?_ _ | refine bD_ ?_ | refine bA_ ?_ _)); exact K1.out⟩, ⟨by (with_reducible repeat (first | refine bN_ ?_ _ | refine bD_ ?_ | refine bA_ ?_ _)); refine blk_far ?_ N23.out _; (with_reducible repeat (first | refine bN_ ?_ _ | refine bD_ ?_ | refine bA_ ?_ _)); exact K2.out⟩, ⟨by (with_reducible repeat (first | refine bN_ ?_ _ | refine bD_ ?_ | refine bA_ ?_ _)); refine blk_put (cs := #[.string ao, u227001, .string ax, .string ay, u227004, u227005, .slice none 0 0, .string (⟨#[]⟩ : ByteArray)]) ?_ 5 _ rfl; (with_reducible repeat (first | refine bN_ ?_ _ | refine bD_ ?_ | refine bA_ ?_ _)); exact K3.out⟩, ⟨by repeat (first | (with_reducible first | exact HB.out | apply wA_ | apply wN_ | apply wD_ | refine wS_ ?_ az.out | refine wS_ ?_ aC.out | refine wS_ ?_ am.out | refine wS_ ?_ a9.out) | exact HB.out)⟩⟩
                     ·rw [if_neg c124] at H
                      exact absurd H (by simp)
                 ·rw [if_neg c102] at H
                  exact absurd H (by simp)
                ·rw [if_neg c101] at H
                 exact absurd H (by simp)
               ·rw [if_neg c100] at H
                exact absurd H (by simp)
              ·replace c99 := Bool.eq_false_iff.mpr c99
               subst c99
               have H1 : (mD.l4 kj90 0 ah ag ai aj ad ae af ak ao x1_ ax ay x4_ x5_ ([] : List ByteArray) (⟨#[]⟩ : ByteArray)) = some (r1, r2, r3, r4, r5, r6, r7, r8) := by rw [if_neg (show ¬ (false = true) by decide)] at H; exact H
               clear H
               have H := H1
               clear H1
               have H' := Aside0.mk H
               clear H
               go_wp2
               go_loopg [12] kj90 (fun kq v12 w' => ∃ (aV : Int) (aN : List ByteArray) (u227006 : Value), v12 = .int .i64 aV ∧ Aside0 (mD.l4 kq aV ah ag ai aj ad ae af ak ao x1_ ax ay x4_ x5_ aN (⟨#[]⟩ : ByteArray) = some (r1, r2, r3, r4, r5, r6, r7, r8)) ∧ Aside0 (kq ≤ kj90) ∧ Aside0 (Kd.R Kd.string 9 w' w.heap.size (fun k_ => some k_ ≠ (u227004 : Value).ownBlock ∧ some k_ ≠ (u227006 : Value).ownBlock) u227001 x1_) ∧ Aside0 (Kd.R Kd.string 9 w' w.heap.size (fun k_ => some k_ ≠ (u227001 : Value).ownBlock ∧ some k_ ≠ (u227006 : Value).ownBlock) u227004 x4_) ∧ Aside0 (Kd.S k47 47 w' w.heap.size (fun k_ => some k_ ≠ (u227001 : Value).ownBlock ∧ some k_ ≠ (u227004 : Value).ownBlock ∧ some k_ ≠ (u227006 : Value).ownBlock) u227005 x5_) ∧ Aside0 (Kd.R Kd.string 9 w' w.heap.size (fun k_ => some k_ ≠ (u227001 : Value).ownBlock ∧ some k_ ≠ (u227004 : Value).ownBlock) u227006 aN) ∧ Aside0 (w'.heap[ab]? = some (.cells #[.int .i64 ah, .int .i64 ag, .int .i64 ai, .int .i64 aj, (.slice av ad.length ap), (.slice aw ae.length aq), (.slice au af.length ar), .int .i64 ak] 24 (0, 0))) ∧ Aside0 (w'.heap[ac]? = some (.cells zT_ 29 (0, 0))) ∧ Aside0 (w'.heap[aa]? = some (.cells #[.string ao, u227001, .string ax, .string ay, u227004, u227005, u227006, .string (⟨#[]⟩ : ByteArray)] 29 (0, 0))) ∧ Aside0 (Below w.heap.size w w'))
               case atStart => exact ⟨(0), (([] : List ByteArray)), (.slice none 0 0), Qs, H', ⟨Nat.le_refl _⟩, ⟨by (with_reducible repeat (first | apply rA_ | apply rN_ | apply rD_)); exact Kd.R_mono O1.out (fun _ hk => ⟨hk, (by simp [Value.ownBlock])⟩)⟩, ⟨by (with_reducible repeat (first | apply rA_ | apply rN_ | apply rD_)); exact Kd.R_mono O4.out (fun _ hk => ⟨hk, (by simp [Value.ownBlock])⟩)⟩, ⟨by (with_reducible repeat (first | apply tA_ | apply tN_ | apply tD_)); exact Kd.S_mono O5.out (fun _ hk => ⟨hk.1, ⟨hk.2, (by simp [Value.ownBlock])⟩⟩)⟩, ⟨by first | exact Kd.R_nil _ _ _ _ _ | exact Kd.N_nil _ _ _ _ _ | exact Kd.V_nil _ _ _ _ _ | exact Kd.Q_nil _ _ _ _ _ | exact Kd.S_nil _ _ _ _ _⟩, ⟨Qb K1.out⟩, ⟨Qb K2.out⟩, ⟨Qb K3.out⟩, ⟨Qz HB.out az.out aC.out am.out⟩⟩
               case round =>
                clear H'
                try clear c129
                try clear f113_0 f113_1 f113_2 f113_3 f113_4 f113_5 f113_6 f113_7
                try clear q246
                obtain ⟨aV, aN, u227006, rfl, HA, HK7, O1, O4, O5, O6, K1, K2, K3, HB⟩ := hrel
                cases gk with
                | zero => exact absurd HA.out (by simp [mD.l4])
                | succ k7 =>
                 have H := HA.out
                 clear HA
                 simp only [mD.l4] at H
                 by_cases c136 : aV < (af.length : Int)
                 ·rw [if_pos c136] at H
                  have cq : decide (aV < (af.length : Int)) = true := decide_eq_true c136
                  clear c136
                  by_cases c137 : aV < 3
                  ·rw [if_pos c137] at H
                   have cr : decide (aV < 3) = true := decide_eq_true c137
                   clear c137
                   obtain ⟨bw, br⟩ : ∃ y_ : List ByteArray, y_ = (([(⟨#[97]⟩ : ByteArray), (⟨#[117, 115]⟩ : ByteArray), (⟨#[112, 114, 105, 118, 97, 116, 101, 49]⟩ : ByteArray), (⟨#[120]⟩ : ByteArray)] : List ByteArray)) := ⟨_, rfl⟩
                   replace H : (if 0 ≤ aV then ((r6_Pick.f bw (rd af aV)).bind fun bB => (if aN.length < 8796093022208 then (mD.l4 k7 (wrap64 (aV + 1)) ah ag ai aj ad ae af ak ao x1_ ax ay x4_ x5_ (aN ++ [bB]) (⟨#[]⟩ : ByteArray)) else (none))) else (none)) = some (r1, r2, r3, r4, r5, r6, r7, r8) := by first | (rw [br]; with_reducible exact H) | (have H2_ := (Option.bind_some _ _).symm.trans H; rw [br]; with_reducible exact H2_) | (have H2_ := (Option.bind_some _ _).symm.trans H; with_reducible exact H2_) | with_reducible exact H | (rw [br]; exact H) | exact H
                   have cf := Aside0.mk br
                   clear br
                   by_cases c138 : 0 ≤ aV
                   ·rw [if_pos c138] at H
                    have dX : decide (0 ≤ aV) = true := decide_eq_true c138
                    clear c138
                    replace H := Option.bind_eq_some_iff.mp H
                    obtain ⟨bB, A1412, H⟩ := H
                    try dsimp only at H
                    have dY := Aside0.mk A1412
                    clear A1412
                    by_cases c140 : aN.length < 8796093022208
                    ·rw [if_pos c140] at H
                     have ct := Aside0.mk c140
                     clear c140
                     obtain ⟨bx, bs⟩ : ∃ y_ : List ByteArray, y_ = (aN ++ [bB]) := ⟨_, rfl⟩
                     replace H : (mD.l4 k7 (wrap64 (aV + 1)) ah ag ai aj ad ae af ak ao x1_ ax ay x4_ x5_ bx (⟨#[]⟩ : ByteArray)) = some (r1, r2, r3, r4, r5, r6, r7, r8) := by first | (rw [bs]; with_reducible exact H) | (have H2_ := (Option.bind_some _ _).symm.trans H; rw [bs]; with_reducible exact H2_) | (have H2_ := (Option.bind_some _ _).symm.trans H; with_reducible exact H2_) | with_reducible exact H | (rw [bs]; exact H) | exact H
                     have dp := Aside0.mk bs
                     clear bs
                     have H' := Aside0.mk H
                     clear H
                     have hnb141 := N12.out
                     have hnc141 := N21.out
                     have hnb142 := N13.out
                     have hnc142 := N31.out
                     obtain ⟨dZ, d0, d1, d2, d3, d4, d5, d6, f143_0, f143_1, f143_2, f143_3, f143_4, f143_5, f143_6, f143_7⟩ := cells8 K1.out
                     try go_wp2
                     have aD := Aside0.mk (rD_ O1.out)
                     have aE := Aside0.mk (rD_ O4.out)
                     have aG := Aside0.mk (tD_ O5.out)
                     have aH := Aside0.mk (rD_ O6.out)
                     have aI := Aside0.mk (bD_ K1.out)
                     have aM := Aside0.mk (bD_ K2.out)
                     have aR := Aside0.mk (bD_ K3.out)
                     have aX := Aside0.mk (wD_ HB.out)
                     clear O1 O4 O5 O6 K1 K2 K3 HB
                     have O1 := aD; have O4 := aE; have O5 := aG; have O6 := aH; have K1 := aI; have K2 := aM; have K3 := aR; have HB := aX
                     clear aD aE aG aH aI aM aR aX
                     have p262 : 0 ≤ (aV : Int) := of_decide_eq_true Qa
                     have q262 : aV < (af.length : Int) := of_decide_eq_true Qa
                     obtain ⟨ad262, e262, hx262_0⟩ := Kd.at_int cM.out aV p262 q262
                     have hw262_0 := hx262_0
                     cases e262
                     replace hx262_0 := (HB.out.cell (World.block_lt_of_cell? w _ hx262_0)).trans hx262_0
                     replace p262 := eq_true p262
                     replace q262 := eq_true q262
                     refine start_ (n := 13) (S := fun w' => w'.cell? ⟨aa, 0, none⟩ = some (.string ao) ∧ w'.cell? ⟨aa, 1, none⟩ = some (u227001) ∧ w'.cell? ⟨aa, 2, none⟩ = some (.string ax) ∧ w'.cell? ⟨aa, 3, none⟩ = some (.string ay) ∧ w'.cell? ⟨aa, 4, none⟩ = some (u227004) ∧ w'.cell? ⟨aa, 5, none⟩ = some (u227005) ∧ w'.cell? ⟨aa, 6, none⟩ = some (u227006) ∧ w'.cell? ⟨aa, 7, none⟩ = some (.string (⟨#[]⟩ : ByteArray)) ∧ w'.cell? ⟨ab, 0, none⟩ = some (.int .i64 ah) ∧ w'.cell? ⟨ab, 1, none⟩ = some (.int .i64 ag) ∧ w'.cell? ⟨ab, 2, none⟩ = some (.int .i64 ai) ∧ w'.cell? ⟨ab, 3, none⟩ = some (.int .i64 aj) ∧ w'.cell? ⟨ab, 4, none⟩ = some (.slice av ad.length ap) ∧ w'.cell? ⟨ab, 5, none⟩ = some (.slice aw ae.length aq) ∧ w'.cell? ⟨ab, 6, none⟩ = some (.slice (some ad262) af.length ar) ∧ w'.cell? ⟨ab, 7, none⟩ = some (.int .i64 ak) ∧ w'.cell? (ad262.add (aV).toNat) = some (.int .i64 (rd af aV))) (ds := [12]) #[false, false, false, false, false, false, false, false, false, false, false, false, false] (by kernel_rfl) rfl rfl ⟨(bC_ K3.out 0).trans rfl, (bC_ K3.out 1).trans rfl, (bC_ K3.out 2).trans rfl, (bC_ K3.out 3).trans rfl, (bC_ K3.out 4).trans rfl, (bC_ K3.out 5).trans rfl, (bC_ K3.out 6).trans rfl, (bC_ K3.out 7).trans rfl, (bC_ K1.out 0).trans rfl, (bC_ K1.out 1).trans rfl, (bC_ K1.out 2).trans rfl, (bC_ K1.out 3).trans rfl, (bC_ K1.out 4).trans rfl, (bC_ K1.out 5).trans rfl, (bC_ K1.out 6).trans rfl, (bC_ K1.out 7).trans rfl, ((HB.out.cell (World.block_lt_of_cell? w _ hw262_0)).trans hw262_0)⟩ (fun hHeld => ?_); refine with_tabW mD.tab28 mD.bits28 (fun HT_ HW_ => ?_)
                     generalize wr.drew = w144 at O1 O4 O5 O6 K1 K2 K3 HB hx262_0 hHeld ⊢
                     refine pu_ (i := 0) (N := some 147) HT_ (bl_ 13 1) ?_
                     refine pu_ (i := 3) (N := some 150) HT_ (bl_ 13 9) ?_
                     refine pu_ (i := 5) (N := some 152) HT_ (bl_ 13 41) ?_
                     refine tk_ (i := 1) (N := some 148) HT_ HW_ (bl_ 13 43) hHeld ?_ (hy := by rintro w' ⟨s0, s1, s2, s3, s4, s5, s6, s7, s8, s9, s10, s11, s12, s13, s14, s15, s16⟩; go_simp; with_reducible rfl)
                     refine tk_ (i := 4) (N := some 151) HT_ HW_ (bl_ 13 59) hHeld ?_ (hy := by rintro w' ⟨s0, s1, s2, s3, s4, s5, s6, s7, s8, s9, s10, s11, s12, s13, s14, s15, s16⟩; go_simp; with_reducible rfl)
                     refine pu_ (i := 6) (N := some 153) HT_ (bl_ 13 123) ?_
                     refine tk_ (i := 7) (N := some 154) HT_ HW_ (bl_ 13 251) hHeld ?_ (hy := by rintro w' ⟨s0, s1, s2, s3, s4, s5, s6, s7, s8, s9, s10, s11, s12, s13, s14, s15, s16⟩; go_simp; with_reducible rfl)
                     refine on_ (i := 2) (N := some 149) HT_ (bl_ 13 255) rfl rfl (fun K hK => ?_)
                     refine Kd.R_lit_step Kd.string _ 9 ?hg (N := 149) ?hd (xs := ([(⟨#[97]⟩ : ByteArray), (⟨#[117, 115]⟩ : ByteArray), (⟨#[112, 114, 105, 118, 97, 116, 101, 49]⟩ : ByteArray), (⟨#[120]⟩ : ByteArray)] : List ByteArray)) (inner := [.string (⟨#[97]⟩ : ByteArray), .string (⟨#[117, 115]⟩ : ByteArray), .string (⟨#[112, 114, 105, 118, 97, 116, 101, 49]⟩ : ByteArray), .string (⟨#[120]⟩ : ByteArray)]) (ok := fun _ => True) (okp := fun _ => True) ?hr ?hp (fun _ hk => hk) trivial (Below.refl _ _) (Nat.le_refl _) (by simp) ?_; (case hd => rfl); (case hg => rfl); (case hr => first | (go_simp; done) | (go_simp; rfl)); (case hp => exact (Reps.one (show Kd.M Kd.string _ _ _ (⟨#[97]⟩ : ByteArray) [.string (⟨#[97]⟩ : ByteArray)] from rfl) (Reps.one (show Kd.M Kd.string _ _ _ (⟨#[117, 115]⟩ : ByteArray) [.string (⟨#[117, 115]⟩ : ByteArray)] from rfl) (Reps.one (show Kd.M Kd.string _ _ _ (⟨#[112, 114, 105, 118, 97, 116, 101, 49]⟩ : ByteArray) [.string (⟨#[112, 114, 105, 118, 97, 116, 101, 49]⟩ : ByteArray)] from rfl) (Reps.one (show Kd.M Kd.string _ _ _ (⟨#[120]⟩ : ByteArray) [.string (⟨#[120]⟩ : ByteArray)] from rfl) (Reps.none _ _))))))
                     intro v260 w145 ho146 hb hg_ hnew_
                     clear hg_ hnew_
                     (first | rw [← cf.out] at ho146 | (simp only [Int.reduceToNat] at ho146; rw [← cf.out] at ho146))
                     have aD := Aside0.mk (Kd.R_elder' (Qr O1.out) (Kd.R_base ho146) hb)
                     have aE := Aside0.mk (Kd.R_elder' (Qr O4.out) (Kd.R_base ho146) hb)
                     have aG := Aside0.mk (Kd.S_elder' (by (with_reducible repeat (first | apply tA_ | apply tN_ | apply tD_)); exact O5.out) (Kd.R_base ho146) hb)
                     have aH := Aside0.mk (Kd.R_elder' (Qr O6.out) (Kd.R_base ho146) hb)
                     have aI := Aside0.mk (Kd.R_lower (Kd.R_new' (Kd.R_new' (Kd.R_new' ho146 (Kd.R_lt (Qr O1.out))) (Kd.R_lt (Qr O4.out))) (Kd.R_lt (Qr O6.out))) (below_size (Qz HB.out az.out aC.out am.out)))
                     have aM := Aside0.mk (blk_below (g := ab) (o := .cells #[.int .i64 ah, .int .i64 ag, .int .i64 ai, .int .i64 aj, .slice av ad.length ap, .slice aw ae.length aq, .slice (some ad262) af.length ar, .int .i64 ak] 24 (0, 0)) (Qb K1.out) hb)
                     have aR := Aside0.mk (blk_below (g := ac) (o := .cells zT_ 29 (0, 0)) (Qb K2.out) hb)
                     have aX := Aside0.mk (blk_below (g := aa) (o := .cells #[.string ao, u227001, .string ax, .string ay, u227004, u227005, u227006, .string (⟨#[]⟩ : ByteArray)] 29 (0, 0)) (Qb K3.out) hb)
                     have aZ := Aside0.mk (below_step (Qz HB.out az.out aC.out am.out) hb)
                     clear O1 O4 O5 O6 K1 K2 K3 HB
                     have O1 := aD; have O4 := aE; have O5 := aG; have O6 := aH; have bc := aI; have K1 := aM; have K2 := aR; have K3 := aX; have HB := aZ
                     clear aD aE aG aH aI aM aR aX aZ hb ho146
                     obtain ⟨Ao147, co147, eo147⟩ := Kd.R_slice bc.out
                     (first | subst eo147 | (injection eo147 with f1_ f2_ f3_; have f4_ := f1_.symm; have f5_ := f3_.symm; clear f1_ f2_ f3_; subst f4_; subst f5_))
                     refine hK.out _ _ ⟨(bC_ K3.out 0).trans rfl, (bC_ K3.out 1).trans rfl, (bC_ K3.out 2).trans rfl, (bC_ K3.out 3).trans rfl, (bC_ K3.out 4).trans rfl, (bC_ K3.out 5).trans rfl, (bC_ K3.out 6).trans rfl, (bC_ K3.out 7).trans rfl, (bC_ K1.out 0).trans rfl, (bC_ K1.out 1).trans rfl, (bC_ K1.out 2).trans rfl, (bC_ K1.out 3).trans rfl, (bC_ K1.out 4).trans rfl, (bC_ K1.out 5).trans rfl, (bC_ K1.out 6).trans rfl, (bC_ K1.out 7).trans rfl, ((HB.out.cell (World.block_lt_of_cell? w _ hw262_0)).trans hw262_0)⟩ (fun hHeld => ?_)
                     clear hK K
                     refine nm_ (some 149) ?_
                     refine on_ (i := 8) (N := some 155) HT_ (bl_ 13 511) rfl rfl (fun K hK => ?_)
                     refine goes_ Tryz.func32 (by kernel_rfl) rfl #[.slice Ao147 bw.length co147, .int .i64 (rd af aV)] (by rfl) rfl rfl Qm ?_
                     with_reducible refine (r6_Pick.calls _ _ bw (rd af aV) bB _ ?side1 ?side2 dY.out).mono ?_
                     (case side1 => repeat (first | exact (Kd.R_reads' bc.out).2.2 | (with_reducible refine Kd.C_alloc ?_ _) | (with_reducible refine Kd.C_drewN ?_ _) | (with_reducible refine Kd.C_drew ?_)))
                     (case side2 => exact (Kd.R_reads' bc.out).2.1)
                     rintro e w' ⟨rfl, ⟨nd, rfl⟩⟩
                     refine ⟨_, rfl, ?_⟩
                     refine hK.out _ _ ⟨(bC_ K3.out 0).trans rfl, (bC_ K3.out 1).trans rfl, (bC_ K3.out 2).trans rfl, (bC_ K3.out 3).trans rfl, (bC_ K3.out 4).trans rfl, (bC_ K3.out 5).trans rfl, (bC_ K3.out 6).trans rfl, (bC_ K3.out 7).trans rfl, (bC_ K1.out 0).trans rfl, (bC_ K1.out 1).trans rfl, (bC_ K1.out 2).trans rfl, (bC_ K1.out 3).trans rfl, (bC_ K1.out 4).trans rfl, (bC_ K1.out 5).trans rfl, (bC_ K1.out 6).trans rfl, (bC_ K1.out 7).trans rfl, ((HB.out.cell (World.block_lt_of_cell? w _ hw262_0)).trans hw262_0)⟩ (fun hHeld => ?_)
                     clear hK K
                     refine nm_ (some 155) ?_
                     refine on_ (i := 9) (N := some 156) HT_ (bl_ 13 1023) rfl rfl (fun K hK => ?_)
                     refine value_ (w1 := ?_) (v := ?_) (by rfl) rfl ?_ ?_
                     rotate_left 2
                     ·go_simp
                      constructor
                      ·rfl
                      ·rfl
                     refine hK.out _ _ ⟨(bC_ (bA_ K3.out _) 0).trans rfl, (bC_ (bA_ K3.out _) 1).trans rfl, (bC_ (bA_ K3.out _) 2).trans rfl, (bC_ (bA_ K3.out _) 3).trans rfl, (bC_ (bA_ K3.out _) 4).trans rfl, (bC_ (bA_ K3.out _) 5).trans rfl, (bC_ (bA_ K3.out _) 6).trans rfl, (bC_ (bA_ K3.out _) 7).trans rfl, (bC_ (bA_ K1.out _) 0).trans rfl, (bC_ (bA_ K1.out _) 1).trans rfl, (bC_ (bA_ K1.out _) 2).trans rfl, (bC_ (bA_ K1.out _) 3).trans rfl, (bC_ (bA_ K1.out _) 4).trans rfl, (bC_ (bA_ K1.out _) 5).trans rfl, (bC_ (bA_ K1.out _) 6).trans rfl, (bC_ (bA_ K1.out _) 7).trans rfl, (World.cell?_alloc_lt _ _ _ (World.block_lt_of_cell? _ _ (((HB.out.cell (World.block_lt_of_cell? w _ hw262_0)).trans hw262_0)))).trans (((HB.out.cell (World.block_lt_of_cell? w _ hw262_0)).trans hw262_0))⟩ (fun hHeld => ?_)
                     clear hK K
                     refine nm_ (some 156) ?_
                     refine on_ (i := 10) (N := some 157) HT_ (bl_ 13 2047) rfl rfl (fun K hK => ?_)
                     refine Kd.R_append_step Kd.string (w0 := w) w.heap.size (by rfl) (.tmp 148) (.tmp 156) 26 9 (.string ⟨#[]⟩) 16 rfl Tryz.underlying26 info9 rfl (by decide) (by omega) u227006 aN bB [.string bB] (fun k_ => some k_ ≠ (u227001 : Value).ownBlock ∧ some k_ ≠ (u227004 : Value).ownBlock ∧ some k_ ≠ (.slice Ao147 bw.length co147 : Value).ownBlock) (fun _ => False) rfl rfl ?aP (fun _ hk => hk.elim) ?aF ?aO ?aB ?aS ?aL ?_
                     (case aP => exact rfl)
                     (case aB => exact (Qz HB.out az.out aC.out am.out))
                     (case aF => exact (fun k_ hk => ⟨Kd.fresh' (Kd.R_lt (Qr O1.out)) k_ hk, Kd.fresh' (Kd.R_lt (Qr O4.out)) k_ hk, Kd.fresh' (Kd.R_lt (Qr bc.out)) k_ hk⟩))
                     (case aO => exact (by (with_reducible repeat (first | apply rA_ | apply rN_ | apply rD_)); exact Kd.R_mono O6.out (fun _ hk => ⟨hk.1.1, ⟨hk.1.2, hk.2⟩⟩)))
                     (case aS => exact (below_size (Qz HB.out az.out aC.out am.out)))
                     (case aL => have := ct.out; omega)
                     intro v265 w170 ho hb hg hat
                     rw [← dp.out] at ho
                     have aD := Aside0.mk (Kd.R_after (ok := (fun k_ => some k_ ≠ (u227004 : Value).ownBlock ∧ some k_ ≠ (.slice Ao147 bw.length co147 : Value).ownBlock)) (by (with_reducible repeat (first | apply rA_ | apply rN_ | apply rD_)); exact Kd.R_mono O1.out (fun _ hk => ⟨⟨hk.1.1, hk.2⟩, hk.1.2⟩)) hg hat)
                     have aE := Aside0.mk (Kd.R_after (ok := (fun k_ => some k_ ≠ (u227001 : Value).ownBlock ∧ some k_ ≠ (.slice Ao147 bw.length co147 : Value).ownBlock)) (by (with_reducible repeat (first | apply rA_ | apply rN_ | apply rD_)); exact Kd.R_mono O4.out (fun _ hk => ⟨⟨hk.1.1, hk.2⟩, hk.1.2⟩)) hg hat)
                     have aG := Aside0.mk (Kd.S_after (ok := (fun k_ => some k_ ≠ (u227001 : Value).ownBlock ∧ some k_ ≠ (u227004 : Value).ownBlock ∧ some k_ ≠ (.slice Ao147 bw.length co147 : Value).ownBlock)) (by (with_reducible repeat (first | apply tA_ | apply tN_ | apply tD_)); exact Kd.S_mono O5.out (fun _ hk => ⟨⟨hk.1.1, ⟨hk.1.2.1, hk.2⟩⟩, hk.1.2.2⟩)) hg hat)
                     have aH := Aside0.mk (blk_grown (g := ab) (o := .cells #[.int .i64 ah, .int .i64 ag, .int .i64 ai, .int .i64 aj, .slice av ad.length ap, .slice aw ae.length aq, .slice (some ad262) af.length ar, .int .i64 ak] 24 (0, 0)) (Qb K1.out) hg (Kd.R_ne O6.out K1.out (by decide)))
                     have aI := Aside0.mk (blk_grown (g := ac) (o := .cells zT_ 29 (0, 0)) (Qb K2.out) hg (Kd.R_ne O6.out K2.out (by decide)))
                     have aM := Aside0.mk (blk_grown (g := aa) (o := .cells #[.string ao, u227001, .string ax, .string ay, u227004, u227005, u227006, .string (⟨#[]⟩ : ByteArray)] 29 (0, 0)) (Qb K3.out) hg (Kd.R_ne O6.out K3.out (by decide)))
                     have aR := Aside0.mk (Kd.R_after (ok := (fun k_ => some k_ ≠ (u227001 : Value).ownBlock ∧ some k_ ≠ (u227004 : Value).ownBlock)) (by (with_reducible repeat (first | apply rA_ | apply rN_ | apply rD_)); exact Kd.R_mono bc.out (fun _ hk => ⟨⟨hk.1.1.2, hk.1.2⟩, hk.2⟩)) hg hat)
                     have aX := Aside0.mk (hb)
                     have aZ := Aside0.mk (ho)
                     clear O1 O4 O5 K1 K2 K3 bc HB O6
                     have O1 := aD; have O4 := aE; have O5 := aG; have K1 := aH; have K2 := aI; have K3 := aM; have bc := aR; have HB := aX; have cg := aZ
                     clear aD aE aG aH aI aM aR aX aZ ho hb hg hat
                     obtain ⟨Ao171, co171, eo171⟩ := Kd.R_slice cg.out
                     (first | subst eo171 | (injection eo171 with f1_ f2_ f3_; have f4_ := f1_.symm; have f5_ := f3_.symm; clear f1_ f2_ f3_; subst f4_; subst f5_))
                     refine hK.out _ _ ⟨(bC_ K3.out 0).trans rfl, (bC_ K3.out 1).trans rfl, (bC_ K3.out 2).trans rfl, (bC_ K3.out 3).trans rfl, (bC_ K3.out 4).trans rfl, (bC_ K3.out 5).trans rfl, (bC_ K3.out 6).trans rfl, (bC_ K3.out 7).trans rfl, (bC_ K1.out 0).trans rfl, (bC_ K1.out 1).trans rfl, (bC_ K1.out 2).trans rfl, (bC_ K1.out 3).trans rfl, (bC_ K1.out 4).trans rfl, (bC_ K1.out 5).trans rfl, (bC_ K1.out 6).trans rfl, (bC_ K1.out 7).trans rfl, ((HB.out.cell (World.block_lt_of_cell? w _ hw262_0)).trans hw262_0)⟩ (fun hHeld => ?_)
                     clear hK K
                     refine nm_ (some 157) ?_
                     refine pu_ (i := 11) (N := some 158) HT_ (bl_ 13 4095) ?_
                     refine last_ (i := 12) (N := none) #[true, true, true, true, true, true, true, true, true, true, true, true, true] rfl rfl (one_of HT_.out (by kernel_rfl)) (by decide) (fun K hK => ?_)
                     have hs172 : w170.cell? ⟨aa, 6, none⟩ = some (u227006) := (bC_ K3.out 6).trans rfl
                     have hfs172 := bF_ K3.out 6
                     have hns172_0 := N13.out
                     have hns172_1 := N23.out
                     have hms172_0 := N31.out
                     have hms172_1 := N32.out
                     refine skip_ (w1 := ?_) (by rfl) rfl ?_ ?_
                     rotate_left
                     ·go_simp
                      rfl
                     refine hK.out _ _ ?_
                     clear hK K
                     refine done_ (done_of HT_.out (by kernel_rfl)) ?_
                     try go_wp2
                     go_roundg k7
                     case measure => have := HJ7.out; have := HJ36.out; have := HK3.out; have := HJ50.out; have := HK5.out; have := HJ90.out; have := HK7.out; omega
                     case rel => exact ⟨(wrap64 (aV + 1)), (bx), (.slice Ao171 bx.length co171), Qs, H', ⟨by have := HJ7.out; have := HJ36.out; have := HK3.out; have := HJ50.out; have := HK5.out; have := HJ90.out; have := HK7.out; omega⟩, ⟨by (with_reducible repeat (first | apply rA_ | apply rN_ | apply rD_)); exact Kd.R_mono (Kd.R_far (p := ⟨aa, 6, none⟩) (Kd.R_types O1.out K3.out (by decide)) (fun _ hk => hk.2) (.slice Ao171 bx.length co171)) (fun _ hk => ⟨hk.1.1.1, hk.1.2⟩)⟩, ⟨by (with_reducible repeat (first | apply rA_ | apply rN_ | apply rD_)); exact Kd.R_mono (Kd.R_far (p := ⟨aa, 6, none⟩) (Kd.R_types O4.out K3.out (by decide)) (fun _ hk => hk.2) (.slice Ao171 bx.length co171)) (fun _ hk => ⟨hk.1.1.1, hk.1.2⟩)⟩, ⟨by (with_reducible repeat (first | apply tA_ | apply tN_ | apply tD_)); exact Kd.S_mono (Kd.S_far (p := ⟨aa, 6, none⟩) (Kd.S_types O5.out K3.out (by decide)) (fun _ hk => hk.2) (.slice Ao171 bx.length co171)) (fun _ hk => ⟨hk.1.1.1, ⟨hk.1.1.2.1, hk.1.2⟩⟩)⟩, ⟨by (with_reducible repeat (first | apply rA_ | apply rN_ | apply rD_)); exact Kd.R_mono (Kd.R_far (p := ⟨aa, 6, none⟩) (Kd.R_types cg.out K3.out (by decide)) (fun _ hk => hk.2) (.slice Ao171 bx.length co171)) (fun _ hk => ⟨hk.1.1, hk.1.2.1⟩)⟩, ⟨by (with_reducible repeat (first | refine bN_ ?_ _ | refine bD_ ?_ | refine bA_ ?_ _)); refine blk_far ?_ N13.out _; (with_reducible repeat (first | refine bN_ ?_ _ | refine bD_ ?_ | refine bA_ ?_ _)); exact K1.out⟩, ⟨by (with_reducible repeat (first | refine bN_ ?_ _ | refine bD_ ?_ | refine bA_ ?_ _)); refine blk_far ?_ N23.out _; (with_reducible repeat (first | refine bN_ ?_ _ | refine bD_ ?_ | refine bA_ ?_ _)); exact K2.out⟩, ⟨by (with_reducible repeat (first | refine bN_ ?_ _ | refine bD_ ?_ | refine bA_ ?_ _)); refine blk_put (cs := #[.string ao, u227001, .string ax, .string ay, u227004, u227005, u227006, .string (⟨#[]⟩ : ByteArray)]) ?_ 6 _ rfl; (with_reducible repeat (first | refine bN_ ?_ _ | refine bD_ ?_ | refine bA_ ?_ _)); exact K3.out⟩, ⟨Qz HB.out az.out aC.out am.out⟩⟩
                    ·rw [if_neg c140] at H
                     exact absurd H (by simp)
                   ·rw [if_neg c138] at H
                    exact absurd H (by simp)
                  ·rw [if_neg c137] at H
                   have cr : decide (aV < 3) = false := decide_eq_false c137
                   clear c137
                   replace H := Option.bind_eq_some_iff.mp H
                   obtain ⟨⟨cu, cv, cw, cx, cy, cz, cA, cB⟩, A1532, H⟩ := H
                   try dsimp only at H
                   have d7 := Aside0.mk A1532
                   clear A1532
                   simp only [Option.some.injEq, Prod.mk.injEq] at H
                   obtain ⟨rfl, rfl, rfl, rfl, rfl, rfl, rfl, rfl⟩ := H
                   have hnb174 := N12.out
                   have hnc174 := N21.out
                   have hnb175 := N13.out
                   have hnc175 := N31.out
                   obtain ⟨d8, d9, ea, eb, ec, ed, ee, ef, f176_0, f176_1, f176_2, f176_3, f176_4, f176_5, f176_6, f176_7⟩ := cells8 K1.out
                   have hnb177 := N32.out
                   have hnc177 := N23.out
                   obtain ⟨eg, eh, ei, ej, ek, el, em, en, f178_0, f178_1, f178_2, f178_3, f178_4, f178_5, f178_6, f178_7⟩ := cells8 K3.out
                   obtain ⟨Ao179, co179, eo179⟩ := Kd.R_slice O1.out
                   subst eo179
                   obtain ⟨Ao180, co180, eo180⟩ := Kd.R_slice O4.out
                   subst eo180
                   obtain ⟨Ao181, co181, eo181⟩ := Kd.S_slice O5.out
                   subst eo181
                   obtain ⟨Ao182, co182, eo182⟩ := Kd.R_slice O6.out
                   subst eo182
                   have hO : OwnT wr w.heap.size (.slice Ao179 x1_.length co179) (.slice Ao180 x4_.length co180) (.slice Ao181 x5_.length co181) (.slice Ao182 aN.length co182) x1_ x4_ x5_ aN := ⟨O1.out, O4.out, O5.out, O6.out⟩
                   have aI := Kd.R_ne O4.out K2.out (by decide)
                   have aM := Kd.S_ne O5.out K2.out (by decide)
                   have aR := Kd.R_ne O6.out K2.out (by decide)
                   have eo := Aside0.mk hO
                   have HN1 := Aside0.mk (And.intro aI (And.intro aM aR))
                   clear hO aI aM aR
                   go_wp2_with (go_at_call 38; refine (spoilt_calls k7 ao ax ay (⟨#[]⟩ : ByteArray) Ao179 co179 x1_ Ao180 co180 x4_ Ao181 co181 x5_ Ao182 co182 aN (Int.tmod (wrap64 ((Int.tmod ak 12) + 12)) 12) cu cv cw cx cy cz cA cB _ w.heap.size (below_size HB.out) eo.out d7.out).mono ?_; rintro e w9 ⟨v1_, v4_, v5_, v6_, rfl, ho, hb, hk⟩; have BZ := (hk ac (blk_lt K2.out) HN1.out.1 HN1.out.2.1 HN1.out.2.2).trans K2.out; have z0 := (bC_ BZ 0).trans rfl; have zf0 := bF_ BZ 0; have z1 := (bC_ BZ 1).trans rfl; have zf1 := bF_ BZ 1; have z2 := (bC_ BZ 2).trans rfl; have zf2 := bF_ BZ 2; have z3 := (bC_ BZ 3).trans rfl; have zf3 := bF_ BZ 3; have z4 := (bC_ BZ 4).trans rfl; have zf4 := bF_ BZ 4; have z5 := (bC_ BZ 5).trans rfl; have zf5 := bF_ BZ 5; have z6 := (bC_ BZ 6).trans rfl; have zf6 := bF_ BZ 6; have z7 := (bC_ BZ 7).trans rfl; have zf7 := bF_ BZ 7; have HZ := Aside0.mk BZ; obtain ⟨B1_, d1_, e1_⟩ := Kd.R_slice ho.1; subst e1_; obtain ⟨B4_, d4_, e4_⟩ := Kd.R_slice ho.2.1; subst e4_; obtain ⟨B5_, d5_, e5_⟩ := Kd.S_slice ho.2.2.1; subst e5_; obtain ⟨B6_, d6_, e6_⟩ := Kd.R_slice ho.2.2.2; subst e6_; have HP := Aside0.mk ho; have HQ := Aside0.mk hb; clear BZ ho hb hk)
                   refine bodyPost_ret (results_cell_row rfl _ _ ac 29 #[.string cu, .slice B1_ cv.length d1_, .string cw, .string cx, .slice B4_ cy.length d4_, .slice B5_ cz.length d5_, .slice B6_ cA.length d6_, .string cB] (0, 0) _ rfl (put8 HZ.out _ _ _ _ _ _ _ _) Tryz.underlying29 rfl (by kernel_rfl)) rfl ?_
                   have hs := HP.out.set8 HZ.out (.string cu) (.slice B1_ cv.length d1_) (.string cw) (.string cx) (.slice B4_ cy.length d4_) (.slice B5_ cz.length d5_) (.slice B6_ cA.length d6_) (.string cB)
                   exact ⟨_, _, _, _, rfl, hs.1, hs.2.1, hs.2.2.1, hs.2.2.2, below8 (HB.out.trans HQ.out) aC.out _ _ _ _ _ _ _ _⟩
                 ·rw [if_neg c136] at H
                  have cq : decide (aV < (af.length : Int)) = false := decide_eq_false c136
                  clear c136
                  replace H := Option.bind_eq_some_iff.mp H
                  obtain ⟨⟨cC, cD, cE, cF, cG, cH, cI, cJ⟩, A1692, H⟩ := H
                  try dsimp only at H
                  have ep := Aside0.mk A1692
                  clear A1692
                  simp only [Option.some.injEq, Prod.mk.injEq] at H
                  obtain ⟨rfl, rfl, rfl, rfl, rfl, rfl, rfl, rfl⟩ := H
                  have hnb190 := N12.out
                  have hnc190 := N21.out
                  have hnb191 := N13.out
                  have hnc191 := N31.out
                  obtain ⟨eq, er, es, eu, ev, ew, ex, ey, f192_0, f192_1, f192_2, f192_3, f192_4, f192_5, f192_6, f192_7⟩ := cells8 K1.out
                  have hnb193 := N32.out
                  have hnc193 := N23.out
                  obtain ⟨ez, eA, eB, eC, eD, eE, eF, eG, f194_0, f194_1, f194_2, f194_3, f194_4, f194_5, f194_6, f194_7⟩ := cells8 K3.out
                  obtain ⟨Ao195, co195, eo195⟩ := Kd.R_slice O1.out
                  subst eo195
                  obtain ⟨Ao196, co196, eo196⟩ := Kd.R_slice O4.out
                  subst eo196
                  obtain ⟨Ao197, co197, eo197⟩ := Kd.S_slice O5.out
                  subst eo197
                  obtain ⟨Ao198, co198, eo198⟩ := Kd.R_slice O6.out
                  subst eo198
                  have hO : OwnT wr w.heap.size (.slice Ao195 x1_.length co195) (.slice Ao196 x4_.length co196) (.slice Ao197 x5_.length co197) (.slice Ao198 aN.length co198) x1_ x4_ x5_ aN := ⟨O1.out, O4.out, O5.out, O6.out⟩
                  have aI := Kd.R_ne O4.out K2.out (by decide)
                  have aM := Kd.S_ne O5.out K2.out (by decide)
                  have aR := Kd.R_ne O6.out K2.out (by decide)
                  have eo := Aside0.mk hO
                  have HN1 := Aside0.mk (And.intro aI (And.intro aM aR))
                  clear hO aI aM aR
                  go_wp2_with (go_at_call 38; refine (spoilt_calls k7 ao ax ay (⟨#[]⟩ : ByteArray) Ao195 co195 x1_ Ao196 co196 x4_ Ao197 co197 x5_ Ao198 co198 aN (Int.tmod (wrap64 ((Int.tmod ak 12) + 12)) 12) cC cD cE cF cG cH cI cJ _ w.heap.size (below_size HB.out) eo.out ep.out).mono ?_; rintro e w9 ⟨v1_, v4_, v5_, v6_, rfl, ho, hb, hk⟩; have BZ := (hk ac (blk_lt K2.out) HN1.out.1 HN1.out.2.1 HN1.out.2.2).trans K2.out; have z0 := (bC_ BZ 0).trans rfl; have zf0 := bF_ BZ 0; have z1 := (bC_ BZ 1).trans rfl; have zf1 := bF_ BZ 1; have z2 := (bC_ BZ 2).trans rfl; have zf2 := bF_ BZ 2; have z3 := (bC_ BZ 3).trans rfl; have zf3 := bF_ BZ 3; have z4 := (bC_ BZ 4).trans rfl; have zf4 := bF_ BZ 4; have z5 := (bC_ BZ 5).trans rfl; have zf5 := bF_ BZ 5; have z6 := (bC_ BZ 6).trans rfl; have zf6 := bF_ BZ 6; have z7 := (bC_ BZ 7).trans rfl; have zf7 := bF_ BZ 7; have HZ := Aside0.mk BZ; obtain ⟨B1_, d1_, e1_⟩ := Kd.R_slice ho.1; subst e1_; obtain ⟨B4_, d4_, e4_⟩ := Kd.R_slice ho.2.1; subst e4_; obtain ⟨B5_, d5_, e5_⟩ := Kd.S_slice ho.2.2.1; subst e5_; obtain ⟨B6_, d6_, e6_⟩ := Kd.R_slice ho.2.2.2; subst e6_; have HP := Aside0.mk ho; have HQ := Aside0.mk hb; clear BZ ho hb hk)
                  refine bodyPost_ret (results_cell_row rfl _ _ ac 29 #[.string cC, .slice B1_ cD.length d1_, .string cE, .string cF, .slice B4_ cG.length d4_, .slice B5_ cH.length d5_, .slice B6_ cI.length d6_, .string cJ] (0, 0) _ rfl (put8 HZ.out _ _ _ _ _ _ _ _) Tryz.underlying29 rfl (by kernel_rfl)) rfl ?_
                  have hs := HP.out.set8 HZ.out (.string cC) (.slice B1_ cD.length d1_) (.string cE) (.string cF) (.slice B4_ cG.length d4_) (.slice B5_ cH.length d5_) (.slice B6_ cI.length d6_) (.string cJ)
                  exact ⟨_, _, _, _, rfl, hs.1, hs.2.1, hs.2.2.1, hs.2.2.2, below8 (HB.out.trans HQ.out) aC.out _ _ _ _ _ _ _ _⟩
end Go.Proofs.YtejnfbfikadpdaaGreatDoor.P
